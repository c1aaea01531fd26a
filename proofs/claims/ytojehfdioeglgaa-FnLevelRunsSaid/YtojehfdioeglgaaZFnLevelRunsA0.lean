/- Each letter that has a level is read together with others just once, with such of its level, in order; what has none never: of all drawn letters and levels, for every code. No condition beyond the statement's own. (text 1 of 5 of this claim: functions of the program and of the reference as plain Lean functions, what a call of each comes to, and what follows.) -/
import Derived.Test.YtojehfdioeglgaaProg
import Derived.Test.YtojehfdioeglgaaWWords
import Derived.Test.YtojehfdioeglgaaWLast
import Derived.Test.YtojehfdioeglgaaWQPut
import Derived.Test.YtojehfdioeglgaaWApart
import Derived.Test.YtojehfdioeglgaaWArr
import Derived.Test.YtojehfdioeglgaaWZeros
import Derived.Test.YtojehfdioeglgaaWFoot
import Derived.Test.YtojehfdioeglgaaWKept
import Derived.Test.YtojehfdioeglgaaWShare
import Derived.Test.YtojehfdioeglgaaWN
import Derived.Test.YtojehfdioeglgaaWRepsOne
import Derived.Test.YtojehfdioeglgaaWNEv
import Derived.Test.YtojehfdioeglgaaWMore
import Derived.Below
import Derived.Deep.Draws
import Derived.Deep.AppendLies
import Derived.Maps.AppendAt
import Derived.OwnWalk
import Derived.Laws.BytesArg
import Derived.Laws.MakeOwn
import Derived.Laws.OwnMore
import Derived.Deep.OwnRows
import Derived.Tactics
import Derived.Lib.ConvBytes
import Derived.Laws.Slices
import Derived.WalkKit
import Derived.KernelRfl
import Derived.RowKit3
import Derived.Deep.LoopGhost
import Derived.Deep.QuietTactic
import Derived.BigQuiet
import Derived.WideLaws
import Derived.Deep.DeepCutAuto
import Derived.Deep.CutBlock
import Derived.Deep.RegionHeld3
import Derived.Laws.Rows
import Derived.Lib.AppendStr
import Derived.ArgAppend
import Derived.Laws.IdiomCopy
import Derived.OrdersHeld
import Derived.Laws.BitsLemmas
import Derived.RowKit
import Derived.Maps.Own
import Derived.Maps.OwnOps
import Derived.Maps.Views
import Derived.Shelf.Abstract
import Derived.BigRegion
import Derived.ChangeMaps5
import Derived.Deep.RegionLaw
import Derived.LaidEqlPtr
import Derived.Laws.Cover3
import Derived.RegionTactic
import Derived.WalkArith
import Derived.WideKeyEntry
set_option maxHeartbeats 16000000
set_option maxRecDepth 100000
namespace Go.Proofs.Ytojehfdioeglgaa.S
open Go.RowKit Go.Proofs.YtojehfdioeglgaaW.PrintWords Go.Proofs.YtojehfdioeglgaaW.PrintLast
theorem az {p : Prop} (h : p) : Aside0 p := ⟨h⟩
set_option linter.unusedVariables false
set_option linter.unusedSimpArgs false
def errW : Option Int → Value
 | none => .nilIface
 | some c => .iface 0 (.int .i64 c)
theorem errW_none : errW none = .nilIface := rfl
theorem errW_some (c : Int) : errW (some c) = .iface 0 (.int .i64 c) := rfl
theorem info3 : (Try.prog.info? 3).map (fun i => (i.zero, i.size, i.bytes)) = some (some (.int .i64 0), 1, 8) := by kernel_rfl
theorem info5 : (Try.prog.info? 5).map (fun i => (i.zero, i.size, i.bytes)) = some (some (.int .u8 0), 1, 1) := by kernel_rfl
theorem info22 : (Try.prog.info? 22).map (fun i => (i.zero, i.size, i.bytes)) = some (some (.slice none 0 0), 1, 24) := by kernel_rfl
theorem info62 : (Try.prog.info? 62).map (fun i => (i.zero, i.size, i.bytes)) = some (some (.agg #[(.slice none 0 0), (.int .i64 0)]), 2, 32) := by kernel_rfl
def rd_L1 (xs : List (List Int)) (i : Int) : (List Int) := xs.getD i.toNat ([] : List Int)
theorem at_L1 {w : World} {A : Option Addr} {n : Nat} {xs : List (List Int)} (h : Kd.C (Kd.slice 3 (Kd.int .i64)) w A n xs) (i : Int) (h0 : 0 ≤ i) (h1 : i < n) : ∃ ad A0 c0, A = some ad ∧ w.cell? (ad.add i.toNat) = some (.slice A0 (rd_L1 xs i).length c0) ∧ (rd_L1 xs i).length ≤ c0 ∧ (Kd.int .i64).C w A0 (rd_L1 xs i).length (rd_L1 xs i) := by
 obtain ⟨ad, c, e, _, hK, hc0⟩ := Kd.C_get h ([] : List Int) i h0 h1
 have hc : ∀ j u, c[j]? = some u → w.cell? (ad.add (i.toNat * 1 + j)) = some u := hc0
 obtain ⟨A0, c0, rfl, l0, g0⟩ := hK
 exact ⟨ad, A0, c0, e, by have hq := hc 0 _ rfl; rwa [Nat.mul_one, Nat.add_zero] at hq, l0, g0⟩
structure S74 where
 f0 : Int
 f1 : Int
 f2 : Bool
def z74 : S74 := ⟨(0 : Int), (0 : Int), false⟩
def k74 : Kd S74 := Kd.iso (Kd.pair (Kd.int .i64) (Kd.pair (Kd.int .i64) Kd.bool)) (fun x : S74 => (x.f0, x.f1, x.f2))
theorem k74_open {w : World} {x : S74} {cs : List Value} (h : k74.K w x cs) : cs = [.int .i64 x.f0, .int .i64 x.f1, .bool x.f2] := by
 obtain ⟨_, _, rfl, rfl, ⟨_, _, rfl, rfl, rfl⟩⟩ := h
 exact rfl
theorem k74_mkM (w : World) (base : Nat) (ok : Nat → Prop) (x : S74)  : k74.M w base ok x [.int .i64 x.f0, .int .i64 x.f1, .bool x.f2] := ⟨[.int .i64 x.f0], [.int .i64 x.f1, .bool x.f2], rfl, rfl, ⟨[.int .i64 x.f1], [.bool x.f2], rfl, rfl, rfl⟩⟩
def rd_T74 (xs : List S74) (i : Int) : S74 := xs.getD i.toNat z74
theorem at_T74 {w : World} {A : Option Addr} {n : Nat} {xs : List S74} (h : Kd.C k74 w A n xs) (i : Int) (h0 : 0 ≤ i) (h1 : i < n) : ∃ ad , A = some ad ∧ w.cell? (ad.add (i.toNat * 3)) = some (.int .i64 (rd_T74 xs i).f0) ∧ w.cell? ⟨(ad.add (i.toNat * 3)).block, (ad.add (i.toNat * 3)).off + 1, none⟩ = some (.int .i64 (rd_T74 xs i).f1) ∧ w.cell? ⟨(ad.add (i.toNat * 3)).block, (ad.add (i.toNat * 3)).off + 2, none⟩ = some (.bool (rd_T74 xs i).f2) := by
 obtain ⟨ad, c, e, _, hK, hc0⟩ := Kd.C_get h z74 i h0 h1
 have hc : ∀ j u, c[j]? = some u → w.cell? (ad.add (i.toNat * 3 + j)) = some u := hc0
 obtain rfl := k74_open hK
 exact ⟨ad, e, hc 0 _ rfl, by rw [← add_field _ _ 1 (by omega)]; exact hc 1 _ rfl, by rw [← add_field _ _ 2 (by omega)]; exact hc 2 _ rfl⟩
structure S87 where
 f0 : Int
 f1 : Int
 f2 : Bool
structure S108 where
 f0 : Int
 f1 : Int
 f2 : Int
def z108 : S108 := ⟨(0 : Int), (0 : Int), (0 : Int)⟩
def k108 : Kd S108 := Kd.iso (Kd.pair (Kd.int .i64) (Kd.pair (Kd.int .i64) (Kd.int .i64))) (fun x : S108 => (x.f0, x.f1, x.f2))
theorem k108_open {w : World} {x : S108} {cs : List Value} (h : k108.K w x cs) : cs = [.int .i64 x.f0, .int .i64 x.f1, .int .i64 x.f2] := by
 obtain ⟨_, _, rfl, rfl, ⟨_, _, rfl, rfl, rfl⟩⟩ := h
 exact rfl
theorem k108_mkM (w : World) (base : Nat) (ok : Nat → Prop) (x : S108)  : k108.M w base ok x [.int .i64 x.f0, .int .i64 x.f1, .int .i64 x.f2] := ⟨[.int .i64 x.f0], [.int .i64 x.f1, .int .i64 x.f2], rfl, rfl, ⟨[.int .i64 x.f1], [.int .i64 x.f2], rfl, rfl, rfl⟩⟩
def rd_T108 (xs : List S108) (i : Int) : S108 := xs.getD i.toNat z108
theorem at_T108 {w : World} {A : Option Addr} {n : Nat} {xs : List S108} (h : Kd.C k108 w A n xs) (i : Int) (h0 : 0 ≤ i) (h1 : i < n) : ∃ ad , A = some ad ∧ w.cell? (ad.add (i.toNat * 3)) = some (.int .i64 (rd_T108 xs i).f0) ∧ w.cell? ⟨(ad.add (i.toNat * 3)).block, (ad.add (i.toNat * 3)).off + 1, none⟩ = some (.int .i64 (rd_T108 xs i).f1) ∧ w.cell? ⟨(ad.add (i.toNat * 3)).block, (ad.add (i.toNat * 3)).off + 2, none⟩ = some (.int .i64 (rd_T108 xs i).f2) := by
 obtain ⟨ad, c, e, _, hK, hc0⟩ := Kd.C_get h z108 i h0 h1
 have hc : ∀ j u, c[j]? = some u → w.cell? (ad.add (i.toNat * 3 + j)) = some u := hc0
 obtain rfl := k108_open hK
 exact ⟨ad, e, hc 0 _ rfl, by rw [← add_field _ _ 1 (by omega)]; exact hc 1 _ rfl, by rw [← add_field _ _ 2 (by omega)]; exact hc 2 _ rfl⟩
structure S62 where
 f0 : (List Int)
 f1 : Int
def z62 : S62 := ⟨([] : List Int), (0 : Int)⟩
def k62 : Kd S62 := Kd.iso (Kd.pair (Kd.slice 3 (Kd.int .i64)) (Kd.int .i64)) (fun x : S62 => (x.f0, x.f1))
theorem k62_open {w : World} {x : S62} {cs : List Value} (h : k62.K w x cs) : ∃ A0 c0, cs = [.slice A0 x.f0.length c0, .int .i64 x.f1] ∧ x.f0.length ≤ c0 ∧ (Kd.int .i64).C w A0 x.f0.length x.f0 := by
 obtain ⟨_, _, rfl, ⟨A0, c0, rfl, l0, g0⟩, rfl⟩ := h
 exact ⟨A0, c0, rfl, l0, g0⟩
theorem k62_openM {w : World} {base : Nat} {ok : Nat → Prop} {x : S62} {cs : List Value} (h : k62.M w base ok x cs) : ∃ v0, cs = [v0, .int .i64 x.f1] ∧ (Kd.int .i64).R 3 w base ok v0 x.f0 := by
 obtain ⟨_, _, rfl, ⟨v0, rfl, g0⟩, rfl⟩ := h
 exact ⟨v0, rfl, g0⟩
theorem k62_mkM (w : World) (base : Nat) (ok : Nat → Prop) (x : S62) {v0 : Value} (g0 : (Kd.int .i64).R 3 w base ok v0 x.f0) : k62.M w base ok x [v0, .int .i64 x.f1] := ⟨[v0], [.int .i64 x.f1], rfl, ⟨v0, rfl, g0⟩, rfl⟩
def rd_T62 (xs : List S62) (i : Int) : S62 := xs.getD i.toNat z62
theorem at_T62 {w : World} {A : Option Addr} {n : Nat} {xs : List S62} (h : Kd.C k62 w A n xs) (i : Int) (h0 : 0 ≤ i) (h1 : i < n) : ∃ ad A0 c0, A = some ad ∧ w.cell? (ad.add (i.toNat * 2)) = some (.slice A0 (rd_T62 xs i).f0.length c0) ∧ w.cell? ⟨(ad.add (i.toNat * 2)).block, (ad.add (i.toNat * 2)).off + 1, none⟩ = some (.int .i64 (rd_T62 xs i).f1) ∧ (rd_T62 xs i).f0.length ≤ c0 ∧ (Kd.int .i64).C w A0 (rd_T62 xs i).f0.length (rd_T62 xs i).f0 := by
 obtain ⟨ad, c, e, _, hK, hc0⟩ := Kd.C_get h z62 i h0 h1
 have hc : ∀ j u, c[j]? = some u → w.cell? (ad.add (i.toNat * 2 + j)) = some u := hc0
 obtain ⟨A0, c0, rfl, l0, g0⟩ := k62_open hK
 exact ⟨ad, A0, c0, e, hc 0 _ rfl, by rw [← add_field _ _ 1 (by omega)]; exact hc 1 _ rfl, l0, g0⟩
def impl_isLetter.f (a0 : Int) : Option (Bool) := if a0 ≥ 0 then (if a0 ≤ 1114111 then (if a0 < 55296 then (some true) else (some (decide (a0 > 57343)))) else (some false)) else (some false)
theorem impl_isLetter.calls (a0 : Int) (r : Bool) (w : World) (h : impl_isLetter.f a0 = some r) :
  Calls Try.prog 74 #[.int .i64 a0] w fun e w' => e = .returned (.bool r) ∧ Drawn0 w w' := by
 have H : (if a0 ≥ 0 then (if a0 ≤ 1114111 then (if a0 < 55296 then (some true) else (some (decide (a0 > 57343)))) else (some false)) else (some false)) = some r := h
 clear h
 by_cases c2 : a0 ≥ 0
 ·
  rw [if_pos c2] at H
  have c2b0 : decide (0 ≤ a0) = true := decide_eq_true c2
  clear c2
  by_cases c3 : a0 ≤ 1114111
  ·
   rw [if_pos c3] at H
   have c3b0 : decide (a0 ≤ 1114111) = true := decide_eq_true c3
   clear c3
   by_cases c4 : a0 < 55296
   ·
    rw [if_pos c4] at H
    have c4b0 : decide (a0 < 55296) = true := decide_eq_true c4
    clear c4
    obtain rfl := Option.some.inj H
    go_enter Try.func74, Try.ntmps74
    go_wp2
    go_ret
    exact ⟨by first | rfl | (simp; done) | (simp [*]; done), by repeat (first | exact Drawn0.refl _ | apply Drawn0.step)⟩
   ·
    rw [if_neg c4] at H
    have c4b0 : decide (a0 < 55296) = false := decide_eq_false c4
    clear c4
    obtain rfl := Option.some.inj H
    go_enter Try.func74, Try.ntmps74
    go_wp2
    go_ret
    exact ⟨by first | rfl | (simp; done) | (simp [*]; done), by repeat (first | exact Drawn0.refl _ | apply Drawn0.step)⟩
  ·
   rw [if_neg c3] at H
   have c3b0 : decide (a0 ≤ 1114111) = false := decide_eq_false c3
   clear c3
   obtain rfl := Option.some.inj H
   go_enter Try.func74, Try.ntmps74
   go_wp2
   go_ret
   exact ⟨by first | rfl | (simp; done) | (simp [*]; done), by repeat (first | exact Drawn0.refl _ | apply Drawn0.step)⟩
 ·
  rw [if_neg c2] at H
  have c2b0 : decide (0 ≤ a0) = false := decide_eq_false c2
  clear c2
  obtain rfl := Option.some.inj H
  go_enter Try.func74, Try.ntmps74
  go_wp2
  go_ret
  exact ⟨by first | rfl | (simp; done) | (simp [*]; done), by repeat (first | exact Drawn0.refl _ | apply Drawn0.step)⟩
def idxI (p : Int → Bool) (l : List Int) : Int := if l.any p then (l.findIdx p : Int) else -1
theorem idxI_hit {p : Int → Bool} {l : List Int} {k : Nat} (hk : k < l.length) (hp : p (l.getD k 0) = true) (hb : ∀ j, j < k → p (l.getD j 0) = false) : idxI p l = k := by
 have hm : l.getD k 0 = l[k] := by simp [List.getD_eq_getElem?_getD, hk]
 have ha : l.any p = true := List.any_eq_true.2 ⟨l[k], List.getElem_mem hk, by rw [← hm]; exact hp⟩
 have hf : l.findIdx p = k := by
  rw [List.findIdx_eq hk]
  refine ⟨by rw [← hm]; exact hp, fun j hj => ?_⟩
  have := hb j hj
  simpa [List.getD_eq_getElem?_getD, show j < l.length by omega] using this
 rw [idxI, if_pos ha, hf]
theorem idxI_miss {p : Int → Bool} {l : List Int} (hb : ∀ j, j < l.length → p (l.getD j 0) = false) : idxI p l = -1 := by
 have ha : ¬ l.any p = true := by
  rw [List.any_eq_true]
  rintro ⟨x, hx, hp⟩
  obtain ⟨j, hj, rfl⟩ := List.getElem_of_mem hx
  have := hb j hj
  simp [List.getD_eq_getElem?_getD, hj] at this
  rw [this] at hp
  cases hp
 rw [idxI, if_neg ha]
theorem idxI_nonneg (p : Int → Bool) (l : List Int) : decide (0 ≤ idxI p l) = l.any p := by
 unfold idxI
 cases l.any p <;> simp <;> omega
theorem idxI_calls (p : Int → Bool) (g : Nat) (lb : Array Value) (eg : ∀ args w, (callFunc g args).run Try.prog w = .ok (.enter g args) w) (A0 : Option Addr) (c0 : Nat) (l0 : List Int) (w : World) (hr0 : Kd.C (Kd.int .i64) w A0 l0.length l0)
  (hn : l0.length ≤ 9223372036854775806) (hp : ∀ W, Below w.heap.size w W → ∀ j, j < l0.length → Calls Try.prog g (#[.int .i64 (l0.getD j 0)] ++ lb) W fun e w' => e = .returned (.bool (p (l0.getD j 0))) ∧ Below w.heap.size w w') :
  Calls Try.prog 87 #[.slice A0 l0.length c0, .func (.func g) #[] lb] w fun e w' => e = .returned (.int .i64 (idxI p l0)) ∧ Below w.heap.size w w' := by
 have HR0 := az hr0
 have HP := az hp
 clear hr0 hp
 go_enter Try.func87, Try.ntmps87
 go_wp2
 go_loopg [5, 8] l0.length (fun gg _ s8 wr => ∃ kk : Nat, kk ≤ l0.length ∧ l0.length - kk ≤ gg ∧ s8 = .int .i64 kk ∧ Aside0 (Below w.heap.size w wr) ∧ Aside0 (∀ j, j < kk → p (l0.getD j 0) = false))
 case atStart => exact ⟨0, Nat.zero_le _, by omega, rfl, ⟨Below.refl _ w⟩, ⟨fun j hj => absurd hj (Nat.not_lt_zero _)⟩⟩
 case round =>
  obtain ⟨kk, hkk, hg, rfl, HB, HA⟩ := hrel
  by_cases hlt : kk < l0.length
  ·
   have hltz : (kk : Int) < (l0.length : Int) := by omega
   obtain ⟨ad, rfl, hx⟩ := Kd.at_int HR0.out (kk : Int) (by omega) hltz
   replace hx := (HB.out.cell (World.block_lt_of_cell? w _ hx)).trans hx
   have hcall := HP.out wr HB.out kk hlt
   simp only [rd, Int.toNat_natCast] at hx
   generalize hy : l0.getD kk 0 = y at hx hcall
   have HY := az hy
   clear hy
   cases hq : p y with
   | true =>
    have HQ := az hq
    rw [hq] at hcall
    clear hq
    go_wp2_with (go_at_fn g; refine hcall.mono ?_; rintro e w' ⟨rfl, hb'⟩)
    go_ret
    refine ⟨?_, hb'⟩
    rw [idxI_hit hlt (by rw [HY.out]; exact HQ.out) HA.out]
    rfl
   | false =>
    have HQ := az hq
    rw [hq] at hcall
    clear hq
    go_wp2_with (go_at_fn g; refine hcall.mono ?_; rintro e w' ⟨rfl, hb'⟩)
    go_roundg (l0.length - (kk + 1))
    case measure => omega
    case rel =>
     refine ⟨kk + 1, by omega, by omega, by go_num, ⟨hb'⟩, ⟨fun j hj => ?_⟩⟩
     by_cases e : j = kk
     ·
      subst e
      rw [HY.out]; exact HQ.out
     · exact HA.out j (by omega)
  ·
   have hltz : ¬ (kk : Int) < (l0.length : Int) := by omega
   have hk : kk = l0.length := by omega
   subst hk
   go_wp2
   go_ret
   refine ⟨?_, HB.out⟩
   rw [idxI_miss HA.out]
   rfl
def isLetV (r : Int) : Bool := decide (0 ≤ r) && decide (r ≤ 1114111) && (decide (r < 55296) || decide (57343 < r))
theorem isLet_f (r : Int) : impl_isLetter.f r = some (isLetV r) := by
 unfold impl_isLetter.f isLetV
 by_cases h0 : 0 ≤ r
 ·
  by_cases h1 : r ≤ 1114111
  ·
   by_cases h2 : r < 55296
   · simp [h0, h1, h2]
   · simp [h0, h1, h2]
  · simp [h0, h1]
 · simp [h0]
theorem hasI_calls (p : Int → Bool) (g : Nat) (lb : Array Value) (eg : ∀ args w, (callFunc g args).run Try.prog w = .ok (.enter g args) w) (A0 : Option Addr) (c0 : Nat) (l0 : List Int) (w : World) (hr0 : Kd.C (Kd.int .i64) w A0 l0.length l0)
  (hn : l0.length ≤ 9223372036854775806) (hp : ∀ W, Below w.heap.size w W → ∀ j, j < l0.length → Calls Try.prog g (#[.int .i64 (l0.getD j 0)] ++ lb) W fun e w' => e = .returned (.bool (p (l0.getD j 0))) ∧ Below w.heap.size w w') :
  Calls Try.prog 61 #[.slice A0 l0.length c0, .func (.func g) #[] lb] w fun e w' => e = .returned (.bool (l0.any p)) ∧ Below w.heap.size w w' := by
 rw [← idxI_nonneg]
 go_enter Try.func61, Try.ntmps61
 go_wp2_with (go_at_call 87; refine (idxI_calls p g lb eg A0 c0 l0 _ hr0 hn hp).mono ?_; rintro e w' ⟨rfl, hb'⟩)
 go_ret
 exact ⟨rfl, hb'⟩
def okV (l : List Int) : Bool := decide (l.length ≤ 80) && l.all isLetV
def impl_lettersOk.f (l0 : List Int) : Option Bool := some (okV l0)
theorem lettersOk_1_calls (x : Int) (W : World) : Calls Try.prog 73 #[.int .i64 x] W fun e w' => e = .returned (.bool (!isLetV x)) ∧ Drawn0 W w' := by
 go_enter Try.func73, Try.ntmps73
 go_wp2_with (go_at_call 74; refine (impl_isLetter.calls x (isLetV x) _ (isLet_f x)).mono ?_; rintro e w' ⟨rfl, ⟨nd, rfl⟩⟩)
 go_ret
 exact ⟨rfl, Drawn0.step (Drawn0.refl _) _⟩
theorem impl_lettersOk.calls (A0 : Option Addr) (c0 : Nat) (l0 : List Int) (r : Bool) (w : World) (hr0 : Kd.C (Kd.int .i64) w A0 l0.length l0) (hc0 : l0.length ≤ c0) (h : impl_lettersOk.f l0 = some r) :
  Calls Try.prog 47 #[.slice A0 l0.length c0] w fun e w' => e = .returned (.bool r) ∧ Below w.heap.size w w' := by
 obtain rfl := Option.some.inj h
 clear h
 by_cases hl : l0.length ≤ 80
 ·
  have hd : decide ((l0.length : Int) ≤ 80) = true := decide_eq_true (by omega)
  have e : okV l0 = !(l0.any fun x => !isLetV x) := by simp [okV, hl, List.all_eq_not_any_not]
  have HE := az e
  have HL := az hl
  clear e hl
  go_enter Try.func47, Try.ntmps47
  go_wp2_with (go_at_call 61; refine (hasI_calls (fun x => !isLetV x) 73 #[] (fun _ _ => by first | rfl | (go_simp; done)) A0 c0 l0 _ hr0 (by have := HL.out; omega) (fun W hb j hj => ((lettersOk_1_calls _ W).mono fun _ _ ⟨he, hd⟩ => ⟨he, hb.trans (hd.below.mono hb.size)⟩))).mono ?_; rintro e w' ⟨rfl, hb'⟩)
  go_ret
  exact ⟨by rw [HE.out]; rfl, hb'⟩
 ·
  have hd : decide ((l0.length : Int) ≤ 80) = false := decide_eq_false (by omega)
  have e : okV l0 = false := by simp [okV, hl]
  have HE := az e
  clear e hl
  go_enter Try.func47, Try.ntmps47
  go_wp2
  go_ret
  exact ⟨by rw [HE.out]; rfl, Below.refl _ _⟩
def impl_isBase.f (a0 : Int) : Option (Bool) := if a0 = 0 then (some true) else (some (a0 == 1))
theorem impl_isBase.calls (a0 : Int) (r : Bool) (w : World) (h : impl_isBase.f a0 = some r) :
  Calls Try.prog 48 #[.int .i64 a0] w fun e w' => e = .returned (.bool r) ∧ Drawn0 w w' := by
 have H : (if a0 = 0 then (some true) else (some (a0 == 1))) = some r := h
 clear h
 by_cases c2 : a0 = 0
 ·
  rw [if_pos c2] at H
  have c2b0 : (a0 == 0) = true := beq_iff_eq.mpr c2
  have c2b1 : (a0 != 0) = false := bne_eq_false_iff_eq.mpr c2
  clear c2
  obtain rfl := Option.some.inj H
  go_enter Try.func48, Try.ntmps48
  go_wp2
  go_ret
  exact ⟨by first | rfl | (simp; done) | (simp [*]; done), by repeat (first | exact Drawn0.refl _ | apply Drawn0.step)⟩
 ·
  rw [if_neg c2] at H
  have c2b0 : (a0 == 0) = false := beq_eq_false_iff_ne.mpr c2
  have c2b1 : (a0 != 0) = true := bne_iff_ne.mpr c2
  obtain rfl := Option.some.inj H
  go_enter Try.func48, Try.ntmps48
  go_wp2
  go_ret
  exact ⟨by first | rfl | (simp; done) | (simp [*]; done), by repeat (first | exact Drawn0.refl _ | apply Drawn0.step)⟩
def MapI (w : World) (b n : Nat) (f : Int → Option Int) : Prop := ∃ D : DataW Unit, w.ownsMap Try.prog 3 (plainElem (H := Unit) Try.prog 3) b n D ∧ Maps.IsMap D ∧ ∀ a, (Lit.int .i64 a).wf = true → ∀ zd, D.atKey (.int .i64 a) zd = (match f a with | some v => .lit (.int .i64 v) | none => zd)
theorem MapI.made (w : World) : MapI (w.alloc (.map #[] 0)) w.heap.size 0 (fun _ => none) :=
 ⟨_, World.ownsMap_made _ _ _ _, Maps.isMap_empty, fun _ _ _ => rfl⟩
theorem MapI.kept {w w' : World} {b n : Nat} {f : Int → Option Int} (h : MapI w b n f) {row : Option Nat} (hg : w.grownBy w' row) (hne : some b ≠ row) : MapI w' b n f := by
 obtain ⟨D, h1, h2, h3⟩ := h
 exact ⟨D, h1.kept hg hne, h2, h3⟩
theorem MapI.below {w w' : World} {b n : Nat} {f : Int → Option Int} (h : MapI w b n f) (hb : Below w.heap.size w w') : MapI w' b n f := h.kept (grown_of_below hb none) (by simp)
theorem MapI.lt {w : World} {b n : Nat} {f : Int → Option Int} (h : MapI w b n f) : b < w.heap.size := by
 obtain ⟨D, h1, _⟩ := h
 exact h1.lt
theorem mapI_zero (w : World) : (zeroValue 3).run Try.prog w = .ok (.int .i64 0) w := by kernel_rfl
theorem MapI.look {w : World} {b n : Nat} {f : Int → Option Int} (h : MapI w b n f) (a : Int) (ha : (Lit.int .i64 a).wf = true) :
  (Instr.lookup 76 (.map (some b)) (.int .i64 a) true).run Try.prog w = .ok (.tuple #[.int .i64 ((f a).getD 0), .bool (f a).isSome]) w := by
 obtain ⟨D, h1, h2, h3⟩ := h
 obtain ⟨es, clock, hb, F, _, rfl⟩ := h1
 have h3' := h3 a ha
 rcases Maps.fit_look true (Maps.int_keyed Try.underlying3) Try.underlying76 (mapI_zero w) hb F (Maps.keyOf_int_mk Try.underlying3 ha) with ⟨hrun, _, hat⟩ | ⟨e0, y, _, _, hrun, hRv, hat, _⟩
 ·
  cases hf : f a with
  | none => simpa using hrun
  | some v =>
   have e1 := (h3' .nil).symm.trans (hat .nil)
   rw [hf] at e1
   cases e1
 ·
  obtain ⟨c, hc, hc2, _⟩ := plainElem_int_inv Try.underlying3 hRv
  have e1 := (h3' .nil).symm.trans (hat .nil)
  subst hc2
  cases hf : f a with
  | none => rw [hf] at e1; cases e1
  | some v =>
   rw [hf] at e1
   simp at e1
   subst e1
   rw [hc] at hrun
   simpa using hrun
theorem MapI.put {w : World} {b n : Nat} {f : Int → Option Int} (h : MapI w b n f) (hn : n < 1000000) (k v : Int) (hk : (Lit.int .i64 k).wf = true) (hv : (Lit.int .i64 v).wf = true) :
  ∃ w', (Instr.mapUpdate 76 (.map (some b)) (.int .i64 k) (.int .i64 v)).run Try.prog w = .ok () w' ∧ MapI w' b (n + 1) (fun a => if a = k then some v else f a) ∧ w.grownBy w' (some b) := by
 obtain ⟨D, h1, h2, h3⟩ := h
 obtain ⟨w', hrun, r1, r2⟩ := h1.update (Maps.int_keyed Try.underlying3) Try.underlying76 (by unfold maxLen; omega) (Maps.keyOf_int_mk Try.underlying3 hk) (plainElem_int Try.underlying3 hv)
 refine ⟨w', hrun, ⟨_, r1, h2.put _ _, fun a ha zd => ?_⟩, r2⟩
 show _ = (match (if a = k then some v else f a) with | some v => DataW.lit (.int .i64 v) | none => zd)
 by_cases e : a = k
 ·
  subst e
  rw [if_pos rfl, Maps.atKey_put_same h2 (show WideAt.IsKeyLit (.int .i64 a) from trivial)]
 · rw [if_neg e, Maps.atKey_put_other (fun h => e (by injection h)), h3 a ha]
def entV (e : S87) : Value := .iface 87 (.agg #[.int .i64 e.f0, .int .i64 e.f1, .bool e.f2])
def topA (gl : Nat) : List (Nat × S87) → Addr
 | [] => ⟨gl, 0, none⟩
 | p :: _ => ⟨p.1, 0, none⟩
def botA (gl : Nat) : List (Nat × S87) → Addr
 | [] => ⟨gl, 0, none⟩
 | p :: r => if r = [] then ⟨p.1, 0, none⟩ else botA gl r
def Chain (w : World) (gl : Nat) : Addr → List (Nat × S87) → Prop
 | _, [] => True
 | nx, p :: r => w.heap[p.1]? = some (.cells #[.pointer (some nx), .pointer (some (topA gl r)), .pointer (some ⟨gl, 0, none⟩), entV p.2] 99 (0, 0)) ∧ Chain w gl ⟨p.1, 0, none⟩ r
def IsRing (w : World) (base gl : Nat) (l : List (Nat × S87)) : Prop :=
 w.heap[gl]? = some (.cells #[.pointer (some (botA gl l)), .pointer (some (topA gl l)), .pointer none, .nilIface, .int .i64 l.length] 101 (0, 0)) ∧ Chain w gl ⟨gl, 0, none⟩ l ∧ base ≤ gl ∧ (∀ p ∈ l, base ≤ p.1) ∧ (l.map (·.1)).Nodup
theorem Chain.move {w w' : World} {gl : Nat} : ∀ {nx : Addr} {l : List (Nat × S87)}, Chain w gl nx l → (∀ p ∈ l, w'.heap[p.1]? = w.heap[p.1]?) → Chain w' gl nx l
 | _, [], _, _ => trivial
 | nx, p :: r, ⟨h1, h2⟩, hm => ⟨(hm p (by simp)).trans h1, Chain.move h2 (fun q hq => hm q (by simp [hq]))⟩
theorem Chain.typed {w : World} {gl : Nat} : ∀ {nx : Addr} {l : List (Nat × S87)}, Chain w gl nx l → ∀ p ∈ l, ∃ cs, w.heap[p.1]? = some (.cells cs 99 (0, 0))
 | _, [], _, p, hp => by simp at hp
 | nx, q :: r, ⟨h1, h2⟩, p, hp => by
  rcases List.mem_cons.mp hp with rfl | h
  · exact ⟨_, h1⟩
  · exact Chain.typed h2 p h
def FrT (ts : List Nat) (w w' : World) : Prop := w.heap.size ≤ w'.heap.size ∧ ∀ (k : Nat) (o : Obj), w.heap[k]? = some o → (∀ t ∈ ts, ∀ cs, o ≠ Obj.cells cs t (0, 0)) → w'.heap[k]? = some o
theorem FrT.refl (ts : List Nat) (w : World) : FrT ts w w := ⟨Nat.le_refl _, fun _ _ h _ => h⟩
theorem FrT.below {ts : List Nat} {w w' : World} (h : Below w.heap.size w w') : FrT ts w w' := ⟨h.size, fun k o hk _ => blk_below hk h⟩
theorem FrT.trans {ts : List Nat} {w w1 w2 : World} (h : FrT ts w w1) (k : FrT ts w1 w2) : FrT ts w w2 := ⟨Nat.le_trans h.1 k.1, fun i o hi ho => k.2 i o (h.2 i o hi ho) ho⟩
theorem FrT.R {ts : List Nat} {w w' : World} (h : FrT ts w w') {base : Nat} {ok : Nat → Prop} {v : Value} {xs : List Int} (hr : Kd.R (Kd.int .i64) 3 w base ok v xs) (h3 : 3 ∉ ts) : Kd.R (Kd.int .i64) 3 w' base ok v xs := by
 refine Kd.R_mono (Kd.R_move (Kd.R_bound hr) (fun k hk => ?_)) (fun _ hk => hk.1)
 obtain ⟨_, _, _, q, hq, cells, hc⟩ := hk
 have hq3 : q = 3 := by
  rcases List.mem_cons.mp hq with h | h
  · exact h
  · exact absurd h (by intro h; cases h)
 subst hq3
 rw [hc]
 exact h.2 k _ hc (fun t ht cs he => by injection he with _ e _; exact h3 (e ▸ ht))
theorem IsRing.below {w w' : World} {base gl : Nat} {l : List (Nat × S87)} (h : IsRing w base gl l) (hb : Below w.heap.size w w') : IsRing w' base gl l := by
 obtain ⟨h1, h2, h3⟩ := h
 refine ⟨blk_below h1 hb, h2.move (fun p hp => ?_), h3⟩
 obtain ⟨cs, hc⟩ := h2.typed p hp
 rw [hc]; exact blk_below hc hb
theorem listNew_calls (w : World) : Calls Try.prog 76 #[] w fun e w' => e = .returned (.pointer (some ⟨w.heap.size, 0, none⟩)) ∧ IsRing w' w.heap.size w.heap.size [] ∧ Below w.heap.size w w' := by
 go_enter Try.func76, Try.ntmps76
 go_wp2
 go_ret
 refine ⟨rfl, ⟨blk_new w _, trivial, Nat.le_refl _, by simp, by simp⟩, below_alloc (Below.refl _ _) _⟩
theorem listBack_calls (w : World) (base gl : Nat) (p : Nat × S87) (r : List (Nat × S87)) (hr : IsRing w base gl (p :: r)) (hl : r.length < 1000) : Calls Try.prog 114 #[.pointer (some ⟨gl, 0, none⟩)] w fun e w' => e = .returned (.pointer (some ⟨p.1, 0, none⟩)) ∧ w' = w := by
 obtain ⟨h1, _⟩ := hr
 have hc1 := (blk_cell h1 1).trans (show _ = some (.pointer (some ⟨p.1, 0, none⟩)) from rfl)
 have hc4 := (blk_cell h1 4).trans (show _ = some (.int .i64 ((r.length + 1 : Nat) : Int)) from rfl)
 have hz : (((r.length + 1 : Nat) : Int) == 0) = false := beq_eq_false_iff_ne.mpr (by omega)
 clear h1
 generalize ((r.length + 1 : Nat) : Int) = n at hc4 hz
 go_enter Try.func114, Try.ntmps114
 go_wp2
 go_ret
 exact ⟨rfl, rfl⟩
theorem listLen_calls (w : World) (base gl : Nat) (l : List (Nat × S87)) (hr : IsRing w base gl l) : Calls Try.prog 111 #[.pointer (some ⟨gl, 0, none⟩)] w fun e w' => e = .returned (.int .i64 l.length) ∧ w' = w := by
 obtain ⟨h1, _⟩ := hr
 have hc4 := (blk_cell h1 4).trans (show _ = some (.int .i64 ((l.length : Nat) : Int)) from rfl)
 clear h1
 go_enter Try.func111, Try.ntmps111
 go_wp2
 go_ret
 exact ⟨rfl, rfl⟩
theorem listFront_calls (w : World) (base gl : Nat) (l : List (Nat × S87)) (hr : IsRing w base gl l) (h0 : l ≠ []) : Calls Try.prog 117 #[.pointer (some ⟨gl, 0, none⟩)] w fun e w' => e = .returned (.pointer (some (botA gl l))) ∧ w' = w := by
 obtain ⟨h1, _⟩ := hr
 have hc0 := (blk_cell h1 0).trans (show _ = some (.pointer (some (botA gl l))) from rfl)
 have hc4 := (blk_cell h1 4).trans (show _ = some (.int .i64 ((l.length : Nat) : Int)) from rfl)
 have hz : ((l.length : Int) == 0) = false := beq_eq_false_iff_ne.mpr (by have := List.length_pos_iff.mpr h0; omega)
 clear h1
 go_enter Try.func117, Try.ntmps117
 go_wp2
 go_ret
 exact ⟨rfl, rfl⟩
theorem heap_setCell_ne {w : World} {a : Addr} {v : Value} {k : Nat} (h : k ≠ a.block) : (w.setCell a v).heap[k]? = w.heap[k]? := by
 simp [World.setCell, Array.getElem?_modify, Ne.symm h]
theorem listPush0_calls (w0 w : World) (gl : Nat) (e0 : S87) (hB : Below w0.heap.size w0 w) (hr : IsRing w w0.heap.size gl []) : Calls Try.prog 77 #[.pointer (some ⟨gl, 0, none⟩), .iface 87 (.agg #[.int .i64 e0.f0, .int .i64 e0.f1, .bool e0.f2])] w fun e w' => (∃ v, e = .returned v) ∧ IsRing w' w0.heap.size gl [(w.heap.size, e0)] ∧ Below w0.heap.size w0 w' ∧ FrT [99, 101] w w' := by
 obtain ⟨h1, h2, h3, h4, h5⟩ := hr
 have hc0 := (blk_cell h1 0).trans (show _ = some (.pointer (some ⟨gl, 0, none⟩)) from rfl)
 have hc1 := (blk_cell h1 1).trans (show _ = some (.pointer (some ⟨gl, 0, none⟩)) from rfl)
 have hc4 := (blk_cell h1 4).trans (show _ = some (.int .i64 0) from rfl)
 have hf0 := blk_frozen h1 0
 have hf1 := blk_frozen h1 1
 have hf4 := blk_frozen h1 4
 have hlt := blk_lt h1
 have hne1 : ¬ gl = w.heap.size := by omega
 have hne2 : ¬ w.heap.size = gl := by omega
 have H1 := az h1
 have HB := az hB
 have HG := az h3
 clear h1 h2 h3 h4 h5 hB
 go_enter Try.func77, Try.ntmps77
 go_wp2
 go_end0
 go_wp2
 go_ret
 refine ⟨⟨_, rfl⟩, ?_, ?_, ?_⟩
 ·
  have b1 := blk_set H1.out 0 (.pointer (some ⟨w.heap.size, 0, none⟩))
  have b2 := blk_set b1 1 (.pointer (some ⟨w.heap.size, 0, none⟩))
  have b3 := blk_set b2 4 (.int .i64 1)
  have hn := blk_new (((w.setCell ⟨gl, 0, none⟩ (.pointer (some ⟨w.heap.size, 0, none⟩))).setCell ⟨gl, 1, none⟩ (.pointer (some ⟨w.heap.size, 0, none⟩))).setCell ⟨gl, 4, none⟩ (.int .i64 1)) (.cells #[.pointer (some ⟨gl, 0, none⟩), .pointer (some ⟨gl, 0, none⟩), .pointer (some ⟨gl, 0, none⟩), .iface 87 (.agg #[.int .i64 e0.f0, .int .i64 e0.f1, .bool e0.f2])] 99)
  rw [show (((w.setCell ⟨gl, 0, none⟩ (.pointer (some ⟨w.heap.size, 0, none⟩))).setCell ⟨gl, 1, none⟩ (.pointer (some ⟨w.heap.size, 0, none⟩))).setCell ⟨gl, 4, none⟩ (.int .i64 1)).heap.size = w.heap.size by simp] at hn
  exact ⟨blk_alloc b3 _, ⟨hn, trivial⟩, HG.out, fun p hp => by rw [List.mem_singleton.mp hp]; exact HB.out.size, by simp⟩
 · exact below_alloc (((HB.out.setCell (p := ⟨gl, 0, none⟩) HG.out _).setCell (p := ⟨gl, 1, none⟩) HG.out _).setCell (p := ⟨gl, 4, none⟩) HG.out _) _
 ·
  refine ⟨by simp, fun k o hk ho => ?_⟩
  have k1 : k ≠ gl := fun e => by subst e; rw [H1.out] at hk; exact ho 101 (by simp) _ (Option.some.inj hk).symm
  exact blk_alloc (((heap_setCell_ne k1).trans ((heap_setCell_ne k1).trans (heap_setCell_ne k1))).trans hk) _
theorem listPush_calls (w0 w : World) (gl : Nat) (p : Nat × S87) (r : List (Nat × S87)) (e0 : S87) (hB : Below w0.heap.size w0 w) (hr : IsRing w w0.heap.size gl (p :: r)) (hl : r.length < 1000) : Calls Try.prog 77 #[.pointer (some ⟨gl, 0, none⟩), .iface 87 (.agg #[.int .i64 e0.f0, .int .i64 e0.f1, .bool e0.f2])] w fun e w' => (∃ v, e = .returned v) ∧ IsRing w' w0.heap.size gl ((w.heap.size, e0) :: p :: r) ∧ Below w0.heap.size w0 w' ∧ FrT [99, 101] w w' := by
 obtain ⟨h1, h2, h3, h4, h5⟩ := hr
 obtain ⟨b, e1⟩ := p
 obtain ⟨g1, g2⟩ := h2
 have hc0 := (blk_cell h1 0).trans (show _ = some (.pointer (some (botA gl ((b, e1) :: r)))) from rfl)
 have hc1 := (blk_cell h1 1).trans (show _ = some (.pointer (some ⟨b, 0, none⟩)) from rfl)
 have hc4 := (blk_cell h1 4).trans (show _ = some (.int .i64 ((r.length + 1 : Nat) : Int)) from rfl)
 have hd0 := (blk_cell g1 0).trans (show _ = some (.pointer (some ⟨gl, 0, none⟩)) from rfl)
 have hf0 := blk_frozen h1 0
 have hf1 := blk_frozen h1 1
 have hf4 := blk_frozen h1 4
 have hfb := blk_frozen g1 0
 have hlt := blk_lt h1
 have hlb := blk_lt g1
 simp only at hlb
 have hbg := blk_ne h1 g1 (by decide)
 simp only at hbg
 have hne1 : ¬ gl = w.heap.size := by omega
 have hne2 : ¬ w.heap.size = gl := by omega
 have hne3 : ¬ b = w.heap.size := by omega
 have hne4 : ¬ w.heap.size = b := by omega
 have hne5 : ¬ gl = b := hbg
 have hne6 : ¬ b = gl := fun h => hbg h.symm
 have hn9 : ((r.length + 1 : Nat) : Int) ≤ 1000 := by omega
 have hn8 : 0 ≤ ((r.length + 1 : Nat) : Int) := by omega
 have H1 := az h1
 have G1 := az g1
 have G2 := az g2
 have HB := az hB
 have HG := az h3
 have H4 := az h4
 have H5 := az h5
 clear h1 g1 g2 h3 h4 h5 hB hbg
 generalize hN : ((r.length + 1 : Nat) : Int) = N at hc4 hn9 hn8
 have HN := az hN
 clear hN
 go_enter Try.func77, Try.ntmps77
 go_wp2
 go_end0
 go_wp2
 go_ret
 refine ⟨⟨_, rfl⟩, ?_, ?_, ?_⟩
 ·
  have b1 := (heap_setCell_ne (w := w) (a := ⟨b, 0, none⟩) (v := .pointer (some ⟨w.heap.size, 0, none⟩)) (k := gl) hne5).trans H1.out
  have b2 := blk_set b1 1 (.pointer (some ⟨w.heap.size, 0, none⟩))
  have b3 := blk_set b2 4 (.int .i64 (N + 1))
  have d1 := blk_set G1.out 0 (.pointer (some ⟨w.heap.size, 0, none⟩))
  have d2 := (heap_setCell_ne (a := ⟨gl, 1, none⟩) (v := .pointer (some ⟨w.heap.size, 0, none⟩)) (k := b) hne6).trans d1
  have d3 := (heap_setCell_ne (a := ⟨gl, 4, none⟩) (v := .int .i64 (N + 1)) (k := b) hne6).trans d2
  have hn := blk_new (((w.setCell ⟨b, 0, none⟩ (.pointer (some ⟨w.heap.size, 0, none⟩))).setCell ⟨gl, 1, none⟩ (.pointer (some ⟨w.heap.size, 0, none⟩))).setCell ⟨gl, 4, none⟩ (.int .i64 (N + 1))) (.cells #[.pointer (some ⟨gl, 0, none⟩), .pointer (some ⟨b, 0, none⟩), .pointer (some ⟨gl, 0, none⟩), .iface 87 (.agg #[.int .i64 e0.f0, .int .i64 e0.f1, .bool e0.f2])] 99)
  rw [show (((w.setCell ⟨b, 0, none⟩ (.pointer (some ⟨w.heap.size, 0, none⟩))).setCell ⟨gl, 1, none⟩ (.pointer (some ⟨w.heap.size, 0, none⟩))).setCell ⟨gl, 4, none⟩ (.int .i64 (N + 1))).heap.size = w.heap.size by simp] at hn
  have hnd := H5.out
  have hb4 := H4.out
  refine ⟨?_, ⟨hn, blk_alloc d3 _, ?_⟩, HG.out, ?_, ?_⟩
  ·
   have h := blk_alloc b3 (.cells #[.pointer (some ⟨gl, 0, none⟩), .pointer (some ⟨b, 0, none⟩), .pointer (some ⟨gl, 0, none⟩), .iface 87 (.agg #[.int .i64 e0.f0, .int .i64 e0.f1, .bool e0.f2])] 99)
   rw [← HN.out] at h ⊢
   exact h
  ·
   refine G2.out.move (fun p hp => ?_)
   obtain ⟨cs, hc⟩ := G2.out.typed p hp
   have p1 : p.1 ≠ gl := blk_ne hc H1.out (by decide)
   have p2 : p.1 ≠ b := by
    simp only [List.map_cons, List.nodup_cons, List.mem_map] at hnd
    exact fun e => hnd.1 ⟨p, hp, e⟩
   rw [hc]
   exact blk_alloc ((heap_setCell_ne p1).trans ((heap_setCell_ne p1).trans ((heap_setCell_ne p2).trans hc))) _
  ·
   intro p hp
   rcases List.mem_cons.mp hp with rfl | hp
   · exact HB.out.size
   · exact hb4 p hp
  ·
   rw [List.map_cons, List.nodup_cons]
   refine ⟨?_, hnd⟩
   rw [List.map_cons, List.mem_cons]
   rintro (h | h)
   · exact hne4 h
   ·
    obtain ⟨p, hp, e⟩ := List.mem_map.mp h
    obtain ⟨cs, hc⟩ := G2.out.typed p hp
    have := blk_lt hc
    simp only at e
    omega
 · exact below_alloc (((HB.out.setCell (p := ⟨b, 0, none⟩) (H4.out (b, e1) (by simp)) _).setCell (p := ⟨gl, 1, none⟩) HG.out _).setCell (p := ⟨gl, 4, none⟩) HG.out _) _
 ·
  refine ⟨by simp, fun k o hk ho => ?_⟩
  have k1 : k ≠ gl := fun e => by subst e; rw [H1.out] at hk; exact ho 101 (by simp) _ (Option.some.inj hk).symm
  have k2 : k ≠ b := fun e => by subst e; rw [G1.out] at hk; exact ho 99 (by simp) _ (Option.some.inj hk).symm
  exact blk_alloc (((heap_setCell_ne k1).trans ((heap_setCell_ne k1).trans (heap_setCell_ne k2))).trans hk) _
theorem run_neq_ptr_sameX {P : Program} (w : World) {tp te : TypeId} {j : TypeInfo} (a : Addr) (hp : P.underlying tp = some (.pointer te)) (hte : P.info? te = some j) :
  (binOp .neq tp (.pointer (some a)) (.pointer (some a))).run P w = .ok (.bool false) w := by
 have h := run_eql_ptr_same (P := P) w a hp hte
 simp only [binOp] at h ⊢
 cases e : (Op.equal tp (.pointer (some a)) (.pointer (some a))).run P w with
 | ok b w' => simp [e] at h; obtain ⟨rfl, rfl⟩ := h; simp [e]
 | halt _ _ => simp [e] at h
theorem run_neq_ptr_otherX {P : Program} (w : World) {tp te : TypeId} {j : TypeInfo} {a b : Addr} {ca cb : Array Value} {ta tb : TypeId} (hp : P.underlying tp = some (.pointer te)) (hte : P.info? te = some j) (hsz : j.size ≠ 0)
  (hne : a ≠ b) (ha : w.heap[a.block]? = some (.cells ca ta (0, 0))) (hb : w.heap[b.block]? = some (.cells cb tb (0, 0))) :
  (binOp .neq tp (.pointer (some a)) (.pointer (some b))).run P w = .ok (.bool true) w := by
 have h := run_eql_ptr_other (P := P) w hp hte hsz hne ha hb
 simp only [binOp] at h ⊢
 cases e : (Op.equal tp (.pointer (some a)) (.pointer (some b))).run P w with
 | ok b w' => simp [e] at h; obtain ⟨rfl, rfl⟩ := h; simp [e]
 | halt _ _ => simp [e] at h
theorem infoL : ∃ j, Try.prog.info? 101 = some j ∧ j.size ≠ 0 := by
 obtain ⟨j, h, e⟩ := Option.map_eq_some_iff.mp (show (Try.prog.info? 101).map (·.size) = some 5 by kernel_rfl)
 exact ⟨j, h, by omega⟩
theorem infoE : ∃ j, Try.prog.info? 99 = some j ∧ j.size ≠ 0 := by
 obtain ⟨j, h, e⟩ := Option.map_eq_some_iff.mp (show (Try.prog.info? 99).map (·.size) = some 4 by kernel_rfl)
 exact ⟨j, h, by omega⟩
theorem ring_drew {w : World} {base gl : Nat} {l : List (Nat × S87)} (h : IsRing w base gl l) : IsRing w.drew base gl l := by
 obtain ⟨h1, h2, h3⟩ := h
 exact ⟨h1, h2.move (fun _ _ => rfl), h3⟩
theorem below_drew {b : Nat} {w0 w : World} (h : Below b w0 w) : Below b w0 w.drew := pw_below_drewN h 1
theorem FrT.drew {ts : List Nat} {w w' : World} (h : FrT ts w w') : FrT ts w w'.drew := h
theorem listRemove_calls (w0 w : World) (gl : Nat) (p q : Nat × S87) (r : List (Nat × S87)) (hB : Below w0.heap.size w0 w) (hr : IsRing w w0.heap.size gl (p :: q :: r)) (hl : r.length < 1000) : Calls Try.prog 116 #[.pointer (some ⟨gl, 0, none⟩), .pointer (some ⟨p.1, 0, none⟩)] w fun e w' => (∃ v, e = .returned v) ∧ IsRing w' w0.heap.size gl (q :: r) ∧ Below w0.heap.size w0 w' ∧ FrT [99, 101] w w' := by
 obtain ⟨h1, h2, h3, h4, h5⟩ := hr
 obtain ⟨b, e0⟩ := p
 obtain ⟨c, e1⟩ := q
 obtain ⟨g1, g2, g3⟩ := h2
 simp only at g1 g2
 have hc0 := (blk_cell h1 0).trans (show _ = some (.pointer (some (botA gl ((b, e0) :: (c, e1) :: r)))) from rfl)
 have hc1 := (blk_cell h1 1).trans (show _ = some (.pointer (some ⟨b, 0, none⟩)) from rfl)
 have hc4 := (blk_cell h1 4).trans (show _ = some (.int .i64 ((r.length + 2 : Nat) : Int)) from rfl)
 have hb0 := (blk_cell g1 0).trans (show _ = some (.pointer (some ⟨gl, 0, none⟩)) from rfl)
 have hb1 := (blk_cell g1 1).trans (show _ = some (.pointer (some ⟨c, 0, none⟩)) from rfl)
 have hb2 := (blk_cell g1 2).trans (show _ = some (.pointer (some ⟨gl, 0, none⟩)) from rfl)
 have hb3 := (blk_cell g1 3).trans (show _ = some (.iface 87 (.agg #[.int .i64 e0.f0, .int .i64 e0.f1, .bool e0.f2])) from rfl)
 have hd0 := (blk_cell g2 0).trans (show _ = some (.pointer (some ⟨b, 0, none⟩)) from rfl)
 have hf1 := blk_frozen h1 1
 have hf4 := blk_frozen h1 4
 have hfb0 := blk_frozen g1 0
 have hfb1 := blk_frozen g1 1
 have hfb2 := blk_frozen g1 2
 have hfc := blk_frozen g2 0
 have hbg := blk_ne h1 g1 (by decide)
 have hcg := blk_ne h1 g2 (by decide)
 have hbc : b ≠ c := by
  simp only [List.map_cons, List.nodup_cons, List.mem_cons] at h5
  exact fun e => h5.1 (.inl e)
 have hne1 : ¬ gl = b := hbg
 have hne2 : ¬ b = gl := fun h => hbg h.symm
 have hne3 : ¬ gl = c := hcg
 have hne4 : ¬ c = gl := fun h => hcg h.symm
 have hne5 : ¬ b = c := hbc
 have hne6 : ¬ c = b := fun h => hbc h.symm
 have hn9 : ((r.length + 2 : Nat) : Int) ≤ 1002 := by omega
 have hn8 : 1 ≤ ((r.length + 2 : Nat) : Int) := by omega
 obtain ⟨j, hj, hj2⟩ := infoL
 have heq := fun W => run_eql_ptr_same (P := Try.prog) W ⟨gl, 0, none⟩ Try.underlying80 hj
 have H1 := az h1
 have G1 := az g1
 have G2 := az g2
 have G3 := az g3
 have HB := az hB
 have HG := az h3
 have H4 := az h4
 have H5 := az h5
 clear h1 g1 g2 g3 h3 h4 h5 hB hbg hcg hbc hj hj2
 generalize hN : ((r.length + 2 : Nat) : Int) = N at hc4 hn9 hn8
 have HN := az hN
 clear hN
 go_enter Try.func116, Try.ntmps116
 go_wp2
 go_region
 go_wp2
 go_region
 go_wp2
 go_end0
 go_wp2
 go_ret
 refine ⟨⟨_, rfl⟩, ?_, ?_, ?_⟩
 ·
  refine ring_drew (ring_drew ?_)
  have b0 := (heap_setCell_ne (w := w) (a := ⟨c, 0, none⟩) (v := .pointer (some ⟨gl, 0, none⟩)) (k := gl) hne3).trans H1.out
  have b1 := blk_set b0 1 (.pointer (some ⟨c, 0, none⟩))
  have b2 := (heap_setCell_ne (a := ⟨b, 0, none⟩) (v := .pointer none) (k := gl) hne1).trans b1
  have b3 := (heap_setCell_ne (a := ⟨b, 1, none⟩) (v := .pointer none) (k := gl) hne1).trans b2
  have b4 := (heap_setCell_ne (a := ⟨b, 2, none⟩) (v := .pointer none) (k := gl) hne1).trans b3
  have b5 := blk_set b4 4 (.int .i64 (N - 1))
  have d0 := blk_set G2.out 0 (.pointer (some ⟨gl, 0, none⟩))
  have d1 := (heap_setCell_ne (a := ⟨gl, 1, none⟩) (v := .pointer (some ⟨c, 0, none⟩)) (k := c) hne4).trans d0
  have d2 := (heap_setCell_ne (a := ⟨b, 0, none⟩) (v := .pointer none) (k := c) hne6).trans d1
  have d3 := (heap_setCell_ne (a := ⟨b, 1, none⟩) (v := .pointer none) (k := c) hne6).trans d2
  have d4 := (heap_setCell_ne (a := ⟨b, 2, none⟩) (v := .pointer none) (k := c) hne6).trans d3
  have d5 := (heap_setCell_ne (a := ⟨gl, 4, none⟩) (v := .int .i64 (N - 1)) (k := c) hne4).trans d4
  have hnd := H5.out
  have hb4 := H4.out
  have e1' : N - 1 = (((c, e1) :: r).length : Int) := by rw [← HN.out, List.length_cons]; omega
  have e2' : botA gl ((b, e0) :: (c, e1) :: r) = botA gl ((c, e1) :: r) := if_neg (by simp)
  refine ⟨?_, ⟨d5, ?_⟩, HG.out, fun p hp => hb4 p (List.mem_cons_of_mem _ hp), ?_⟩
  ·
   rw [← e1', ← e2']
   exact b5
  ·
   refine G3.out.move (fun p hp => ?_)
   obtain ⟨cs, hc⟩ := G3.out.typed p hp
   have p1 : p.1 ≠ gl := blk_ne hc H1.out (by decide)
   simp only [List.map_cons, List.nodup_cons, List.mem_cons, List.mem_map, not_or] at hnd
   have p2 : p.1 ≠ b := fun e => hnd.1.2 ⟨p, hp, e⟩
   have p3 : p.1 ≠ c := fun e => hnd.2.1 ⟨p, hp, e⟩
   exact (heap_setCell_ne p1).trans ((heap_setCell_ne p2).trans ((heap_setCell_ne p2).trans ((heap_setCell_ne p2).trans ((heap_setCell_ne p1).trans (heap_setCell_ne p3)))))
  ·
   rw [List.map_cons, List.nodup_cons] at hnd
   exact hnd.2
 ·
  have hb4 := H4.out
  have q1 : w0.heap.size ≤ b := hb4 (b, e0) (by simp)
  have q2 : w0.heap.size ≤ c := hb4 (c, e1) (by simp)
  refine below_drew (below_drew ?_)
  exact ((((((HB.out.setCell (p := ⟨c, 0, none⟩) q2 _).setCell (p := ⟨gl, 1, none⟩) HG.out _).setCell (p := ⟨b, 0, none⟩) q1 _).setCell (p := ⟨b, 1, none⟩) q1 _).setCell (p := ⟨b, 2, none⟩) q1 _).setCell (p := ⟨gl, 4, none⟩) HG.out _)
 ·
  refine FrT.drew (FrT.drew ?_)
  refine ⟨Nat.le_of_eq (by simp), fun k o hk ho => ?_⟩
  have k1 : k ≠ gl := fun e => by subst e; rw [H1.out] at hk; exact ho 101 (by simp) _ (Option.some.inj hk).symm
  have k2 : k ≠ b := fun e => by subst e; rw [G1.out] at hk; exact ho 99 (by simp) _ (Option.some.inj hk).symm
  have k3 : k ≠ c := fun e => by subst e; rw [G2.out] at hk; exact ho 99 (by simp) _ (Option.some.inj hk).symm
  exact ((heap_setCell_ne k1).trans ((heap_setCell_ne k2).trans ((heap_setCell_ne k2).trans ((heap_setCell_ne k2).trans ((heap_setCell_ne k1).trans (heap_setCell_ne k3)))))).trans hk
theorem Chain.at_ {w : World} {gl : Nat} {p : Nat × S87} {r : List (Nat × S87)} : ∀ {u : List (Nat × S87)} {nx : Addr}, Chain w gl nx (u ++ p :: r) → Chain w gl (match u.getLast? with | none => nx | some q => ⟨q.1, 0, none⟩) (p :: r)
 | [], nx, h => h
 | [q], nx, h => h.2
 | q :: q2 :: u, nx, h => by
  have := Chain.at_ (u := q2 :: u) h.2
  rw [List.getLast?_cons_cons]
  obtain ⟨x, hx⟩ : ∃ x, (q2 :: u).getLast? = some x := ⟨_, List.getLast?_eq_some_getLast (by simp)⟩
  rw [hx] at this ⊢
  exact this
theorem listNext_calls (w : World) (base gl : Nat) (p : Nat × S87) (u r : List (Nat × S87)) (hr : IsRing w base gl (u ++ p :: r)) : Calls Try.prog 118 #[.pointer (some ⟨p.1, 0, none⟩)] w fun e w' => e = .returned (.pointer (u.getLast?.map fun q => ⟨q.1, 0, none⟩)) ∧ w' = w := by
 obtain ⟨h1, h2, h3, h4, h5⟩ := hr
 have hch := h2.at_
 obtain ⟨g1, g2⟩ := hch
 obtain ⟨b, e0⟩ := p
 simp only at g1
 have hb2 := (blk_cell g1 2).trans (show _ = some (.pointer (some ⟨gl, 0, none⟩)) from rfl)
 obtain ⟨j, hj, hj2⟩ := infoE
 cases hu : u.getLast? with
 | none =>
  rw [hu] at g1
  have hb0 := (blk_cell g1 0).trans (show _ = some (.pointer (some ⟨gl, 0, none⟩)) from rfl)
  have heq := run_neq_ptr_sameX (P := Try.prog) w ⟨gl, 0, none⟩ Try.underlying84 hj
  have hnil := run_neq_pointer_nil (P := Try.prog) w 80 (some ⟨gl, 0, none⟩) (by rw [Try.underlying80]; rfl)
  clear h1 h2 h3 h4 h5 g1 g2 hj hj2 hu
  go_enter Try.func118, Try.ntmps118
  go_wp2
  go_ret
  exact ⟨rfl, rfl⟩
 | some q =>
  rw [hu] at g1
  have hq : q ∈ u ++ (b, e0) :: r := List.mem_append.mpr (.inl (List.mem_of_getLast? hu))
  obtain ⟨cs, hc⟩ := h2.typed q hq
  have hb0 := (blk_cell g1 0).trans (show _ = some (.pointer (some ⟨q.1, 0, none⟩)) from rfl)
  have hqg : q.1 ≠ gl := blk_ne hc h1 (by decide)
  have heq := run_neq_ptr_otherX (P := Try.prog) w (a := ⟨q.1, 0, none⟩) (b := ⟨gl, 0, none⟩) Try.underlying84 hj hj2 (fun e => hqg (by injection e)) hc h1
  have hnil := run_neq_pointer_nil (P := Try.prog) w 80 (some ⟨gl, 0, none⟩) (by rw [Try.underlying80]; rfl)
  clear h1 h2 h3 h4 h5 g1 g2 hj hj2 hu hq hc hqg
  go_enter Try.func118, Try.ntmps118
  go_wp2
  go_ret
  exact ⟨rfl, rfl⟩
structure TeS where
 st : List S87
 lost : Int
 sk : Int
def IsTe (w : World) (base tb : Nat) (s : TeS) : Prop := ∃ gl l, w.heap[tb]? = some (.cells #[.pointer (some ⟨gl, 0, none⟩), .int .i64 s.lost, .int .i64 s.sk] 83 (0, 0)) ∧ IsRing w base gl l ∧ l.map (·.2) = s.st ∧ base ≤ tb
theorem IsTe.below {w w' : World} {base tb : Nat} {s : TeS} (h : IsTe w base tb s) (hb : Below w.heap.size w w') : IsTe w' base tb s := by
 obtain ⟨gl, l, h1, h2, h3⟩ := h
 exact ⟨gl, l, blk_below h1 hb, h2.below hb, h3⟩
theorem IsTe.cons {w : World} {base tb : Nat} {s : TeS} {e : S87} {r : List S87} (h : IsTe w base tb s) (hst : s.st = e :: r) : ∃ gl b l, w.heap[tb]? = some (.cells #[.pointer (some ⟨gl, 0, none⟩), .int .i64 s.lost, .int .i64 s.sk] 83 (0, 0)) ∧ IsRing w base gl ((b, e) :: l) ∧ l.map (·.2) = r ∧ base ≤ tb := by
 obtain ⟨gl, l, h1, h2, h3, h4⟩ := h
 rw [hst] at h3
 cases l with
 | nil => simp at h3
 | cons p l =>
  obtain ⟨b, e1⟩ := p
  simp only [List.map_cons, List.cons.injEq] at h3
  obtain ⟨rfl, h3⟩ := h3
  exact ⟨gl, b, l, h1, h2, h3, h4⟩
theorem as86 (v : Value) (w : World) : (Instr.typeAssert (.iface 87 v) 20 87 false).run Try.prog w = .ok v w := by kernel_rfl
theorem fld0 (a b : Int) (c : Bool) (w : World) : (Instr.field 87 (.agg #[.int .i64 a, .int .i64 b, .bool c]) 0).run Try.prog w = .ok (.int .i64 a) w := by kernel_rfl
theorem fld2 (a b : Int) (c : Bool) (w : World) : (Instr.field 87 (.agg #[.int .i64 a, .int .i64 b, .bool c]) 2).run Try.prog w = .ok (.bool c) w := by kernel_rfl
attribute [local go_sem] as86
theorem last_calls (w : World) (base tb : Nat) (s : TeS) (e : S87) (r : List S87) (hst : s.st = e :: r) (hs : IsTe w base tb s) (hl : r.length < 1000) : Calls Try.prog 103 #[.pointer (some ⟨tb, 0, none⟩)] w fun x w' => x = .returned (.agg #[.int .i64 e.f0, .int .i64 e.f1, .bool e.f2]) ∧ Below w.heap.size w w' := by
 obtain ⟨gl, b, l, h1, hr, hm, hb⟩ := hs.cons hst
 have hll : l.length < 1000 := by rw [← hm, List.length_map] at hl; exact hl
 obtain ⟨g1, _⟩ := hr.2.1
 have hc0 := (blk_cell h1 0).trans (show _ = some (.pointer (some ⟨gl, 0, none⟩)) from rfl)
 have hb3 := (blk_cell g1 3).trans (show _ = some (.iface 87 (.agg #[.int .i64 e.f0, .int .i64 e.f1, .bool e.f2])) from rfl)
 have hd0 := fun o => (blk_cell (blk_alloc h1 o) 0).trans (show _ = some (.pointer (some ⟨gl, 0, none⟩)) from rfl)
 have he3 := fun o => (blk_cell (blk_alloc g1 o) 3).trans (show _ = some (.iface 87 (.agg #[.int .i64 e.f0, .int .i64 e.f1, .bool e.f2])) from rfl)
 have hlt1 := blk_lt h1
 have hlt2 := blk_lt g1
 have hne1 : ¬ tb = w.heap.size := by omega
 have hne2 : ¬ w.heap.size = tb := by omega
 have hne3 : ¬ b = w.heap.size := by simp only at hlt2; omega
 have hne4 : ¬ w.heap.size = b := by simp only at hlt2; omega
 have HR := az hr
 clear h1 hr hm hb g1 hlt1 hlt2 hst hs
 go_enter Try.func103, Try.ntmps103
 go_wp2_with (go_at_call 114; refine (listBack_calls _ _ gl (b, e) l (HR.out.below (below_alloc (Below.refl _ _) _)) hll).mono ?_; rintro x w1 ⟨rfl, rfl⟩)
 refine bodyPost_ret (results_cell_row rfl _ _ w.heap.size 87 #[.int .i64 e.f0, .int .i64 e.f1, .bool e.f2] (0, 0) _ rfl (blk_new w _) Try.underlying87 rfl (by kernel_rfl)) rfl ?_
 exact ⟨rfl, below_alloc (Below.refl _ _) _⟩
theorem IsRing.far {w : World} {base gl tb : Nat} {l : List (Nat × S87)} {cs : Array Value} (h : IsRing w base gl l) (h1 : w.heap[tb]? = some (.cells cs 83 (0, 0))) (j : Nat) (v : Value) : IsRing (w.setCell ⟨tb, j, none⟩ v) base gl l := by
 obtain ⟨g1, g2, g3⟩ := h
 have hne : gl ≠ tb := blk_ne g1 h1 (by decide)
 refine ⟨(heap_setCell_ne hne).trans g1, g2.move (fun p hp => ?_), g3⟩
 obtain ⟨cs, hc⟩ := g2.typed p hp
 have hp : p.1 ≠ tb := blk_ne hc h1 (by decide)
 exact heap_setCell_ne hp
theorem FrT.set {ts : List Nat} {w w1 : World} {tb : Nat} {cs : Array Value} {t : TypeId} (h : FrT ts w w1) (h1 : w.heap[tb]? = some (.cells cs t (0, 0))) (ht : t ∈ ts) (j : Nat) (v : Value) : FrT ts w (w1.setCell ⟨tb, j, none⟩ v) := by
 refine ⟨Nat.le_trans h.1 (Nat.le_of_eq (by simp)), fun k o hk ho => ?_⟩
 have hne : k ≠ tb := fun e => by subst e; rw [h1] at hk; exact ho t ht _ (Option.some.inj hk).symm
 exact (heap_setCell_ne hne).trans (h.2 k o hk ho)
theorem FrT.wide {ts us : List Nat} {w w' : World} (h : FrT ts w w') (hs : ∀ t ∈ ts, t ∈ us) : FrT us w w' := ⟨h.1, fun k o hk ho => h.2 k o hk (fun t ht => ho t (hs t ht))⟩
theorem IsTe.drew {w : World} {base tb : Nat} {s : TeS} (h : IsTe w base tb s) : IsTe w.drew base tb s := by
 obtain ⟨gl, l, h1, h2, h3⟩ := h
 exact ⟨gl, l, h1, ring_drew h2, h3⟩
def teT : List Nat := [99, 101, 83]
theorem FrT.same {ts : List Nat} {w w' : World} (h : FrT ts w w') {tb : Nat} {cs : Array Value} {t : TypeId} (h1 : w.heap[tb]? = some (.cells cs t (0, 0))) (ht : t ∉ ts) : w'.heap[tb]? = some (.cells cs t (0, 0)) :=
 h.2 tb _ h1 (fun u hu c e => by injection e with _ e _; exact ht (e ▸ hu))
theorem dropT_post {w0 w w1 : World} {gl tb : Nat} {s : TeS} {e3 : S87} {b2 : Nat} {r : List S87} {l : List (Nat × S87)} (h1 : w.heap[tb]? = some (.cells #[.pointer (some ⟨gl, 0, none⟩), .int .i64 s.lost, .int .i64 s.sk] 83 (0, 0))) (hb : w0.heap.size ≤ tb) (hm : l.map (·.2) = r) (hr : IsRing w1 w0.heap.size gl ((b2, e3) :: l)) (hB : Below w0.heap.size w0 w1) (hF : FrT [99, 101] w.drew w1) :
  Ending.returned (.tuple #[]) = Ending.returned (.tuple #[]) ∧ IsTe w1 w0.heap.size tb ⟨e3 :: r, s.lost, s.sk⟩ ∧ Below w0.heap.size w0 w1 ∧ FrT teT w w1 := by
 refine ⟨rfl, ⟨gl, (b2, e3) :: l, FrT.same (w := w.drew) hF h1 (by decide), hr, ?_, hb⟩, hB, FrT.wide (show FrT [99, 101] w w1 from hF) (by decide)⟩
 rw [List.map_cons, hm]
theorem drop_calls (w0 w : World) (tb : Nat) (s : TeS) (e e2 : S87) (r : List S87) (hst : s.st = e :: e2 :: r) (hB : Below w0.heap.size w0 w) (hs : IsTe w w0.heap.size tb s) (hl : r.length < 900) : Calls Try.prog 112 #[.pointer (some ⟨tb, 0, none⟩)] w fun x w' => x = .returned (.tuple #[]) ∧ IsTe w' w0.heap.size tb { s with st := e2 :: r } ∧ Below w0.heap.size w0 w' ∧ FrT teT w w' := by
 obtain ⟨gl, b, l, h1, hr, hm, hb⟩ := hs.cons hst
 obtain ⟨⟨b2, e3⟩, l, rfl⟩ : ∃ p l', l = p :: l' := by
  cases l with
  | nil => simp at hm
  | cons p l => exact ⟨p, l, rfl⟩
 simp only [List.map_cons, List.cons.injEq] at hm
 obtain ⟨rfl, hm⟩ := hm
 have hll : l.length < 900 := by rw [← hm, List.length_map] at hl; exact hl
 have hll1 : l.length < 1000 := by omega
 have hll2 : ((b2, e3) :: l).length < 1000 := by rw [List.length_cons]; omega
 have hc0 := (blk_cell h1 0).trans (show _ = some (.pointer (some ⟨gl, 0, none⟩)) from rfl)
 have HR := az hr
 have HB := az hB
 have H1 := az h1
 have HM := az hm
 clear h1 hr hm hst hs hB
 go_enter Try.func112, Try.ntmps112
 go_region_with (first | (go_at_call 114; refine (listBack_calls _ _ gl (b, e) ((b2, e3) :: l) (ring_drew HR.out) hll2).mono ?_; rintro x w1 ⟨rfl, rfl⟩) | (go_at_call 116; refine (listRemove_calls w0 _ gl (b, e) (b2, e3) l (below_drew HB.out) (ring_drew HR.out) hll1).mono ?_; rintro x w1 ⟨⟨v, rfl⟩, hr1, hb1, hf1⟩; have HR1 := az hr1; have HB1 := az hb1; have HF1 := az hf1; clear hr1 hb1 hf1))
 all_goals (go_end0; exact dropT_post H1.out hb HM.out HR1.out HB1.out HF1.out)
attribute [local go_sem] as86 fld0 fld2
def upT (l : Int) (r : Bool) : Int := if ((!((l + 1) % 2 == 1) == r) = true) then l + 1 + 1 else l + 1
def topT (s : TeS) : Int := match s.st with | [] => 0 | e :: _ => e.f0
def pushT (right : Bool) (side : Int) (alone : Bool) (s : TeS) : TeS :=
  if upT (topT s) right ≤ 20 ∧ s.lost = 0 ∧ s.sk = 0 then { s with st := ⟨upT (topT s) right, side, alone⟩ :: s.st } else if alone = true then { s with lost := s.lost + 1 } else if s.lost = 0 then { s with sk := s.sk + 1 } else s
theorem postPush {w0 w w1 w2 : World} {gl tb n b : Nat} {s : TeS} {e e0 : S87} {r : List S87} {l : List (Nat × S87)} (h1 : w1.heap[tb]? = some (.cells #[.pointer (some ⟨gl, 0, none⟩), .int .i64 s.lost, .int .i64 s.sk] 83 (0, 0))) (hb : w0.heap.size ≤ tb) (hm : l.map (·.2) = r) (hst : s.st = e :: r) (hF1 : FrT teT w w1) (hr : IsRing w2 w0.heap.size gl ((n, e0) :: (b, e) :: l)) (hB : Below w0.heap.size w0 w2) (hF : FrT [99, 101] w1 w2) :
    Ending.returned (.tuple #[]) = Ending.returned (.tuple #[]) ∧ IsTe w2 w0.heap.size tb { s with st := e0 :: s.st } ∧ Below w0.heap.size w0 w2 ∧ FrT teT w w2 := by
  refine ⟨rfl, ⟨gl, _, hF.same h1 (by decide), hr, ?_, hb⟩, hB, hF1.trans (hF.wide (by decide))⟩
  rw [hst, List.map_cons, List.map_cons, hm]
theorem postCell {w0 w w1 : World} {gl tb : Nat} {st : List S87} {lost sk : Int} {l : List (Nat × S87)} (h1 : w1.heap[tb]? = some (.cells #[.pointer (some ⟨gl, 0, none⟩), .int .i64 lost, .int .i64 sk] 83 (0, 0))) (hb : w0.heap.size ≤ tb) (hm : l.map (·.2) = st) (hF1 : FrT teT w w1) (hr : IsRing w1 w0.heap.size gl l) (hB : Below w0.heap.size w0 w1) (x : Int) :
    (Ending.returned (.tuple #[]) = Ending.returned (.tuple #[]) ∧ IsTe (w1.setCell ⟨tb, 1, none⟩ (.int .i64 x)) w0.heap.size tb ⟨st, x, sk⟩ ∧ Below w0.heap.size w0 (w1.setCell ⟨tb, 1, none⟩ (.int .i64 x)) ∧ FrT teT w (w1.setCell ⟨tb, 1, none⟩ (.int .i64 x))) ∧
    (Ending.returned (.tuple #[]) = Ending.returned (.tuple #[]) ∧ IsTe (w1.setCell ⟨tb, 2, none⟩ (.int .i64 x)) w0.heap.size tb ⟨st, lost, x⟩ ∧ Below w0.heap.size w0 (w1.setCell ⟨tb, 2, none⟩ (.int .i64 x)) ∧ FrT teT w (w1.setCell ⟨tb, 2, none⟩ (.int .i64 x))) :=
  ⟨⟨rfl, ⟨gl, l, blk_set h1 1 _, hr.far h1 1 _, hm, hb⟩, hB.setCell (p := ⟨tb, 1, none⟩) hb _, hF1.trans ((FrT.refl teT w1).set h1 (by decide) 1 _)⟩,
   ⟨rfl, ⟨gl, l, blk_set h1 2 _, hr.far h1 2 _, hm, hb⟩, hB.setCell (p := ⟨tb, 2, none⟩) hb _, hF1.trans ((FrT.refl teT w1).set h1 (by decide) 2 _)⟩⟩
theorem pushT_calls (w0 w : World) (tb : Nat) (s : TeS) (e : S87) (r : List S87) (right : Bool) (side : Int) (alone : Bool) (hst : s.st = e :: r) (hB : Below w0.heap.size w0 w) (hs : IsTe w w0.heap.size tb s) (hl9 : r.length < 900) (he0 : 0 ≤ e.f0) (he1 : e.f0 ≤ 1000) (q1 : 0 ≤ s.lost) (q2 : s.lost ≤ 1000) (q3 : 0 ≤ s.sk) (q4 : s.sk ≤ 1000) : Calls Try.prog 100 #[.pointer (some ⟨tb, 0, none⟩), .bool right, .int .i64 side, .bool alone] w fun x w' => x = .returned (.tuple #[]) ∧ IsTe w' w0.heap.size tb (pushT right side alone s) ∧ Below w0.heap.size w0 w' ∧ FrT teT w w' := by
  have hl : r.length < 1000 := by omega
  have HS := az hs
  have HB := az hB
  clear hs hB
  have htop : topT s = e.f0 := by unfold topT; rw [hst]
  have hmst : ∀ (b : Nat) (l : List (Nat × S87)), l.map (·.2) = r → ((b, e) :: l).map (·.2) = e :: r := fun b l h => by rw [List.map_cons, h]
  have hbd : upT e.f0 right = e.f0 + 1 + 1 ∨ upT e.f0 right = e.f0 + 1 := by
    unfold upT
    split
    · exact .inl rfl
    · exact .inr rfl
  unfold pushT
  rw [htop]
  by_cases c1 : upT e.f0 right ≤ 20 ∧ s.lost = 0 ∧ s.sk = 0
  · rw [if_pos c1]
    obtain ⟨c2, c3, c4⟩ := c1
    have c3b : (s.lost == 0) = true := by rw [c3]; rfl
    have c4b : (s.sk == 0) = true := by rw [c4]; rfl
    by_cases u1 : (!((e.f0 + 1) % 2 == 1) == right) = true
    · have hup : upT e.f0 right = e.f0 + 1 + 1 := if_pos u1
      rw [hup] at c2 ⊢
      clear c3 c4 hup hbd htop
      go_enter Try.func100, Try.ntmps100
      go_wp2_with (first | (go_at_call 103; refine (last_calls _ _ tb s e r hst HS.out hl).mono ?_; rintro x w1 ⟨rfl, hb1⟩; have n0 := az (HS.out.below hb1); have n1 := az (below_then HB.out HB.out.size hb1); have n2 := az (FrT.below (ts := teT) hb1); obtain ⟨gl, b, l, h1, hr, hm, htb⟩ := n0.out.cons hst; have hll : l.length < 900 := (by rw [← hm, List.length_map] at hl9; exact hl9); have hc0 := (blk_cell h1 0).trans (show _ = some (.pointer (some ⟨gl, 0, none⟩)) from rfl); have hc1 := (blk_cell h1 1).trans (show _ = some (.int .i64 s.lost) from rfl); have hc2 := (blk_cell h1 2).trans (show _ = some (.int .i64 s.sk) from rfl); have hf1 := blk_frozen h1 1; have hf2 := blk_frozen h1 2; have H1 := az h1; have HR := az hr; have HM := az hm; clear hb1 h1 hr hm) | (go_at_call 77; refine (listPush_calls w0 _ gl (b, e) l ⟨e.f0 + 1 + 1, side, alone⟩ n1.out HR.out (by omega)).mono ?_; rintro x w2 ⟨⟨v, rfl⟩, hr2, hb2, hf2⟩; have HR2 := az hr2; have HB2 := az hb2; have HF2 := az hf2; clear hr2 hb2 hf2))
      all_goals (go_end0; exact postPush H1.out htb HM.out hst n2.out HR2.out HB2.out HF2.out)
    · have hup : upT e.f0 right = e.f0 + 1 := if_neg u1
      have u1 := Bool.eq_false_iff.mpr u1
      rw [hup] at c2 ⊢
      clear c3 c4 hup hbd htop
      go_enter Try.func100, Try.ntmps100
      go_wp2_with (first | (go_at_call 103; refine (last_calls _ _ tb s e r hst HS.out hl).mono ?_; rintro x w1 ⟨rfl, hb1⟩; have n0 := az (HS.out.below hb1); have n1 := az (below_then HB.out HB.out.size hb1); have n2 := az (FrT.below (ts := teT) hb1); obtain ⟨gl, b, l, h1, hr, hm, htb⟩ := n0.out.cons hst; have hll : l.length < 900 := (by rw [← hm, List.length_map] at hl9; exact hl9); have hc0 := (blk_cell h1 0).trans (show _ = some (.pointer (some ⟨gl, 0, none⟩)) from rfl); have hc1 := (blk_cell h1 1).trans (show _ = some (.int .i64 s.lost) from rfl); have hc2 := (blk_cell h1 2).trans (show _ = some (.int .i64 s.sk) from rfl); have hf1 := blk_frozen h1 1; have hf2 := blk_frozen h1 2; have H1 := az h1; have HR := az hr; have HM := az hm; clear hb1 h1 hr hm) | (go_at_call 77; refine (listPush_calls w0 _ gl (b, e) l ⟨e.f0 + 1, side, alone⟩ n1.out HR.out (by omega)).mono ?_; rintro x w2 ⟨⟨v, rfl⟩, hr2, hb2, hf2⟩; have HR2 := az hr2; have HB2 := az hb2; have HF2 := az hf2; clear hr2 hb2 hf2))
      all_goals (go_end0; exact postPush H1.out htb HM.out hst n2.out HR2.out HB2.out HF2.out)
  · rw [if_neg c1]
    have hcs : ((s.lost == 0) = false ∧ ¬ s.lost = 0) ∨ ((s.lost == 0) = true ∧ s.lost = 0 ∧ (s.sk == 0) = false) ∨ ((s.lost == 0) = true ∧ s.lost = 0 ∧ (s.sk == 0) = true ∧ 20 < upT e.f0 right) := by
      by_cases c2 : s.lost = 0
      · have d2 : (s.lost == 0) = true := by rw [c2]; rfl
        by_cases c3 : s.sk = 0
        · exact .inr (.inr ⟨d2, c2, by rw [c3]; rfl, by omega⟩)
        · exact .inr (.inl ⟨d2, c2, beq_eq_false_iff_ne.mpr c3⟩)
      · exact .inl ⟨beq_eq_false_iff_ne.mpr c2, c2⟩
    clear c1 htop
    cases alone
    · rw [if_neg (by decide)]
      rcases hcs with ⟨d1, d2⟩ | ⟨d1, d2, d3⟩ | ⟨d1, d2, d3, d4⟩
      · rw [if_neg d2]
        clear d2
        by_cases u1 : (!((e.f0 + 1) % 2 == 1) == right) = true
        · have hup : upT e.f0 right = e.f0 + 1 + 1 := if_pos u1
          clear hup hbd
          go_enter Try.func100, Try.ntmps100
          go_wp2_with (go_at_call 103; refine (last_calls _ _ tb s e r hst HS.out hl).mono ?_; rintro x w1 ⟨rfl, hb1⟩; have n0 := az (HS.out.below hb1); have n1 := az (below_then HB.out HB.out.size hb1); have n2 := az (FrT.below (ts := teT) hb1); obtain ⟨gl, b, l, h1, hr, hm, htb⟩ := n0.out.cons hst; have hll : l.length < 900 := (by rw [← hm, List.length_map] at hl9; exact hl9); have hc0 := (blk_cell h1 0).trans (show _ = some (.pointer (some ⟨gl, 0, none⟩)) from rfl); have hc1 := (blk_cell h1 1).trans (show _ = some (.int .i64 s.lost) from rfl); have hc2 := (blk_cell h1 2).trans (show _ = some (.int .i64 s.sk) from rfl); have hf1 := blk_frozen h1 1; have hf2 := blk_frozen h1 2; have H1 := az h1; have HR := az hr; have HM := az hm; clear hb1 h1 hr hm)
          all_goals (go_end0; (try rw [hst]); exact ⟨rfl, n0.out, n1.out, n2.out⟩)
        · have hup : upT e.f0 right = e.f0 + 1 := if_neg u1
          have u1 := Bool.eq_false_iff.mpr u1
          clear hup hbd
          go_enter Try.func100, Try.ntmps100
          go_wp2_with (go_at_call 103; refine (last_calls _ _ tb s e r hst HS.out hl).mono ?_; rintro x w1 ⟨rfl, hb1⟩; have n0 := az (HS.out.below hb1); have n1 := az (below_then HB.out HB.out.size hb1); have n2 := az (FrT.below (ts := teT) hb1); obtain ⟨gl, b, l, h1, hr, hm, htb⟩ := n0.out.cons hst; have hll : l.length < 900 := (by rw [← hm, List.length_map] at hl9; exact hl9); have hc0 := (blk_cell h1 0).trans (show _ = some (.pointer (some ⟨gl, 0, none⟩)) from rfl); have hc1 := (blk_cell h1 1).trans (show _ = some (.int .i64 s.lost) from rfl); have hc2 := (blk_cell h1 2).trans (show _ = some (.int .i64 s.sk) from rfl); have hf1 := blk_frozen h1 1; have hf2 := blk_frozen h1 2; have H1 := az h1; have HR := az hr; have HM := az hm; clear hb1 h1 hr hm)
          all_goals (go_end0; (try rw [hst]); exact ⟨rfl, n0.out, n1.out, n2.out⟩)
      · rw [if_pos d2]
        clear d2
        by_cases u1 : (!((e.f0 + 1) % 2 == 1) == right) = true
        · have hup : upT e.f0 right = e.f0 + 1 + 1 := if_pos u1
          clear hup hbd
          go_enter Try.func100, Try.ntmps100
          go_wp2_with (go_at_call 103; refine (last_calls _ _ tb s e r hst HS.out hl).mono ?_; rintro x w1 ⟨rfl, hb1⟩; have n0 := az (HS.out.below hb1); have n1 := az (below_then HB.out HB.out.size hb1); have n2 := az (FrT.below (ts := teT) hb1); obtain ⟨gl, b, l, h1, hr, hm, htb⟩ := n0.out.cons hst; have hll : l.length < 900 := (by rw [← hm, List.length_map] at hl9; exact hl9); have hc0 := (blk_cell h1 0).trans (show _ = some (.pointer (some ⟨gl, 0, none⟩)) from rfl); have hc1 := (blk_cell h1 1).trans (show _ = some (.int .i64 s.lost) from rfl); have hc2 := (blk_cell h1 2).trans (show _ = some (.int .i64 s.sk) from rfl); have hf1 := blk_frozen h1 1; have hf2 := blk_frozen h1 2; have H1 := az h1; have HR := az hr; have HM := az hm; clear hb1 h1 hr hm)
          all_goals (go_end0; (try rw [hst]); exact (postCell H1.out htb (hmst b l HM.out) n2.out HR.out n1.out _).2)
        · have hup : upT e.f0 right = e.f0 + 1 := if_neg u1
          have u1 := Bool.eq_false_iff.mpr u1
          clear hup hbd
          go_enter Try.func100, Try.ntmps100
          go_wp2_with (go_at_call 103; refine (last_calls _ _ tb s e r hst HS.out hl).mono ?_; rintro x w1 ⟨rfl, hb1⟩; have n0 := az (HS.out.below hb1); have n1 := az (below_then HB.out HB.out.size hb1); have n2 := az (FrT.below (ts := teT) hb1); obtain ⟨gl, b, l, h1, hr, hm, htb⟩ := n0.out.cons hst; have hll : l.length < 900 := (by rw [← hm, List.length_map] at hl9; exact hl9); have hc0 := (blk_cell h1 0).trans (show _ = some (.pointer (some ⟨gl, 0, none⟩)) from rfl); have hc1 := (blk_cell h1 1).trans (show _ = some (.int .i64 s.lost) from rfl); have hc2 := (blk_cell h1 2).trans (show _ = some (.int .i64 s.sk) from rfl); have hf1 := blk_frozen h1 1; have hf2 := blk_frozen h1 2; have H1 := az h1; have HR := az hr; have HM := az hm; clear hb1 h1 hr hm)
          all_goals (go_end0; (try rw [hst]); exact (postCell H1.out htb (hmst b l HM.out) n2.out HR.out n1.out _).2)
      · rw [if_pos d2]
        clear d2
        by_cases u1 : (!((e.f0 + 1) % 2 == 1) == right) = true
        · have hup : upT e.f0 right = e.f0 + 1 + 1 := if_pos u1
          rw [hup] at d4
          clear hup hbd
          go_enter Try.func100, Try.ntmps100
          go_wp2_with (go_at_call 103; refine (last_calls _ _ tb s e r hst HS.out hl).mono ?_; rintro x w1 ⟨rfl, hb1⟩; have n0 := az (HS.out.below hb1); have n1 := az (below_then HB.out HB.out.size hb1); have n2 := az (FrT.below (ts := teT) hb1); obtain ⟨gl, b, l, h1, hr, hm, htb⟩ := n0.out.cons hst; have hll : l.length < 900 := (by rw [← hm, List.length_map] at hl9; exact hl9); have hc0 := (blk_cell h1 0).trans (show _ = some (.pointer (some ⟨gl, 0, none⟩)) from rfl); have hc1 := (blk_cell h1 1).trans (show _ = some (.int .i64 s.lost) from rfl); have hc2 := (blk_cell h1 2).trans (show _ = some (.int .i64 s.sk) from rfl); have hf1 := blk_frozen h1 1; have hf2 := blk_frozen h1 2; have H1 := az h1; have HR := az hr; have HM := az hm; clear hb1 h1 hr hm)
          all_goals (go_end0; (try rw [hst]); exact (postCell H1.out htb (hmst b l HM.out) n2.out HR.out n1.out _).2)
        · have hup : upT e.f0 right = e.f0 + 1 := if_neg u1
          have u1 := Bool.eq_false_iff.mpr u1
          rw [hup] at d4
          clear hup hbd
          go_enter Try.func100, Try.ntmps100
          go_wp2_with (go_at_call 103; refine (last_calls _ _ tb s e r hst HS.out hl).mono ?_; rintro x w1 ⟨rfl, hb1⟩; have n0 := az (HS.out.below hb1); have n1 := az (below_then HB.out HB.out.size hb1); have n2 := az (FrT.below (ts := teT) hb1); obtain ⟨gl, b, l, h1, hr, hm, htb⟩ := n0.out.cons hst; have hll : l.length < 900 := (by rw [← hm, List.length_map] at hl9; exact hl9); have hc0 := (blk_cell h1 0).trans (show _ = some (.pointer (some ⟨gl, 0, none⟩)) from rfl); have hc1 := (blk_cell h1 1).trans (show _ = some (.int .i64 s.lost) from rfl); have hc2 := (blk_cell h1 2).trans (show _ = some (.int .i64 s.sk) from rfl); have hf1 := blk_frozen h1 1; have hf2 := blk_frozen h1 2; have H1 := az h1; have HR := az hr; have HM := az hm; clear hb1 h1 hr hm)
          all_goals (go_end0; (try rw [hst]); exact (postCell H1.out htb (hmst b l HM.out) n2.out HR.out n1.out _).2)
    · rw [if_pos (by decide)]
      rcases hcs with ⟨d1, d2⟩ | ⟨d1, d2, d3⟩ | ⟨d1, d2, d3, d4⟩
      · clear d2
        by_cases u1 : (!((e.f0 + 1) % 2 == 1) == right) = true
        · have hup : upT e.f0 right = e.f0 + 1 + 1 := if_pos u1
          clear hup hbd
          go_enter Try.func100, Try.ntmps100
          go_wp2_with (go_at_call 103; refine (last_calls _ _ tb s e r hst HS.out hl).mono ?_; rintro x w1 ⟨rfl, hb1⟩; have n0 := az (HS.out.below hb1); have n1 := az (below_then HB.out HB.out.size hb1); have n2 := az (FrT.below (ts := teT) hb1); obtain ⟨gl, b, l, h1, hr, hm, htb⟩ := n0.out.cons hst; have hll : l.length < 900 := (by rw [← hm, List.length_map] at hl9; exact hl9); have hc0 := (blk_cell h1 0).trans (show _ = some (.pointer (some ⟨gl, 0, none⟩)) from rfl); have hc1 := (blk_cell h1 1).trans (show _ = some (.int .i64 s.lost) from rfl); have hc2 := (blk_cell h1 2).trans (show _ = some (.int .i64 s.sk) from rfl); have hf1 := blk_frozen h1 1; have hf2 := blk_frozen h1 2; have H1 := az h1; have HR := az hr; have HM := az hm; clear hb1 h1 hr hm)
          all_goals (go_end0; (try rw [hst]); exact (postCell H1.out htb (hmst b l HM.out) n2.out HR.out n1.out _).1)
        · have hup : upT e.f0 right = e.f0 + 1 := if_neg u1
          have u1 := Bool.eq_false_iff.mpr u1
          clear hup hbd
          go_enter Try.func100, Try.ntmps100
          go_wp2_with (go_at_call 103; refine (last_calls _ _ tb s e r hst HS.out hl).mono ?_; rintro x w1 ⟨rfl, hb1⟩; have n0 := az (HS.out.below hb1); have n1 := az (below_then HB.out HB.out.size hb1); have n2 := az (FrT.below (ts := teT) hb1); obtain ⟨gl, b, l, h1, hr, hm, htb⟩ := n0.out.cons hst; have hll : l.length < 900 := (by rw [← hm, List.length_map] at hl9; exact hl9); have hc0 := (blk_cell h1 0).trans (show _ = some (.pointer (some ⟨gl, 0, none⟩)) from rfl); have hc1 := (blk_cell h1 1).trans (show _ = some (.int .i64 s.lost) from rfl); have hc2 := (blk_cell h1 2).trans (show _ = some (.int .i64 s.sk) from rfl); have hf1 := blk_frozen h1 1; have hf2 := blk_frozen h1 2; have H1 := az h1; have HR := az hr; have HM := az hm; clear hb1 h1 hr hm)
          all_goals (go_end0; (try rw [hst]); exact (postCell H1.out htb (hmst b l HM.out) n2.out HR.out n1.out _).1)
      · clear d2
        by_cases u1 : (!((e.f0 + 1) % 2 == 1) == right) = true
        · have hup : upT e.f0 right = e.f0 + 1 + 1 := if_pos u1
          clear hup hbd
          go_enter Try.func100, Try.ntmps100
          go_wp2_with (go_at_call 103; refine (last_calls _ _ tb s e r hst HS.out hl).mono ?_; rintro x w1 ⟨rfl, hb1⟩; have n0 := az (HS.out.below hb1); have n1 := az (below_then HB.out HB.out.size hb1); have n2 := az (FrT.below (ts := teT) hb1); obtain ⟨gl, b, l, h1, hr, hm, htb⟩ := n0.out.cons hst; have hll : l.length < 900 := (by rw [← hm, List.length_map] at hl9; exact hl9); have hc0 := (blk_cell h1 0).trans (show _ = some (.pointer (some ⟨gl, 0, none⟩)) from rfl); have hc1 := (blk_cell h1 1).trans (show _ = some (.int .i64 s.lost) from rfl); have hc2 := (blk_cell h1 2).trans (show _ = some (.int .i64 s.sk) from rfl); have hf1 := blk_frozen h1 1; have hf2 := blk_frozen h1 2; have H1 := az h1; have HR := az hr; have HM := az hm; clear hb1 h1 hr hm)
          all_goals (go_end0; (try rw [hst]); exact (postCell H1.out htb (hmst b l HM.out) n2.out HR.out n1.out _).1)
        · have hup : upT e.f0 right = e.f0 + 1 := if_neg u1
          have u1 := Bool.eq_false_iff.mpr u1
          clear hup hbd
          go_enter Try.func100, Try.ntmps100
          go_wp2_with (go_at_call 103; refine (last_calls _ _ tb s e r hst HS.out hl).mono ?_; rintro x w1 ⟨rfl, hb1⟩; have n0 := az (HS.out.below hb1); have n1 := az (below_then HB.out HB.out.size hb1); have n2 := az (FrT.below (ts := teT) hb1); obtain ⟨gl, b, l, h1, hr, hm, htb⟩ := n0.out.cons hst; have hll : l.length < 900 := (by rw [← hm, List.length_map] at hl9; exact hl9); have hc0 := (blk_cell h1 0).trans (show _ = some (.pointer (some ⟨gl, 0, none⟩)) from rfl); have hc1 := (blk_cell h1 1).trans (show _ = some (.int .i64 s.lost) from rfl); have hc2 := (blk_cell h1 2).trans (show _ = some (.int .i64 s.sk) from rfl); have hf1 := blk_frozen h1 1; have hf2 := blk_frozen h1 2; have H1 := az h1; have HR := az hr; have HM := az hm; clear hb1 h1 hr hm)
          all_goals (go_end0; (try rw [hst]); exact (postCell H1.out htb (hmst b l HM.out) n2.out HR.out n1.out _).1)
      · clear d2
        by_cases u1 : (!((e.f0 + 1) % 2 == 1) == right) = true
        · have hup : upT e.f0 right = e.f0 + 1 + 1 := if_pos u1
          rw [hup] at d4
          clear hup hbd
          go_enter Try.func100, Try.ntmps100
          go_wp2_with (go_at_call 103; refine (last_calls _ _ tb s e r hst HS.out hl).mono ?_; rintro x w1 ⟨rfl, hb1⟩; have n0 := az (HS.out.below hb1); have n1 := az (below_then HB.out HB.out.size hb1); have n2 := az (FrT.below (ts := teT) hb1); obtain ⟨gl, b, l, h1, hr, hm, htb⟩ := n0.out.cons hst; have hll : l.length < 900 := (by rw [← hm, List.length_map] at hl9; exact hl9); have hc0 := (blk_cell h1 0).trans (show _ = some (.pointer (some ⟨gl, 0, none⟩)) from rfl); have hc1 := (blk_cell h1 1).trans (show _ = some (.int .i64 s.lost) from rfl); have hc2 := (blk_cell h1 2).trans (show _ = some (.int .i64 s.sk) from rfl); have hf1 := blk_frozen h1 1; have hf2 := blk_frozen h1 2; have H1 := az h1; have HR := az hr; have HM := az hm; clear hb1 h1 hr hm)
          all_goals (go_end0; (try rw [hst]); exact (postCell H1.out htb (hmst b l HM.out) n2.out HR.out n1.out _).1)
        · have hup : upT e.f0 right = e.f0 + 1 := if_neg u1
          have u1 := Bool.eq_false_iff.mpr u1
          rw [hup] at d4
          clear hup hbd
          go_enter Try.func100, Try.ntmps100
          go_wp2_with (go_at_call 103; refine (last_calls _ _ tb s e r hst HS.out hl).mono ?_; rintro x w1 ⟨rfl, hb1⟩; have n0 := az (HS.out.below hb1); have n1 := az (below_then HB.out HB.out.size hb1); have n2 := az (FrT.below (ts := teT) hb1); obtain ⟨gl, b, l, h1, hr, hm, htb⟩ := n0.out.cons hst; have hll : l.length < 900 := (by rw [← hm, List.length_map] at hl9; exact hl9); have hc0 := (blk_cell h1 0).trans (show _ = some (.pointer (some ⟨gl, 0, none⟩)) from rfl); have hc1 := (blk_cell h1 1).trans (show _ = some (.int .i64 s.lost) from rfl); have hc2 := (blk_cell h1 2).trans (show _ = some (.int .i64 s.sk) from rfl); have hf1 := blk_frozen h1 1; have hf2 := blk_frozen h1 2; have H1 := az h1; have HR := az hr; have HM := az hm; clear hb1 h1 hr hm)
          all_goals (go_end0; (try rw [hst]); exact (postCell H1.out htb (hmst b l HM.out) n2.out HR.out n1.out _).1)
attribute [local go_sem] as86 fld0 fld2
def popT (s : TeS) : TeS :=
 if 0 < s.lost then s else if 0 < s.sk then { s with sk := s.sk - 1 } else match s.st with
  | e :: e2 :: r => if e.f2 = false then { s with st := e2 :: r } else s
  | _ => s
theorem popT_calls (w0 w : World) (tb : Nat) (s : TeS) (e : S87) (r : List S87) (hst : s.st = e :: r) (hB : Below w0.heap.size w0 w) (hs : IsTe w w0.heap.size tb s) (hl9 : r.length < 900) (q1 : 0 ≤ s.lost) (q2 : s.lost ≤ 1000) (q3 : 0 ≤ s.sk) (q4 : s.sk ≤ 1000) : Calls Try.prog 101 #[.pointer (some ⟨tb, 0, none⟩)] w fun x w' => x = .returned (.tuple #[]) ∧ IsTe w' w0.heap.size tb (popT s) ∧ Below w0.heap.size w0 w' ∧ FrT teT w w' := by
 have hl : r.length < 1000 := by omega
 have HS := az hs
 have HB := az hB
 clear hB
 unfold popT
 by_cases c1 : 0 < s.lost
 ·
  rw [if_pos c1]
  obtain ⟨gl, b, l, h1, hr, hm, hb⟩ := hs.cons hst
  have hc1 := (blk_cell h1 1).trans (show _ = some (.int .i64 s.lost) from rfl)
  clear h1 hr hm hs
  go_enter Try.func101, Try.ntmps101
  go_wp2
  go_end0
  exact ⟨rfl, HS.out, HB.out, FrT.refl _ _⟩
 ·
  rw [if_neg c1]
  have c1 : s.lost ≤ 0 := by omega
  by_cases c2 : 0 < s.sk
  ·
   rw [if_pos c2]
   obtain ⟨gl, b, l, h1, hr, hm, hb⟩ := hs.cons hst
   have hc1 := (blk_cell h1 1).trans (show _ = some (.int .i64 s.lost) from rfl)
   have hc2 := (blk_cell h1 2).trans (show _ = some (.int .i64 s.sk) from rfl)
   have hf2 := blk_frozen h1 2
   have H1 := az h1
   have HR := az hr
   have HM := az (show ((b, e) :: l).map (·.2) = e :: r by rw [List.map_cons, hm])
   clear h1 hr hm hs
   go_enter Try.func101, Try.ntmps101
   go_wp2
   go_end0
   try rw [hst]
   exact (postCell H1.out hb HM.out (FrT.refl _ _) HR.out HB.out _).2
  ·
   rw [if_neg c2, hst]
   have c2 : s.sk ≤ 0 := by omega
   obtain ⟨gl0, b0, l0, h1, hr, hm, hb⟩ := hs.cons hst
   have hc1 := (blk_cell h1 1).trans (show _ = some (.int .i64 s.lost) from rfl)
   have hc2 := (blk_cell h1 2).trans (show _ = some (.int .i64 s.sk) from rfl)
   clear h1 hr hm hs hb
   cases he : e.f2 with
   | true =>
    have hg : (match e :: r with | e :: e2 :: r => if e.f2 = false then ({ s with st := e2 :: r } : TeS) else s | _ => s) = s := by
     cases r with
     | nil => rfl
     | cons e2 r => exact if_neg (by rw [he]; decide)
    rw [hg]
    go_enter Try.func101, Try.ntmps101
    go_wp2_with (go_at_call 103; refine (last_calls _ _ tb s e r hst HS.out hl).mono ?_; rintro x w1 ⟨rfl, hb1⟩; have n0 := az (HS.out.below hb1); have n1 := az (below_then HB.out HB.out.size hb1); have n2 := az (FrT.below (ts := teT) hb1); obtain ⟨gl, b, l, h1, hr, hm, htb⟩ := n0.out.cons hst; have hll : l.length < 900 := (by rw [← hm, List.length_map] at hl9; exact hl9); have hc0 := (blk_cell h1 0).trans (show _ = some (.pointer (some ⟨gl, 0, none⟩)) from rfl); have hc1 := (blk_cell h1 1).trans (show _ = some (.int .i64 s.lost) from rfl); have hc2 := (blk_cell h1 2).trans (show _ = some (.int .i64 s.sk) from rfl); have hf1 := blk_frozen h1 1; have hf2 := blk_frozen h1 2; have H1 := az h1; have HR := az hr; have HM := az hm; clear hb1 h1 hr hm)
    all_goals (go_end0; exact ⟨rfl, n0.out, n1.out, n2.out⟩)
   | false =>
    cases r with
    | nil =>
     go_enter Try.func101, Try.ntmps101
     go_wp2_with (first | (go_at_call 103; refine (last_calls _ _ tb s e [] hst HS.out hl).mono ?_; rintro x w1 ⟨rfl, hb1⟩; have n0 := az (HS.out.below hb1); have n1 := az (below_then HB.out HB.out.size hb1); have n2 := az (FrT.below (ts := teT) hb1); obtain ⟨gl, b, l, h1, hr, hm, htb⟩ := n0.out.cons hst; have hll : l.length < 900 := (by rw [← hm, List.length_map] at hl9; exact hl9); have hc0 := (blk_cell h1 0).trans (show _ = some (.pointer (some ⟨gl, 0, none⟩)) from rfl); have hc1 := (blk_cell h1 1).trans (show _ = some (.int .i64 s.lost) from rfl); have hc2 := (blk_cell h1 2).trans (show _ = some (.int .i64 s.sk) from rfl); have hf1 := blk_frozen h1 1; have hf2 := blk_frozen h1 2; obtain rfl : l = [] := List.map_eq_nil_iff.mp hm; have H1 := az h1; have HR := az hr; have HM := az hm; clear hb1 h1 hr hm) | (go_at_call 111; refine (listLen_calls _ _ gl _ HR.out).mono ?_; rintro x w2 ⟨rfl, rfl⟩))
     all_goals (go_end0; exact ⟨rfl, n0.out, n1.out, n2.out⟩)
    | cons e2 r =>
     have hg : (match e :: e2 :: r with | e :: e2 :: r => if e.f2 = false then ({ s with st := e2 :: r } : TeS) else s | _ => s) = { s with st := e2 :: r } := if_pos he
     rw [hg]
     go_enter Try.func101, Try.ntmps101
     go_wp2_with (first | (go_at_call 103; refine (last_calls _ _ tb s e (e2 :: r) hst HS.out hl).mono ?_; rintro x w1 ⟨rfl, hb1⟩; have n0 := az (HS.out.below hb1); have n1 := az (below_then HB.out HB.out.size hb1); have n2 := az (FrT.below (ts := teT) hb1); obtain ⟨gl, b, l, h1, hr, hm, htb⟩ := n0.out.cons hst; have hll : l.length < 900 := (by rw [← hm, List.length_map] at hl9; exact hl9); have hc0 := (blk_cell h1 0).trans (show _ = some (.pointer (some ⟨gl, 0, none⟩)) from rfl); have hc1 := (blk_cell h1 1).trans (show _ = some (.int .i64 s.lost) from rfl); have hc2 := (blk_cell h1 2).trans (show _ = some (.int .i64 s.sk) from rfl); have hf1 := blk_frozen h1 1; have hf2 := blk_frozen h1 2; have hlen : 1 < ((((b, e) :: l).length : Nat) : Int) := (by have := congrArg List.length hm; rw [List.length_map, List.length_cons] at this; rw [List.length_cons]; omega); have H1 := az h1; have HR := az hr; have HM := az hm; clear hb1 h1 hr hm) | (go_at_call 111; refine (listLen_calls _ _ gl _ HR.out).mono ?_; rintro x w2 ⟨rfl, rfl⟩) | (go_at_call 112; refine (drop_calls w0 _ tb s e e2 r hst n1.out n0.out (by rw [List.length_cons] at hl9; omega)).mono ?_; rintro x w2 ⟨rfl, hd1, hd2, hd3⟩; have D1 := az hd1; have D2 := az hd2; have D3 := az hd3; clear hd1 hd2 hd3))
     all_goals first | (exfalso; rw [List.length_cons] at hlen; omega) | (go_end0; exact ⟨rfl, D1.out, D2.out, n2.out.trans D3.out⟩)
attribute [local go_sem] as86 fld0 fld2
theorem botA_last (gl : Nat) : ∀ (l : List (Nat × S87)), l ≠ [] → some (botA gl l) = l.getLast?.map fun q => (⟨q.1, 0, none⟩ : Addr)
 | [], h => absurd rfl h
 | [p], _ => by simp [botA]
 | p :: q :: r, _ => by
  rw [show botA gl (p :: q :: r) = botA gl (q :: r) from if_neg (by simp), botA_last gl (q :: r) (by simp), List.getLast?_cons_cons]
theorem hasAlone_calls (w : World) (base tb : Nat) (s : TeS) (h0 : s.st ≠ []) (hs : IsTe w base tb s) : Calls Try.prog 113 #[.pointer (some ⟨tb, 0, none⟩)] w fun x w' => x = .returned (.bool (s.st.any (·.f2))) ∧ w' = w := by
 obtain ⟨gl, l, h1, hr, hm, hb⟩ := hs
 have hl0 : l ≠ [] := by
  rintro rfl
  exact h0 hm.symm
 have hc0 := (blk_cell h1 0).trans (show _ = some (.pointer (some ⟨gl, 0, none⟩)) from rfl)
 have HR := az hr
 have HM := az (show s.st.any (·.f2) = l.any (·.2.f2) by rw [← hm, List.any_map]; rfl)
 have HL0 := az hl0
 have hnil := fun pp => run_neq_pointer_nil (P := Try.prog) w 84 (some pp) (by rw [Try.underlying84]; rfl)
 clear h1 hr hm hb h0
 go_enter Try.func113, Try.ntmps113
 go_wp2_with (go_at_call 117; refine (listFront_calls _ _ gl l HR.out HL0.out).mono ?_; rintro x w ⟨rfl, rfl⟩)
 go_loopg [3] (l.length + 1) (fun gg s3 wr => ∃ (u v : List (Nat × S87)), s3 = .pointer (u.getLast?.map fun q => (⟨q.1, 0, none⟩ : Addr)) ∧ u.length + 1 ≤ gg ∧ wr = w ∧ Aside0 (l = u ++ v) ∧ Aside0 (∀ p ∈ v, p.2.f2 = false))
 case atStart => exact ⟨l, [], by rw [← botA_last gl l HL0.out], Nat.le_refl _, rfl, ⟨by simp⟩, ⟨by simp⟩⟩
 case round =>
  obtain ⟨u, v, rfl, hg, hwr, HL, HV⟩ := hrel
  subst hwr
  rcases (List.eq_nil_or_concat u) with rfl | ⟨u', q, hu⟩
  ·
   go_wp2
   go_ret
   refine ⟨?_, rfl⟩
   have e0 : l.any (·.2.f2) = false := by
    rw [HL.out, List.nil_append]
    exact List.any_eq_false.mpr fun p hp => by rw [HV.out p hp]; decide
   rw [HM.out, e0]
   rfl
  ·
   rw [List.concat_eq_append] at hu
   subst hu
   have hl2 : l = u' ++ q :: v := by rw [HL.out]; simp
   have hgb := (hl2 ▸ HR.out : IsRing _ base gl (u' ++ q :: v)).2.1.at_.1
   have HQ := az (hl2 ▸ HR.out : IsRing _ base gl (u' ++ q :: v))
   have HL2 := az hl2
   have hq3 := (blk_cell hgb 3).trans (show _ = some (.iface 87 (.agg #[.int .i64 q.2.f0, .int .i64 q.2.f1, .bool q.2.f2])) from rfl)
   have hq0 : (u' ++ [q]).getLast?.map (fun q => (⟨q.1, 0, none⟩ : Addr)) = some ⟨q.1, 0, none⟩ := by simp
   have hgl : u'.length + 2 ≤ gk := by rw [List.length_append] at hg; exact hg
   clear hgb hl2 hg
   rw [hq0]
   clear hq0
   cases hq : q.2.f2 with
   | true =>
    rw [hq] at hq3
    go_wp2
    go_ret
    refine ⟨?_, rfl⟩
    have e0 : l.any (·.2.f2) = true := by
     rw [HL2.out]
     exact List.any_eq_true.mpr ⟨q, by simp, hq⟩
    rw [HM.out, e0]
    rfl
   | false =>
    rw [hq] at hq3
    go_wp2_with (go_at_call 118; refine (listNext_calls _ base gl q u' v HQ.out).mono ?_; rintro x w ⟨rfl, rfl⟩)
    go_roundg (u'.length + 1)
    case measure => omega
    case rel => exact ⟨u', q :: v, rfl, Nat.le_refl _, rfl, HL2, ⟨fun p hp => (List.mem_cons.mp hp).elim (fun h => h ▸ hq) (fun h => HV.out p h)⟩⟩
attribute [local go_sem] as86 fld0 fld2
def popAl : List S87 → List S87
 | [] => []
 | e :: r => if e.f2 = true then r else popAl r
def closeT (s : TeS) : TeS :=
 if 0 < s.lost then { s with lost := s.lost - 1 } else if s.st.any (·.f2) = true then { s with sk := 0, st := popAl s.st } else s
theorem any_two {e : S87} {r : List S87} (h1 : (e :: r).any (·.f2) = true) (h2 : ∃ r' b, e :: r = r' ++ [b] ∧ b.f2 = false) : ∃ e2 r2, r = e2 :: r2 ∧ (∃ r' b, r = r' ++ [b] ∧ b.f2 = false) := by
 obtain ⟨r', b, h3, h4⟩ := h2
 cases r' with
 | nil =>
  simp only [List.nil_append, List.cons.injEq] at h3
  obtain ⟨rfl, rfl⟩ := h3
  simp [h4] at h1
 | cons p r' =>
  simp only [List.cons_append, List.cons.injEq] at h3
  obtain ⟨rfl, rfl⟩ := h3
  cases r' with
  | nil => exact ⟨b, [], rfl, [], b, rfl, h4⟩
  | cons q r' => exact ⟨q, r' ++ [b], rfl, q :: r', b, rfl, h4⟩
theorem closeT_calls (w0 w : World) (tb : Nat) (s : TeS) (e : S87) (r : List S87) (hst : s.st = e :: r) (hbt : ∃ r' b, s.st = r' ++ [b] ∧ b.f2 = false) (hB : Below w0.heap.size w0 w) (hs : IsTe w w0.heap.size tb s) (hl9 : r.length < 900) (q1 : 0 ≤ s.lost) (q2 : s.lost ≤ 1000) : Calls Try.prog 102 #[.pointer (some ⟨tb, 0, none⟩)] w fun x w' => x = .returned (.tuple #[]) ∧ IsTe w' w0.heap.size tb (closeT s) ∧ Below w0.heap.size w0 w' ∧ FrT teT w w' := by
 have HS := az hs
 have HB := az hB
 have hs0 : s.st ≠ [] := by rw [hst]; simp
 obtain ⟨gl, b, l, h1, hr, hm, htb⟩ := hs.cons hst
 have hc1 := (blk_cell h1 1).trans (show _ = some (.int .i64 s.lost) from rfl)
 have hc2 := (blk_cell h1 2).trans (show _ = some (.int .i64 s.sk) from rfl)
 have hf1 := blk_frozen h1 1
 have hf2 := blk_frozen h1 2
 have H1 := az h1
 have HR := az hr
 have HM := az (show ((b, e) :: l).map (·.2) = s.st by rw [hst, List.map_cons, hm])
 have HST := az hst
 have HBT := az hbt
 have HS0 := az hs0
 clear hB hs hs0 hst hbt h1 hr hm
 unfold closeT
 by_cases c1 : 0 < s.lost
 ·
  rw [if_pos c1]
  go_enter Try.func102, Try.ntmps102
  go_wp2
  go_end0
  exact (postCell H1.out htb HM.out (FrT.refl _ _) HR.out HB.out _).1
 ·
  rw [if_neg c1]
  have c1 : s.lost ≤ 0 := by omega
  have HCP := az (postCell H1.out htb HM.out (FrT.refl _ _) HR.out HB.out 0).2
  cases ha : s.st.any (·.f2) with
  | false =>
   rw [if_neg (by decide)]
   go_enter Try.func102, Try.ntmps102
   go_wp2_with (go_at_call 113; refine (hasAlone_calls _ _ tb s HS0.out HS.out).mono ?_; rw [ha]; rintro x w ⟨rfl, rfl⟩)
   all_goals (go_end0; exact ⟨rfl, HS.out, HB.out, FrT.refl _ _⟩)
  | true =>
   rw [if_pos rfl]
   have HAN := az ha
   clear H1 HM HR
   go_enter Try.func102, Try.ntmps102
   go_wp2_with (go_at_call 113; refine (hasAlone_calls _ _ tb s HS0.out HS.out).mono ?_; rw [ha]; rintro x w ⟨rfl, rfl⟩)
   go_loopg [] (s.st.length + 1) (fun gg wr => ∃ st : List S87, st.length ≤ gg ∧ st.length < 902 ∧ Aside0 (IsTe wr w0.heap.size tb ⟨st, s.lost, 0⟩) ∧ Aside0 (Below w0.heap.size w0 wr) ∧ Aside0 (FrT teT w wr) ∧ Aside0 (popAl st = popAl s.st) ∧ Aside0 (st.any (·.f2) = true) ∧ Aside0 (∃ r' b, st = r' ++ [b] ∧ b.f2 = false))
   case atStart => exact ⟨s.st, by omega, by rw [HST.out, List.length_cons]; omega, ⟨HCP.out.2.1⟩, ⟨HCP.out.2.2.1⟩, ⟨HCP.out.2.2.2⟩, ⟨rfl⟩, HAN, HBT⟩
   case round =>
    clear ha hc1 hc2 hf1 hf2 hl9 HCP HAN HBT HST HS HB HS0
    obtain ⟨st, hg, hl8, HT, HTB, HTF, HP, HAN, HBT⟩ := hrel
    obtain ⟨e, r, rfl⟩ : ∃ e r, st = e :: r := by
     cases st with
     | nil => exact absurd HAN.out (by simp)
     | cons e r => exact ⟨e, r, rfl⟩
    obtain ⟨e2, r2, hr0, hbt⟩ := any_two HAN.out HBT.out
    have HBT2 := az hbt
    subst hr0
    clear hbt HBT
    have hl : (e2 :: r2).length < 1000 := by rw [List.length_cons] at hl8; omega
    have hr2 : r2.length < 900 := by rw [List.length_cons, List.length_cons] at hl8; omega
    have hgl : r2.length + 2 ≤ gk := by rw [List.length_cons, List.length_cons] at hg; exact hg
    clear hl8 hg
    cases he : e.f2 with
    | true =>
     have HE := az (show e2 :: r2 = popAl s.st by rw [← HP.out, popAl, if_pos he])
     go_wp2_with (first | (go_at_call 103; refine (last_calls _ _ tb ⟨e :: e2 :: r2, s.lost, 0⟩ e (e2 :: r2) rfl HT.out hl).mono ?_; rintro x w1 ⟨rfl, hb1⟩; have n0 := az (HT.out.below hb1); have n1 := az (below_then HTB.out HTB.out.size hb1); have n2 := az (HTF.out.trans (FrT.below (ts := teT) hb1)); clear hb1) | (go_at_call 112; refine (drop_calls w0 _ tb ⟨e :: e2 :: r2, s.lost, 0⟩ e e2 r2 rfl n1.out n0.out hr2).mono ?_; rintro x w2 ⟨rfl, hd1, hd2, hd3⟩; have D1 := az hd1; have D2 := az hd2; have D3 := az (n2.out.trans hd3); clear hd1 hd2 hd3))
     all_goals (go_end0; rw [← HE.out]; exact ⟨rfl, D1.out, D2.out, D3.out⟩)
    | false =>
     have HE := az (show popAl (e2 :: r2) = popAl s.st by rw [← HP.out, popAl.eq_2 e, if_neg (by rw [he]; decide)])
     have HA2 := az (show (e2 :: r2).any (·.f2) = true by have := HAN.out; rw [List.any_cons, he, Bool.false_or] at this; exact this)
     go_wp2_with (first | (go_at_call 103; refine (last_calls _ _ tb ⟨e :: e2 :: r2, s.lost, 0⟩ e (e2 :: r2) rfl HT.out hl).mono ?_; rintro x w1 ⟨rfl, hb1⟩; have n0 := az (HT.out.below hb1); have n1 := az (below_then HTB.out HTB.out.size hb1); have n2 := az (HTF.out.trans (FrT.below (ts := teT) hb1)); clear hb1) | (go_at_call 112; refine (drop_calls w0 _ tb ⟨e :: e2 :: r2, s.lost, 0⟩ e e2 r2 rfl n1.out n0.out hr2).mono ?_; rintro x w2 ⟨rfl, hd1, hd2, hd3⟩; have D1 := az hd1; have D2 := az hd2; have D3 := az (n2.out.trans hd3); clear hd1 hd2 hd3))
     go_roundg (r2.length + 1)
     case measure => omega
     case rel => exact ⟨e2 :: r2, by simp, by rw [List.length_cons]; omega, D1, D2, D3, HE, HA2, HBT2⟩
def impl_opens.f (a0 : Int) : Option (Bool) := if a0 = 19 then (some true) else (if a0 = 20 then (some true) else (some (a0 == 21)))
theorem impl_opens.calls (a0 : Int) (r : Bool) (w : World) (h : impl_opens.f a0 = some r) :
  Calls Try.prog 63 #[.int .i64 a0] w fun e w' => e = .returned (.bool r) ∧ Drawn0 w w' := by
 have H : (if a0 = 19 then (some true) else (if a0 = 20 then (some true) else (some (a0 == 21)))) = some r := h
 clear h
 by_cases c2 : a0 = 19
 ·
  rw [if_pos c2] at H
  have c2b0 : (a0 == 19) = true := beq_iff_eq.mpr c2
  have c2b1 : (a0 != 19) = false := bne_eq_false_iff_eq.mpr c2
  clear c2
  obtain rfl := Option.some.inj H
  go_enter Try.func63, Try.ntmps63
  go_wp2
  go_ret
  exact ⟨by first | rfl | (simp; done) | (simp [*]; done), by repeat (first | exact Drawn0.refl _ | apply Drawn0.step)⟩
 ·
  rw [if_neg c2] at H
  have c2b0 : (a0 == 19) = false := beq_eq_false_iff_ne.mpr c2
  have c2b1 : (a0 != 19) = true := bne_iff_ne.mpr c2
  by_cases c3 : a0 = 20
  ·
   rw [if_pos c3] at H
   have c3b0 : (a0 == 20) = true := beq_iff_eq.mpr c3
   have c3b1 : (a0 != 20) = false := bne_eq_false_iff_eq.mpr c3
   clear c3
   obtain rfl := Option.some.inj H
   go_enter Try.func63, Try.ntmps63
   go_wp2
   go_ret
   exact ⟨by first | rfl | (simp; done) | (simp [*]; done), by repeat (first | exact Drawn0.refl _ | apply Drawn0.step)⟩
  ·
   rw [if_neg c3] at H
   have c3b0 : (a0 == 20) = false := beq_eq_false_iff_ne.mpr c3
   have c3b1 : (a0 != 20) = true := bne_iff_ne.mpr c3
   obtain rfl := Option.some.inj H
   go_enter Try.func63, Try.ntmps63
   go_wp2
   go_ret
   exact ⟨by first | rfl | (simp; done) | (simp [*]; done), by repeat (first | exact Drawn0.refl _ | apply Drawn0.step)⟩
theorem MapI.heap {w w' : World} {b n : Nat} {f : Int → Option Int} (h : MapI w b n f) (he : ∀ es c, w.heap[b]? = some (.map es c) → w'.heap[b]? = some (.map es c)) : MapI w' b n f := by
 obtain ⟨D, ⟨es, clock, hb, F⟩, h2⟩ := h
 exact ⟨D, ⟨es, clock, he _ _ hb, F⟩, h2⟩
def IsPara (w : World) (base pb : Nat) (Ar : Option Addr) (cr n : Nat) (cls : List Int) (mt cd : Int → Option Int) : Prop := ∃ vc bm bc nm nc, w.heap[pb]? = some (.cells #[.slice Ar n cr, vc, .map (some bm), .map (some bc)] 78 (0, 0)) ∧ Kd.R (Kd.int .i64) 3 w base (fun _ => True) vc cls ∧ MapI w bm nm mt ∧ MapI w bc nc cd ∧ base ≤ pb
theorem IsPara.below {w w' : World} {base pb : Nat} {Ar : Option Addr} {cr n : Nat} {cls : List Int} {mt cd : Int → Option Int} (h : IsPara w base pb Ar cr n cls mt cd) (hb : Below w.heap.size w w') : IsPara w' base pb Ar cr n cls mt cd := by
 obtain ⟨vc, bm, bc, nm, nc, h1, h2, h3, h4, h5⟩ := h
 exact ⟨vc, bm, bc, nm, nc, blk_below h1 hb, Kd.R_below h2 hb, h3.below hb, h4.below hb, h5⟩
theorem IsPara.drewN {w : World} {base pb : Nat} {Ar : Option Addr} {cr n : Nat} {cls : List Int} {mt cd : Int → Option Int} (h : IsPara w base pb Ar cr n cls mt cd) (m : Nat) : IsPara (w.drewN m) base pb Ar cr n cls mt cd := h.below (pw_below_drewN (Below.refl _ _) m)
theorem IsPara.fr {ts : List Nat} {w w' : World} {base pb : Nat} {Ar : Option Addr} {cr n : Nat} {cls : List Int} {mt cd : Int → Option Int} (h : IsPara w base pb Ar cr n cls mt cd) (hf : FrT ts w w') (h3 : 3 ∉ ts) (hp : 78 ∉ ts) : IsPara w' base pb Ar cr n cls mt cd := by
 obtain ⟨vc, bm, bc, nm, nc, h1, h2, h4, h5, h6⟩ := h
 exact ⟨vc, bm, bc, nm, nc, hf.2 pb _ h1 (fun t ht cs e => by injection e with _ e _; exact hp (e ▸ ht)), hf.R h2 h3, h4.heap (fun es c he => hf.2 bm _ he (fun _ _ _ e => by cases e)), h5.heap (fun es c he => hf.2 bc _ he (fun _ _ _ e => by cases e)), h6⟩
def opensB (c : Int) : Bool := c == 19 || c == 20 || c == 21
theorem opensB_f (c : Int) : impl_opens.f c = some (opensB c) := by
 unfold impl_opens.f opensB
 by_cases h1 : c = 19
 · subst h1; rfl
 ·
  by_cases h2 : c = 20
  · subst h2; rfl
  · rw [if_neg h1, if_neg h2, beq_eq_false_iff_ne.mpr h1, beq_eq_false_iff_ne.mpr h2]; rfl
theorem opensQ (c : Int) (w : World) (n : Nat) : Calls Try.prog 63 #[.int .i64 c] (w.drewN n) fun e w'' => e = .returned (.bool (opensB c)) ∧ ∃ m, w'' = w.drewN m :=
 Calls.quiet_of ((impl_opens.calls c (opensB c) (w.drewN n) (opensB_f c)).mono fun _ _ ⟨he, hd⟩ => ⟨he, hd.out⟩)
def sideF (cls : List Int) (mt : Int → Option Int) (tg : Nat) : Nat → Nat → Int
 | 0, _ => 0
 | g + 1, k => if k < tg then (if cls.getD k 0 = 1 then 0 else if cls.getD k 0 = 2 ∨ cls.getD k 0 = 3 then 1 else if opensB (cls.getD k 0) = true then (match mt k with | none => 0 | some m => sideF cls mt tg g (m.toNat + 1)) else sideF cls mt tg g (k + 1)) else 0
theorem wf_small {a : Int} (h0 : 0 ≤ a) (h1 : a < 1000000) : (Lit.int .i64 a).wf = true := by
 exact WalkArith.wf_i64 (by omega)
theorem side_calls (w : World) (base pb : Nat) (Ar : Option Addr) (cr n : Nat) (cls : List Int) (mt cd : Int → Option Int) (k0 tg : Nat) (hs : IsPara w base pb Ar cr n cls mt cd) (hl : cls.length ≤ 1000) (hk0 : k0 ≤ cls.length) (hto : tg ≤ cls.length) (hmt : ∀ k m, mt k = some m → k < m ∧ m < cls.length) :
  Calls Try.prog 104 #[.pointer (some ⟨pb, 0, none⟩), .int .i64 k0, .int .i64 tg] w fun x w' => x = .returned (.int .i64 (sideF cls mt tg (cls.length + 1) k0)) ∧ ∃ m, w' = w.drewN m := by
 obtain ⟨vc, bm, bc, nm, nc, h1, h2, h3, h4, h5⟩ := hs
 obtain ⟨A, c, rfl, hlc, hC⟩ := Kd.R_reads h2
 have hp1 := (blk_cell h1 1).trans (show _ = some (.slice A cls.length c) from rfl)
 have hp2 := (blk_cell h1 2).trans (show _ = some (.map (some bm)) from rfl)
 have HC := az hC
 have HM := az h3
 have HMT := az hmt
 clear h1 h2 h3 h4 h5 hC hmt
 obtain ⟨R, hR⟩ : ∃ R, sideF cls mt tg (cls.length + 1) k0 = R := ⟨_, rfl⟩
 rw [hR]
 have HR := az hR
 clear hR
 go_enter Try.func104, Try.ntmps104
 go_wp2
 go_loopg [7] (cls.length + 1) (fun gg s7 wr => ∃ k n : Nat, s7 = .int .i64 k ∧ k ≤ cls.length ∧ cls.length + 1 ≤ gg + k ∧ wr = w.drewN n ∧ Aside0 (sideF cls mt tg gg k = R))
 case atStart => exact ⟨k0, 0, rfl, hk0, by omega, rfl, HR⟩
 case round =>
  obtain ⟨k, nd, rfl, hk, hg, rfl, HF⟩ := hrel
  obtain ⟨g, rfl⟩ : ∃ g, gk = g + 1 := ⟨gk - 1, by omega⟩
  by_cases hlt : k < tg
  ·
   have hltz : (k : Int) < (tg : Int) := by omega
   obtain ⟨ad, e1, hx⟩ := Kd.at_int HC.out (k : Int) (by omega) (by omega)
   subst e1
   rw [Int.toNat_natCast, show rd cls (k : Int) = cls.getD k 0 by simp [rd]] at hx
   have hf := HF.out
   rw [sideF, if_pos hlt] at hf
   generalize hy : cls.getD k 0 = y at hx hf
   have hk9 : k < 2000 := by omega
   have hkl : (k : Int) < (cls.length : Int) := by omega
   clear hy HF
   by_cases c1 : y = 1
   ·
    rw [if_pos c1] at hf
    subst c1 hf
    go_wp2
    go_ret
    exact ⟨rfl, _, rfl⟩
   ·
    rw [if_neg c1] at hf
    have d1 : (y == 1) = false := beq_eq_false_iff_ne.mpr c1
    by_cases c2 : y = 2 ∨ y = 3
    ·
     rw [if_pos c2] at hf
     subst hf
     clear c1
     rcases c2 with rfl | rfl
     ·
      go_wp2
      go_ret
      exact ⟨rfl, _, rfl⟩
     ·
      go_wp2
      go_ret
      exact ⟨rfl, _, rfl⟩
    ·
     rw [if_neg c2] at hf
     have d2 : (y == 2) = false := beq_eq_false_iff_ne.mpr (fun h => c2 (.inl h))
     have d3 : (y == 3) = false := beq_eq_false_iff_ne.mpr (fun h => c2 (.inr h))
     clear c1 c2
     cases ho : opensB y with
     | false =>
      rw [ho, if_neg (by decide)] at hf
      have HF2 := az hf
      clear hf
      go_wp2_with (go_at_call 63; refine (opensQ y w nd).mono ?_; rw [ho]; rintro e w1 ⟨rfl, m1, rfl⟩)
      go_roundg g
      case measure => omega
      case rel => exact ⟨k + 1, m1, by go_num, by omega, by omega, rfl, HF2⟩
     | true =>
      rw [ho, if_pos rfl] at hf
      cases hm : mt k with
      | none =>
       rw [hm] at hf
       simp only at hf
       subst hf
       have hlk : ∀ n, (Instr.lookup 76 (.map (some bm)) (.int .i64 k) true).run Try.prog (w.drewN n) = .ok (.tuple #[.int .i64 0, .bool false]) (w.drewN n) := fun n => by
        have h := MapI.look (w := w.drewN n) HM.out k (wf_small (by omega) (by omega))
        rw [hm] at h
        exact h
       clear hm
       go_wp2_with (go_at_call 63; refine (opensQ y w nd).mono ?_; rw [ho]; rintro e w1 ⟨rfl, m1, rfl⟩)
       go_ret
       exact ⟨rfl, _, rfl⟩
      | some m =>
       rw [hm] at hf
       simp only at hf
       obtain ⟨m1', m2'⟩ := HMT.out _ _ hm
       have HF2 := az hf
       clear hf
       have hlk : ∀ n, (Instr.lookup 76 (.map (some bm)) (.int .i64 k) true).run Try.prog (w.drewN n) = .ok (.tuple #[.int .i64 m, .bool true]) (w.drewN n) := fun n => by
        have h := MapI.look (w := w.drewN n) HM.out k (wf_small (by omega) (by omega))
        rw [hm] at h
        exact h
       clear hm
       go_wp2_with (go_at_call 63; refine (opensQ y w nd).mono ?_; rw [ho]; rintro e w1 ⟨rfl, m1, rfl⟩)
       go_roundg g
       case measure => omega
       case rel => exact ⟨m.toNat + 1, m1, by rw [show m + 1 = ((m.toNat + 1 : Nat) : Int) by omega], by omega, by omega, rfl, HF2⟩
  ·
   have hltz : ¬ (k : Int) < (tg : Int) := by omega
   have hf := HF.out
   rw [sideF, if_neg hlt] at hf
   subst hf
   clear HF HR
   go_wp2
   go_ret
   exact ⟨rfl, _, rfl⟩
attribute [local go_sem] as86 fld0 fld2
theorem side_calls' (w : World) (base pb : Nat) (Ar : Option Addr) (cr n : Nat) (cls : List Int) (mt cd : Int → Option Int) (k0 tg : Nat) (x y : Int) (hx : x = k0) (hy : y = tg) (hs : IsPara w base pb Ar cr n cls mt cd) (hl : cls.length ≤ 1000) (hk0 : k0 ≤ cls.length) (hto : tg ≤ cls.length) (hmt : ∀ k m, mt k = some m → k < m ∧ m < cls.length) :
  Calls Try.prog 104 #[.pointer (some ⟨pb, 0, none⟩), .int .i64 x, .int .i64 y] w fun x w' => x = .returned (.int .i64 (sideF cls mt tg (cls.length + 1) k0)) ∧ ∃ m, w' = w.drewN m := by
 subst hx hy
 exact side_calls w base pb Ar cr n cls mt cd k0 tg hs hl hk0 hto hmt
def endP (cls : List Int) (mt : Int → Option Int) (k : Nat) : Nat := match mt k with | none => cls.length | some m => m.toNat
def topE (s : TeS) : S87 := match s.st with | [] => ⟨0, 0, false⟩ | e :: _ => e
def tellS (cls : List Int) (mt : Int → Option Int) (k : Nat) (s : TeS) : TeS :=
 if cls.getD k 0 = 14 then pushT false 0 false s else if cls.getD k 0 = 15 then pushT true 0 false s else if cls.getD k 0 = 17 then pushT false 1 false s else if cls.getD k 0 = 18 then pushT true 2 false s
 else if cls.getD k 0 = 16 then popT s else if cls.getD k 0 = 10 then s else if cls.getD k 0 = 22 then closeT s
 else if cls.getD k 0 = 19 then pushT false 0 true s else if cls.getD k 0 = 20 then pushT true 0 true s
 else if cls.getD k 0 = 21 then pushT (sideF cls mt (endP cls mt k) (cls.length + 1) (k + 1) == 1) 0 true s else s
def noLv (c : Int) : Bool := c == 14 || c == 15 || c == 17 || c == 18 || c == 16 || c == 10
def tellL (c : Int) (s : TeS) : Int := if noLv c = true then -1 else (topE (if c = 22 then closeT s else s)).f0
def tellC (c : Int) (s : TeS) : Int := if noLv c = true then 0 else if (topE (if c = 22 then closeT s else s)).f1 = 0 then c else (topE (if c = 22 then closeT s else s)).f1
theorem popAl_le : ∀ (l : List S87), (popAl l).length ≤ l.length
 | [] => Nat.le_refl _
 | e :: r => by
  rw [popAl]
  split
  · simp
  · exact Nat.le_trans (popAl_le r) (by simp)
theorem popAl_ne : ∀ {l : List S87}, l.any (·.f2) = true → (∃ r' b, l = r' ++ [b] ∧ b.f2 = false) → ∃ e r, popAl l = e :: r ∧ r.length + 1 ≤ l.length - 1 ∧ ∃ r' b, popAl l = r' ++ [b] ∧ b.f2 = false
 | [], h, _ => by simp at h
 | e :: r, h1, h2 => by
  obtain ⟨e2, r2, hr, hb⟩ := any_two h1 h2
  rw [popAl]
  cases he : e.f2 with
  | true =>
   rw [if_pos rfl]
   subst hr
   exact ⟨e2, r2, rfl, by simp, hb⟩
  | false =>
   rw [if_neg (by decide)]
   have h3 : r.any (·.f2) = true := by rw [List.any_cons, he, Bool.false_or] at h1; exact h1
   obtain ⟨e3, r3, h4, h5, h6⟩ := popAl_ne h3 hb
   exact ⟨e3, r3, h4, by rw [List.length_cons]; omega, h6⟩
theorem closeT_st {s : TeS} {e : S87} {r : List S87} (hst : s.st = e :: r) (hbt : ∃ r' b, s.st = r' ++ [b] ∧ b.f2 = false) : ∃ e' r', (closeT s).st = e' :: r' ∧ r'.length ≤ r.length := by
 unfold closeT
 split
 · exact ⟨e, r, hst, Nat.le_refl _⟩
 ·
  split
  ·
   rename_i h
   obtain ⟨e3, r3, h4, h5, _⟩ := popAl_ne h hbt
   rw [hst, List.length_cons] at h5
   exact ⟨e3, r3, h4, by omega⟩
  · exact ⟨e, r, hst, Nat.le_refl _⟩
theorem BB (w : World) (o : Obj) (m : Nat) : Below w.heap.size w ((w.alloc o).drewN m) := pw_below_drewN (below_alloc (Below.refl _ _) o) m
theorem tell_calls (w0 w : World) (tb bp pb : Nat) (Ar : Option Addr) (cr : Nat) (cls : List Int) (mt cd : Int → Option Int) (k : Nat) (s : TeS) (e : S87) (r : List S87) (hst : s.st = e :: r) (hbt : ∃ r' b, s.st = r' ++ [b] ∧ b.f2 = false) (hB : Below w0.heap.size w0 w) (hs : IsTe w w0.heap.size tb s) (hp : IsPara w bp pb Ar cr cls.length cls mt cd) (hl : cls.length ≤ 1000) (hk : k < cls.length) (hmt : ∀ k m, mt k = some m → k < m ∧ m < cls.length) (hl9 : r.length < 900) (q1 : 0 ≤ s.lost) (q2 : s.lost ≤ 1000) (q3 : 0 ≤ s.sk) (q4 : s.sk ≤ 1000) (q5 : 0 ≤ e.f0) (q6 : e.f0 ≤ 1000) :
  Calls Try.prog 78 #[.pointer (some ⟨tb, 0, none⟩), .pointer (some ⟨pb, 0, none⟩), .int .i64 k] w fun x w' => x = .returned (.tuple #[.int .i64 (tellL (cls.getD k 0) s), .int .i64 (tellC (cls.getD k 0) s)]) ∧ IsTe w' w0.heap.size tb (tellS cls mt k s) ∧ Below w0.heap.size w0 w' ∧ FrT teT w w' := by
 have HP := az hp
 obtain ⟨vc, bm, bc, nm, nc, h1, h2, h3, h4, h5⟩ := hp
 obtain ⟨A, c, rfl, hlc, hC⟩ := Kd.R_reads h2
 have hp1 := (blk_cell h1 1).trans (show _ = some (.slice A cls.length c) from rfl)
 obtain ⟨ad, e1, hx⟩ := Kd.at_int hC (k : Int) (by omega) (by omega)
 subst e1
 rw [Int.toNat_natCast, show rd cls (k : Int) = cls.getD k 0 by simp [rd]] at hx
 have hkl : (k : Int) < (cls.length : Int) := by omega
 obtain ⟨y, hy⟩ : ∃ y, cls.getD k 0 = y := ⟨_, rfl⟩
 rw [hy] at hx ⊢
 have HY := az hy
 have HS := az hs
 have HB := az hB
 have HST := az hst
 have HBT := az hbt
 have HMT := az hmt
 clear hy hs hB hst hbt hmt h1 h2 h3 h4 h5 hC
 by_cases k14 : y = 14
 ·
  subst k14
  rw [show tellS cls mt k s = pushT false 0 false s by unfold tellS; rw [HY.out]; rfl, show tellL 14 s = -1 from rfl, show tellC 14 s = 0 from rfl]
  clear HY
  go_enter Try.func78, Try.ntmps78
  go_wp2_with (go_at_call 100; refine (pushT_calls w0 _ tb s e r false 0 false HST.out HB.out HS.out hl9 q5 q6 q1 q2 q3 q4).mono ?_; rintro x w3 ⟨rfl, p1, p2, p3⟩; have P1 := az p1; have P2 := az p2; have P3 := az p3; clear p1 p2 p3)
  go_ret2
  exact ⟨rfl, P1.out, P2.out, P3.out⟩
 have d14 : (y == 14) = false := beq_eq_false_iff_ne.mpr k14
 by_cases k15 : y = 15
 ·
  subst k15
  rw [show tellS cls mt k s = pushT true 0 false s by unfold tellS; rw [HY.out]; rfl, show tellL 15 s = -1 from rfl, show tellC 15 s = 0 from rfl]
  clear HY
  go_enter Try.func78, Try.ntmps78
  go_wp2_with (go_at_call 100; refine (pushT_calls w0 _ tb s e r true 0 false HST.out HB.out HS.out hl9 q5 q6 q1 q2 q3 q4).mono ?_; rintro x w3 ⟨rfl, p1, p2, p3⟩; have P1 := az p1; have P2 := az p2; have P3 := az p3; clear p1 p2 p3)
  go_ret2
  exact ⟨rfl, P1.out, P2.out, P3.out⟩
 have d15 : (y == 15) = false := beq_eq_false_iff_ne.mpr k15
 by_cases k17 : y = 17
 ·
  subst k17
  rw [show tellS cls mt k s = pushT false 1 false s by unfold tellS; rw [HY.out]; rfl, show tellL 17 s = -1 from rfl, show tellC 17 s = 0 from rfl]
  clear HY
  go_enter Try.func78, Try.ntmps78
  go_wp2_with (go_at_call 100; refine (pushT_calls w0 _ tb s e r false 1 false HST.out HB.out HS.out hl9 q5 q6 q1 q2 q3 q4).mono ?_; rintro x w3 ⟨rfl, p1, p2, p3⟩; have P1 := az p1; have P2 := az p2; have P3 := az p3; clear p1 p2 p3)
  go_ret2
  exact ⟨rfl, P1.out, P2.out, P3.out⟩
 have d17 : (y == 17) = false := beq_eq_false_iff_ne.mpr k17
 by_cases k18 : y = 18
 ·
  subst k18
  rw [show tellS cls mt k s = pushT true 2 false s by unfold tellS; rw [HY.out]; rfl, show tellL 18 s = -1 from rfl, show tellC 18 s = 0 from rfl]
  clear HY
  go_enter Try.func78, Try.ntmps78
  go_wp2_with (go_at_call 100; refine (pushT_calls w0 _ tb s e r true 2 false HST.out HB.out HS.out hl9 q5 q6 q1 q2 q3 q4).mono ?_; rintro x w3 ⟨rfl, p1, p2, p3⟩; have P1 := az p1; have P2 := az p2; have P3 := az p3; clear p1 p2 p3)
  go_ret2
  exact ⟨rfl, P1.out, P2.out, P3.out⟩
 have d18 : (y == 18) = false := beq_eq_false_iff_ne.mpr k18
 by_cases k16 : y = 16
 ·
  subst k16
  rw [show tellS cls mt k s = popT s by unfold tellS; rw [HY.out]; rfl, show tellL 16 s = -1 from rfl, show tellC 16 s = 0 from rfl]
  clear HY
  go_enter Try.func78, Try.ntmps78
  go_wp2_with (go_at_call 101; refine (popT_calls w0 _ tb s e r HST.out HB.out HS.out hl9 q1 q2 q3 q4).mono ?_; rintro x w3 ⟨rfl, p1, p2, p3⟩; have P1 := az p1; have P2 := az p2; have P3 := az p3; clear p1 p2 p3)
  go_ret2
  exact ⟨rfl, P1.out, P2.out, P3.out⟩
 have d16 : (y == 16) = false := beq_eq_false_iff_ne.mpr k16
 by_cases k10 : y = 10
 ·
  subst k10
  rw [show tellS cls mt k s = s by unfold tellS; rw [HY.out]; rfl, show tellL 10 s = -1 from rfl, show tellC 10 s = 0 from rfl]
  clear HY
  go_enter Try.func78, Try.ntmps78
  go_wp2
  go_ret2
  exact ⟨rfl, HS.out, HB.out, FrT.refl _ _⟩
 have d10 : (y == 10) = false := beq_eq_false_iff_ne.mpr k10
 have hlr : r.length < 1000 := by omega
 have hnl : noLv y = false := by unfold noLv; rw [d14, d15, d17, d18, d16, d10]; rfl
 have hL : tellL y s = (topE (if y = 22 then closeT s else s)).f0 := by unfold tellL; rw [hnl]; rfl
 have hC : tellC y s = if (topE (if y = 22 then closeT s else s)).f1 = 0 then y else (topE (if y = 22 then closeT s else s)).f1 := by unfold tellC; rw [hnl]; rfl
 rw [hL, hC]
 clear hnl hL hC
 have hS0 : tellS cls mt k s = if y = 22 then closeT s else if y = 19 then pushT false 0 true s else if y = 20 then pushT true 0 true s else if y = 21 then pushT (sideF cls mt (endP cls mt k) (cls.length + 1) (k + 1) == 1) 0 true s else s := by
  unfold tellS; rw [HY.out, if_neg k14, if_neg k15, if_neg k17, if_neg k18, if_neg k16, if_neg k10]
 rw [hS0]
 clear hS0 HY k14 k15 k17 k18 k16 k10
 by_cases k22 : y = 22
 ·
  subst k22
  rw [if_pos rfl, if_pos rfl]
  obtain ⟨e', r', hst', hl'⟩ := closeT_st HST.out HBT.out
  have hte : topE (closeT s) = e' := by unfold topE; rw [hst']
  rw [hte]
  have HST' := az hst'
  have hl2 : r'.length < 1000 := by omega
  clear hst' hte hl'
  have ho : opensB 22 = false := rfl
  by_cases f1 : e'.f1 = 0
  ·
   rw [if_pos f1]
   have f2 : (e'.f1 == 0) = true := by rw [f1]; rfl
   clear f1
   go_enter Try.func78, Try.ntmps78
   go_wp2_with (first | (go_at_call 102; refine (closeT_calls w0 _ tb s e r HST.out HBT.out HB.out HS.out hl9 q1 q2).mono ?_; rintro x w3 ⟨rfl, p1, p2, p3⟩; have P1 := az p1; have P2 := az p2; have P3 := az p3; clear p1 p2 p3) | (go_at_call 103; refine (last_calls _ _ tb (closeT s) e' r' HST'.out P1.out hl2).mono ?_; rintro x w1 ⟨rfl, hb1⟩; have n0 := az (IsTe.below P1.out hb1); have n1 := az (below_then P2.out (Below.size P2.out) hb1); have n2 := az (FrT.trans P3.out (FrT.below (ts := teT) hb1)); clear hb1) | (go_at_call 63; refine (opensQ 22 (w1.alloc _) 0).mono ?_; rw [ho]; rintro x w2 ⟨rfl, m1, rfl⟩))
   go_ret2
   exact ⟨rfl, IsTe.below n0.out (BB w1 _ m1), below_then n1.out (Below.size n1.out) (BB w1 _ m1), n2.out.trans (FrT.below (BB w1 _ m1))⟩
  ·
   rw [if_neg f1]
   have f2 : (e'.f1 == 0) = false := beq_eq_false_iff_ne.mpr f1
   clear f1
   go_enter Try.func78, Try.ntmps78
   go_wp2_with (first | (go_at_call 102; refine (closeT_calls w0 _ tb s e r HST.out HBT.out HB.out HS.out hl9 q1 q2).mono ?_; rintro x w3 ⟨rfl, p1, p2, p3⟩; have P1 := az p1; have P2 := az p2; have P3 := az p3; clear p1 p2 p3) | (go_at_call 103; refine (last_calls _ _ tb (closeT s) e' r' HST'.out P1.out hl2).mono ?_; rintro x w1 ⟨rfl, hb1⟩; have n0 := az (IsTe.below P1.out hb1); have n1 := az (below_then P2.out (Below.size P2.out) hb1); have n2 := az (FrT.trans P3.out (FrT.below (ts := teT) hb1)); clear hb1) | (go_at_call 63; refine (opensQ 22 (w1.alloc _) 0).mono ?_; rw [ho]; rintro x w2 ⟨rfl, m1, rfl⟩))
   go_ret2
   exact ⟨rfl, IsTe.below n0.out (BB w1 _ m1), below_then n1.out (Below.size n1.out) (BB w1 _ m1), n2.out.trans (FrT.below (BB w1 _ m1))⟩
 have d22 : (y == 22) = false := beq_eq_false_iff_ne.mpr k22
 rw [if_neg k22, if_neg k22]
 have hte : topE s = e := by unfold topE; rw [HST.out]
 rw [hte]
 clear hte k22
 cases ho : opensB y with
 | false =>
  have z19 : ¬ y = 19 := fun h => by subst h; revert ho; decide
  have z20 : ¬ y = 20 := fun h => by subst h; revert ho; decide
  have z21 : ¬ y = 21 := fun h => by subst h; revert ho; decide
  rw [if_neg z19, if_neg z20, if_neg z21]
  clear z19 z20 z21
  by_cases f1 : e.f1 = 0
  ·
   rw [if_pos f1]
   have f2 : (e.f1 == 0) = true := by rw [f1]; rfl
   clear f1
   go_enter Try.func78, Try.ntmps78
   go_wp2_with (first | (go_at_call 103; refine (last_calls _ _ tb s e r HST.out HS.out hlr).mono ?_; rintro x w1 ⟨rfl, hb1⟩; have n0 := az (IsTe.below HS.out hb1); have n1 := az (below_then HB.out (Below.size HB.out) hb1); have n2 := az (FrT.trans (FrT.refl _ _) (FrT.below (ts := teT) hb1)); clear hb1) | (go_at_call 63; refine (opensQ y (w1.alloc _) 0).mono ?_; rw [ho]; rintro x w2 ⟨rfl, m1, rfl⟩))
   go_ret2
   exact ⟨rfl, IsTe.below n0.out (BB w1 _ m1), below_then n1.out (Below.size n1.out) (BB w1 _ m1), n2.out.trans (FrT.below (BB w1 _ m1))⟩
  ·
   rw [if_neg f1]
   have f2 : (e.f1 == 0) = false := beq_eq_false_iff_ne.mpr f1
   clear f1
   go_enter Try.func78, Try.ntmps78
   go_wp2_with (first | (go_at_call 103; refine (last_calls _ _ tb s e r HST.out HS.out hlr).mono ?_; rintro x w1 ⟨rfl, hb1⟩; have n0 := az (IsTe.below HS.out hb1); have n1 := az (below_then HB.out (Below.size HB.out) hb1); have n2 := az (FrT.trans (FrT.refl _ _) (FrT.below (ts := teT) hb1)); clear hb1) | (go_at_call 63; refine (opensQ y (w1.alloc _) 0).mono ?_; rw [ho]; rintro x w2 ⟨rfl, m1, rfl⟩))
   go_ret2
   exact ⟨rfl, IsTe.below n0.out (BB w1 _ m1), below_then n1.out (Below.size n1.out) (BB w1 _ m1), n2.out.trans (FrT.below (BB w1 _ m1))⟩
 | true =>
  have hor : y = 19 ∨ y = 20 ∨ y = 21 := by
   unfold opensB at ho
   simp only [Bool.or_eq_true, beq_iff_eq] at ho
   omega
  clear d14 d15 d17 d18 d16 d10 d22
  rcases hor with rfl | rfl | rfl
  ·
   rw [if_pos rfl]
   cases hm : mt k with
   | none =>
    by_cases f1 : e.f1 = 0
    ·
     rw [if_pos f1]
     have f2 : (e.f1 == 0) = true := by rw [f1]; rfl
     clear f1
     go_enter Try.func78, Try.ntmps78
     go_wp2_with (first | (go_at_call 103; refine (last_calls _ _ tb s e r HST.out HS.out hlr).mono ?_; rintro x w1 ⟨rfl, hb1⟩; have n0 := az (IsTe.below HS.out hb1); have n1 := az (below_then HB.out (Below.size HB.out) hb1); have n2 := az (FrT.trans (FrT.refl _ _) (FrT.below (ts := teT) hb1)); have np := az (IsPara.below HP.out hb1); obtain ⟨vc2, bm2, bc2, nm2, nc2, g1, g2, g3, g4, g5⟩ := np.out; have hp0 := fun o => (blk_cell (blk_alloc g1 o) 0).trans (show _ = some (.slice Ar cls.length cr) from rfl); have hp2 := fun o => (blk_cell (blk_alloc g1 o) 2).trans (show _ = some (.map (some bm2)) from rfl); have hlk : ∀ (o : Obj) (n : Nat), (Instr.lookup 76 (.map (some bm2)) (.int .i64 k) true).run Try.prog ((w1.alloc o).drewN n) = .ok (.tuple #[.int .i64 0, .bool false]) ((w1.alloc o).drewN n) := (fun o n => by have h := MapI.look (w := (w1.alloc o).drewN n) (MapI.below g3 (BB w1 o n)) k (wf_small (by omega) (by omega)); rw [hm] at h; exact h); clear g1 g2 g3 g4 g5; clear hb1) | (go_at_call 63; refine (opensQ 19 (w1.alloc _) 0).mono ?_; rw [ho]; rintro x w2 ⟨rfl, m1, rfl⟩) | (go_at_call 100; refine (pushT_calls w0 _ tb s e r false 0 true HST.out (below_then n1.out (Below.size n1.out) (BB w1 _ m1)) (IsTe.below n0.out (BB w1 _ m1)) hl9 q5 q6 q1 q2 q3 q4).mono ?_; rintro x w3 ⟨rfl, p1, p2, p3⟩; have P1 := az p1; have P2 := az p2; have P3 := az p3; clear p1 p2 p3; have hn := P3.out.same (tb := w1.heap.size) (t := 87) (cs := #[.int .i64 e.f0, .int .i64 e.f1, .bool e.f2]) (blk_new w1 _) (by decide); have hq := (blk_cell hn 0).trans (show _ = some (.int .i64 e.f0) from rfl); clear hn))
     go_ret2
     exact ⟨rfl, P1.out, P2.out, n2.out.trans ((FrT.below (BB w1 _ m1)).trans P3.out)⟩
    ·
     rw [if_neg f1]
     have f2 : (e.f1 == 0) = false := beq_eq_false_iff_ne.mpr f1
     clear f1
     go_enter Try.func78, Try.ntmps78
     go_wp2_with (first | (go_at_call 103; refine (last_calls _ _ tb s e r HST.out HS.out hlr).mono ?_; rintro x w1 ⟨rfl, hb1⟩; have n0 := az (IsTe.below HS.out hb1); have n1 := az (below_then HB.out (Below.size HB.out) hb1); have n2 := az (FrT.trans (FrT.refl _ _) (FrT.below (ts := teT) hb1)); have np := az (IsPara.below HP.out hb1); obtain ⟨vc2, bm2, bc2, nm2, nc2, g1, g2, g3, g4, g5⟩ := np.out; have hp0 := fun o => (blk_cell (blk_alloc g1 o) 0).trans (show _ = some (.slice Ar cls.length cr) from rfl); have hp2 := fun o => (blk_cell (blk_alloc g1 o) 2).trans (show _ = some (.map (some bm2)) from rfl); have hlk : ∀ (o : Obj) (n : Nat), (Instr.lookup 76 (.map (some bm2)) (.int .i64 k) true).run Try.prog ((w1.alloc o).drewN n) = .ok (.tuple #[.int .i64 0, .bool false]) ((w1.alloc o).drewN n) := (fun o n => by have h := MapI.look (w := (w1.alloc o).drewN n) (MapI.below g3 (BB w1 o n)) k (wf_small (by omega) (by omega)); rw [hm] at h; exact h); clear g1 g2 g3 g4 g5; clear hb1) | (go_at_call 63; refine (opensQ 19 (w1.alloc _) 0).mono ?_; rw [ho]; rintro x w2 ⟨rfl, m1, rfl⟩) | (go_at_call 100; refine (pushT_calls w0 _ tb s e r false 0 true HST.out (below_then n1.out (Below.size n1.out) (BB w1 _ m1)) (IsTe.below n0.out (BB w1 _ m1)) hl9 q5 q6 q1 q2 q3 q4).mono ?_; rintro x w3 ⟨rfl, p1, p2, p3⟩; have P1 := az p1; have P2 := az p2; have P3 := az p3; clear p1 p2 p3; have hn := P3.out.same (tb := w1.heap.size) (t := 87) (cs := #[.int .i64 e.f0, .int .i64 e.f1, .bool e.f2]) (blk_new w1 _) (by decide); have hq := (blk_cell hn 0).trans (show _ = some (.int .i64 e.f0) from rfl); clear hn))
     go_ret2
     exact ⟨rfl, P1.out, P2.out, n2.out.trans ((FrT.below (BB w1 _ m1)).trans P3.out)⟩
   | some m =>
    obtain ⟨hm1, hm2⟩ := HMT.out _ _ hm
    by_cases f1 : e.f1 = 0
    ·
     rw [if_pos f1]
     have f2 : (e.f1 == 0) = true := by rw [f1]; rfl
     clear f1
     go_enter Try.func78, Try.ntmps78
     go_wp2_with (first | (go_at_call 103; refine (last_calls _ _ tb s e r HST.out HS.out hlr).mono ?_; rintro x w1 ⟨rfl, hb1⟩; have n0 := az (IsTe.below HS.out hb1); have n1 := az (below_then HB.out (Below.size HB.out) hb1); have n2 := az (FrT.trans (FrT.refl _ _) (FrT.below (ts := teT) hb1)); have np := az (IsPara.below HP.out hb1); obtain ⟨vc2, bm2, bc2, nm2, nc2, g1, g2, g3, g4, g5⟩ := np.out; have hp0 := fun o => (blk_cell (blk_alloc g1 o) 0).trans (show _ = some (.slice Ar cls.length cr) from rfl); have hp2 := fun o => (blk_cell (blk_alloc g1 o) 2).trans (show _ = some (.map (some bm2)) from rfl); have hlk : ∀ (o : Obj) (n : Nat), (Instr.lookup 76 (.map (some bm2)) (.int .i64 k) true).run Try.prog ((w1.alloc o).drewN n) = .ok (.tuple #[.int .i64 m, .bool true]) ((w1.alloc o).drewN n) := (fun o n => by have h := MapI.look (w := (w1.alloc o).drewN n) (MapI.below g3 (BB w1 o n)) k (wf_small (by omega) (by omega)); rw [hm] at h; exact h); clear g1 g2 g3 g4 g5; clear hb1) | (go_at_call 63; refine (opensQ 19 (w1.alloc _) 0).mono ?_; rw [ho]; rintro x w2 ⟨rfl, m1, rfl⟩) | (go_at_call 100; refine (pushT_calls w0 _ tb s e r false 0 true HST.out (below_then n1.out (Below.size n1.out) (BB w1 _ m1)) (IsTe.below n0.out (BB w1 _ m1)) hl9 q5 q6 q1 q2 q3 q4).mono ?_; rintro x w3 ⟨rfl, p1, p2, p3⟩; have P1 := az p1; have P2 := az p2; have P3 := az p3; clear p1 p2 p3; have hn := P3.out.same (tb := w1.heap.size) (t := 87) (cs := #[.int .i64 e.f0, .int .i64 e.f1, .bool e.f2]) (blk_new w1 _) (by decide); have hq := (blk_cell hn 0).trans (show _ = some (.int .i64 e.f0) from rfl); clear hn))
     go_ret2
     exact ⟨rfl, P1.out, P2.out, n2.out.trans ((FrT.below (BB w1 _ m1)).trans P3.out)⟩
    ·
     rw [if_neg f1]
     have f2 : (e.f1 == 0) = false := beq_eq_false_iff_ne.mpr f1
     clear f1
     go_enter Try.func78, Try.ntmps78
     go_wp2_with (first | (go_at_call 103; refine (last_calls _ _ tb s e r HST.out HS.out hlr).mono ?_; rintro x w1 ⟨rfl, hb1⟩; have n0 := az (IsTe.below HS.out hb1); have n1 := az (below_then HB.out (Below.size HB.out) hb1); have n2 := az (FrT.trans (FrT.refl _ _) (FrT.below (ts := teT) hb1)); have np := az (IsPara.below HP.out hb1); obtain ⟨vc2, bm2, bc2, nm2, nc2, g1, g2, g3, g4, g5⟩ := np.out; have hp0 := fun o => (blk_cell (blk_alloc g1 o) 0).trans (show _ = some (.slice Ar cls.length cr) from rfl); have hp2 := fun o => (blk_cell (blk_alloc g1 o) 2).trans (show _ = some (.map (some bm2)) from rfl); have hlk : ∀ (o : Obj) (n : Nat), (Instr.lookup 76 (.map (some bm2)) (.int .i64 k) true).run Try.prog ((w1.alloc o).drewN n) = .ok (.tuple #[.int .i64 m, .bool true]) ((w1.alloc o).drewN n) := (fun o n => by have h := MapI.look (w := (w1.alloc o).drewN n) (MapI.below g3 (BB w1 o n)) k (wf_small (by omega) (by omega)); rw [hm] at h; exact h); clear g1 g2 g3 g4 g5; clear hb1) | (go_at_call 63; refine (opensQ 19 (w1.alloc _) 0).mono ?_; rw [ho]; rintro x w2 ⟨rfl, m1, rfl⟩) | (go_at_call 100; refine (pushT_calls w0 _ tb s e r false 0 true HST.out (below_then n1.out (Below.size n1.out) (BB w1 _ m1)) (IsTe.below n0.out (BB w1 _ m1)) hl9 q5 q6 q1 q2 q3 q4).mono ?_; rintro x w3 ⟨rfl, p1, p2, p3⟩; have P1 := az p1; have P2 := az p2; have P3 := az p3; clear p1 p2 p3; have hn := P3.out.same (tb := w1.heap.size) (t := 87) (cs := #[.int .i64 e.f0, .int .i64 e.f1, .bool e.f2]) (blk_new w1 _) (by decide); have hq := (blk_cell hn 0).trans (show _ = some (.int .i64 e.f0) from rfl); clear hn))
     go_ret2
     exact ⟨rfl, P1.out, P2.out, n2.out.trans ((FrT.below (BB w1 _ m1)).trans P3.out)⟩
  ·
   rw [if_neg (by decide : ¬ (20 : Int) = 19), if_pos rfl]
   cases hm : mt k with
   | none =>
    by_cases f1 : e.f1 = 0
    ·
     rw [if_pos f1]
     have f2 : (e.f1 == 0) = true := by rw [f1]; rfl
     clear f1
     go_enter Try.func78, Try.ntmps78
     go_wp2_with (first | (go_at_call 103; refine (last_calls _ _ tb s e r HST.out HS.out hlr).mono ?_; rintro x w1 ⟨rfl, hb1⟩; have n0 := az (IsTe.below HS.out hb1); have n1 := az (below_then HB.out (Below.size HB.out) hb1); have n2 := az (FrT.trans (FrT.refl _ _) (FrT.below (ts := teT) hb1)); have np := az (IsPara.below HP.out hb1); obtain ⟨vc2, bm2, bc2, nm2, nc2, g1, g2, g3, g4, g5⟩ := np.out; have hp0 := fun o => (blk_cell (blk_alloc g1 o) 0).trans (show _ = some (.slice Ar cls.length cr) from rfl); have hp2 := fun o => (blk_cell (blk_alloc g1 o) 2).trans (show _ = some (.map (some bm2)) from rfl); have hlk : ∀ (o : Obj) (n : Nat), (Instr.lookup 76 (.map (some bm2)) (.int .i64 k) true).run Try.prog ((w1.alloc o).drewN n) = .ok (.tuple #[.int .i64 0, .bool false]) ((w1.alloc o).drewN n) := (fun o n => by have h := MapI.look (w := (w1.alloc o).drewN n) (MapI.below g3 (BB w1 o n)) k (wf_small (by omega) (by omega)); rw [hm] at h; exact h); clear g1 g2 g3 g4 g5; clear hb1) | (go_at_call 63; refine (opensQ 20 (w1.alloc _) 0).mono ?_; rw [ho]; rintro x w2 ⟨rfl, m1, rfl⟩) | (go_at_call 100; refine (pushT_calls w0 _ tb s e r true 0 true HST.out (below_then n1.out (Below.size n1.out) (BB w1 _ m1)) (IsTe.below n0.out (BB w1 _ m1)) hl9 q5 q6 q1 q2 q3 q4).mono ?_; rintro x w3 ⟨rfl, p1, p2, p3⟩; have P1 := az p1; have P2 := az p2; have P3 := az p3; clear p1 p2 p3; have hn := P3.out.same (tb := w1.heap.size) (t := 87) (cs := #[.int .i64 e.f0, .int .i64 e.f1, .bool e.f2]) (blk_new w1 _) (by decide); have hq := (blk_cell hn 0).trans (show _ = some (.int .i64 e.f0) from rfl); clear hn))
     go_ret2
     exact ⟨rfl, P1.out, P2.out, n2.out.trans ((FrT.below (BB w1 _ m1)).trans P3.out)⟩
    ·
     rw [if_neg f1]
     have f2 : (e.f1 == 0) = false := beq_eq_false_iff_ne.mpr f1
     clear f1
     go_enter Try.func78, Try.ntmps78
     go_wp2_with (first | (go_at_call 103; refine (last_calls _ _ tb s e r HST.out HS.out hlr).mono ?_; rintro x w1 ⟨rfl, hb1⟩; have n0 := az (IsTe.below HS.out hb1); have n1 := az (below_then HB.out (Below.size HB.out) hb1); have n2 := az (FrT.trans (FrT.refl _ _) (FrT.below (ts := teT) hb1)); have np := az (IsPara.below HP.out hb1); obtain ⟨vc2, bm2, bc2, nm2, nc2, g1, g2, g3, g4, g5⟩ := np.out; have hp0 := fun o => (blk_cell (blk_alloc g1 o) 0).trans (show _ = some (.slice Ar cls.length cr) from rfl); have hp2 := fun o => (blk_cell (blk_alloc g1 o) 2).trans (show _ = some (.map (some bm2)) from rfl); have hlk : ∀ (o : Obj) (n : Nat), (Instr.lookup 76 (.map (some bm2)) (.int .i64 k) true).run Try.prog ((w1.alloc o).drewN n) = .ok (.tuple #[.int .i64 0, .bool false]) ((w1.alloc o).drewN n) := (fun o n => by have h := MapI.look (w := (w1.alloc o).drewN n) (MapI.below g3 (BB w1 o n)) k (wf_small (by omega) (by omega)); rw [hm] at h; exact h); clear g1 g2 g3 g4 g5; clear hb1) | (go_at_call 63; refine (opensQ 20 (w1.alloc _) 0).mono ?_; rw [ho]; rintro x w2 ⟨rfl, m1, rfl⟩) | (go_at_call 100; refine (pushT_calls w0 _ tb s e r true 0 true HST.out (below_then n1.out (Below.size n1.out) (BB w1 _ m1)) (IsTe.below n0.out (BB w1 _ m1)) hl9 q5 q6 q1 q2 q3 q4).mono ?_; rintro x w3 ⟨rfl, p1, p2, p3⟩; have P1 := az p1; have P2 := az p2; have P3 := az p3; clear p1 p2 p3; have hn := P3.out.same (tb := w1.heap.size) (t := 87) (cs := #[.int .i64 e.f0, .int .i64 e.f1, .bool e.f2]) (blk_new w1 _) (by decide); have hq := (blk_cell hn 0).trans (show _ = some (.int .i64 e.f0) from rfl); clear hn))
     go_ret2
     exact ⟨rfl, P1.out, P2.out, n2.out.trans ((FrT.below (BB w1 _ m1)).trans P3.out)⟩
   | some m =>
    obtain ⟨hm1, hm2⟩ := HMT.out _ _ hm
    by_cases f1 : e.f1 = 0
    ·
     rw [if_pos f1]
     have f2 : (e.f1 == 0) = true := by rw [f1]; rfl
     clear f1
     go_enter Try.func78, Try.ntmps78
     go_wp2_with (first | (go_at_call 103; refine (last_calls _ _ tb s e r HST.out HS.out hlr).mono ?_; rintro x w1 ⟨rfl, hb1⟩; have n0 := az (IsTe.below HS.out hb1); have n1 := az (below_then HB.out (Below.size HB.out) hb1); have n2 := az (FrT.trans (FrT.refl _ _) (FrT.below (ts := teT) hb1)); have np := az (IsPara.below HP.out hb1); obtain ⟨vc2, bm2, bc2, nm2, nc2, g1, g2, g3, g4, g5⟩ := np.out; have hp0 := fun o => (blk_cell (blk_alloc g1 o) 0).trans (show _ = some (.slice Ar cls.length cr) from rfl); have hp2 := fun o => (blk_cell (blk_alloc g1 o) 2).trans (show _ = some (.map (some bm2)) from rfl); have hlk : ∀ (o : Obj) (n : Nat), (Instr.lookup 76 (.map (some bm2)) (.int .i64 k) true).run Try.prog ((w1.alloc o).drewN n) = .ok (.tuple #[.int .i64 m, .bool true]) ((w1.alloc o).drewN n) := (fun o n => by have h := MapI.look (w := (w1.alloc o).drewN n) (MapI.below g3 (BB w1 o n)) k (wf_small (by omega) (by omega)); rw [hm] at h; exact h); clear g1 g2 g3 g4 g5; clear hb1) | (go_at_call 63; refine (opensQ 20 (w1.alloc _) 0).mono ?_; rw [ho]; rintro x w2 ⟨rfl, m1, rfl⟩) | (go_at_call 100; refine (pushT_calls w0 _ tb s e r true 0 true HST.out (below_then n1.out (Below.size n1.out) (BB w1 _ m1)) (IsTe.below n0.out (BB w1 _ m1)) hl9 q5 q6 q1 q2 q3 q4).mono ?_; rintro x w3 ⟨rfl, p1, p2, p3⟩; have P1 := az p1; have P2 := az p2; have P3 := az p3; clear p1 p2 p3; have hn := P3.out.same (tb := w1.heap.size) (t := 87) (cs := #[.int .i64 e.f0, .int .i64 e.f1, .bool e.f2]) (blk_new w1 _) (by decide); have hq := (blk_cell hn 0).trans (show _ = some (.int .i64 e.f0) from rfl); clear hn))
     go_ret2
     exact ⟨rfl, P1.out, P2.out, n2.out.trans ((FrT.below (BB w1 _ m1)).trans P3.out)⟩
    ·
     rw [if_neg f1]
     have f2 : (e.f1 == 0) = false := beq_eq_false_iff_ne.mpr f1
     clear f1
     go_enter Try.func78, Try.ntmps78
     go_wp2_with (first | (go_at_call 103; refine (last_calls _ _ tb s e r HST.out HS.out hlr).mono ?_; rintro x w1 ⟨rfl, hb1⟩; have n0 := az (IsTe.below HS.out hb1); have n1 := az (below_then HB.out (Below.size HB.out) hb1); have n2 := az (FrT.trans (FrT.refl _ _) (FrT.below (ts := teT) hb1)); have np := az (IsPara.below HP.out hb1); obtain ⟨vc2, bm2, bc2, nm2, nc2, g1, g2, g3, g4, g5⟩ := np.out; have hp0 := fun o => (blk_cell (blk_alloc g1 o) 0).trans (show _ = some (.slice Ar cls.length cr) from rfl); have hp2 := fun o => (blk_cell (blk_alloc g1 o) 2).trans (show _ = some (.map (some bm2)) from rfl); have hlk : ∀ (o : Obj) (n : Nat), (Instr.lookup 76 (.map (some bm2)) (.int .i64 k) true).run Try.prog ((w1.alloc o).drewN n) = .ok (.tuple #[.int .i64 m, .bool true]) ((w1.alloc o).drewN n) := (fun o n => by have h := MapI.look (w := (w1.alloc o).drewN n) (MapI.below g3 (BB w1 o n)) k (wf_small (by omega) (by omega)); rw [hm] at h; exact h); clear g1 g2 g3 g4 g5; clear hb1) | (go_at_call 63; refine (opensQ 20 (w1.alloc _) 0).mono ?_; rw [ho]; rintro x w2 ⟨rfl, m1, rfl⟩) | (go_at_call 100; refine (pushT_calls w0 _ tb s e r true 0 true HST.out (below_then n1.out (Below.size n1.out) (BB w1 _ m1)) (IsTe.below n0.out (BB w1 _ m1)) hl9 q5 q6 q1 q2 q3 q4).mono ?_; rintro x w3 ⟨rfl, p1, p2, p3⟩; have P1 := az p1; have P2 := az p2; have P3 := az p3; clear p1 p2 p3; have hn := P3.out.same (tb := w1.heap.size) (t := 87) (cs := #[.int .i64 e.f0, .int .i64 e.f1, .bool e.f2]) (blk_new w1 _) (by decide); have hq := (blk_cell hn 0).trans (show _ = some (.int .i64 e.f0) from rfl); clear hn))
     go_ret2
     exact ⟨rfl, P1.out, P2.out, n2.out.trans ((FrT.below (BB w1 _ m1)).trans P3.out)⟩
  ·
   rw [if_neg (by decide : ¬ (21 : Int) = 19), if_neg (by decide : ¬ (21 : Int) = 20), if_pos rfl]
   cases hm : mt k with
   | none =>
    rw [show endP cls mt k = cls.length by unfold endP; rw [hm]]
    by_cases f1 : e.f1 = 0
    ·
     rw [if_pos f1]
     have f2 : (e.f1 == 0) = true := by rw [f1]; rfl
     clear f1
     go_enter Try.func78, Try.ntmps78
     go_wp2_with (first | (go_at_call 103; refine (last_calls _ _ tb s e r HST.out HS.out hlr).mono ?_; rintro x w1 ⟨rfl, hb1⟩; have n0 := az (IsTe.below HS.out hb1); have n1 := az (below_then HB.out (Below.size HB.out) hb1); have n2 := az (FrT.trans (FrT.refl _ _) (FrT.below (ts := teT) hb1)); have np := az (IsPara.below HP.out hb1); obtain ⟨vc2, bm2, bc2, nm2, nc2, g1, g2, g3, g4, g5⟩ := np.out; have hp0 := fun o => (blk_cell (blk_alloc g1 o) 0).trans (show _ = some (.slice Ar cls.length cr) from rfl); have hp2 := fun o => (blk_cell (blk_alloc g1 o) 2).trans (show _ = some (.map (some bm2)) from rfl); have hlk : ∀ (o : Obj) (n : Nat), (Instr.lookup 76 (.map (some bm2)) (.int .i64 k) true).run Try.prog ((w1.alloc o).drewN n) = .ok (.tuple #[.int .i64 0, .bool false]) ((w1.alloc o).drewN n) := (fun o n => by have h := MapI.look (w := (w1.alloc o).drewN n) (MapI.below g3 (BB w1 o n)) k (wf_small (by omega) (by omega)); rw [hm] at h; exact h); clear g1 g2 g3 g4 g5; clear hb1) | (go_at_call 63; refine (opensQ 21 (w1.alloc _) 0).mono ?_; rw [ho]; rintro x w2 ⟨rfl, m1, rfl⟩) | (go_at_call 100; refine (pushT_calls w0 _ tb s e r (sideF cls mt cls.length (cls.length + 1) (k + 1) == 1) 0 true HST.out (below_then n1.out (Below.size n1.out) (BB w1 _ (m1 + m2))) (IsTe.below n0.out (BB w1 _ (m1 + m2))) hl9 q5 q6 q1 q2 q3 q4).mono ?_; rintro x w3 ⟨rfl, p1, p2, p3⟩; have P1 := az p1; have P2 := az p2; have P3 := az p3; clear p1 p2 p3; have hn := P3.out.same (tb := w1.heap.size) (t := 87) (cs := #[.int .i64 e.f0, .int .i64 e.f1, .bool e.f2]) (blk_new w1 _) (by decide); have hq := (blk_cell hn 0).trans (show _ = some (.int .i64 e.f0) from rfl); clear hn) | (go_at_call 104; refine (side_calls' ((w1.alloc _).drewN m1) _ pb Ar cr cls.length cls mt cd (k + 1) cls.length _ _ (by omega) (by omega) (IsPara.below np.out (BB w1 _ m1)) hl (by omega) (by omega) HMT.out).mono ?_; rintro x w2 ⟨rfl, m2, rfl⟩))
     go_ret2
     exact ⟨rfl, P1.out, P2.out, n2.out.trans ((FrT.below (BB w1 _ (m1 + m2))).trans P3.out)⟩
    ·
     rw [if_neg f1]
     have f2 : (e.f1 == 0) = false := beq_eq_false_iff_ne.mpr f1
     clear f1
     go_enter Try.func78, Try.ntmps78
     go_wp2_with (first | (go_at_call 103; refine (last_calls _ _ tb s e r HST.out HS.out hlr).mono ?_; rintro x w1 ⟨rfl, hb1⟩; have n0 := az (IsTe.below HS.out hb1); have n1 := az (below_then HB.out (Below.size HB.out) hb1); have n2 := az (FrT.trans (FrT.refl _ _) (FrT.below (ts := teT) hb1)); have np := az (IsPara.below HP.out hb1); obtain ⟨vc2, bm2, bc2, nm2, nc2, g1, g2, g3, g4, g5⟩ := np.out; have hp0 := fun o => (blk_cell (blk_alloc g1 o) 0).trans (show _ = some (.slice Ar cls.length cr) from rfl); have hp2 := fun o => (blk_cell (blk_alloc g1 o) 2).trans (show _ = some (.map (some bm2)) from rfl); have hlk : ∀ (o : Obj) (n : Nat), (Instr.lookup 76 (.map (some bm2)) (.int .i64 k) true).run Try.prog ((w1.alloc o).drewN n) = .ok (.tuple #[.int .i64 0, .bool false]) ((w1.alloc o).drewN n) := (fun o n => by have h := MapI.look (w := (w1.alloc o).drewN n) (MapI.below g3 (BB w1 o n)) k (wf_small (by omega) (by omega)); rw [hm] at h; exact h); clear g1 g2 g3 g4 g5; clear hb1) | (go_at_call 63; refine (opensQ 21 (w1.alloc _) 0).mono ?_; rw [ho]; rintro x w2 ⟨rfl, m1, rfl⟩) | (go_at_call 100; refine (pushT_calls w0 _ tb s e r (sideF cls mt cls.length (cls.length + 1) (k + 1) == 1) 0 true HST.out (below_then n1.out (Below.size n1.out) (BB w1 _ (m1 + m2))) (IsTe.below n0.out (BB w1 _ (m1 + m2))) hl9 q5 q6 q1 q2 q3 q4).mono ?_; rintro x w3 ⟨rfl, p1, p2, p3⟩; have P1 := az p1; have P2 := az p2; have P3 := az p3; clear p1 p2 p3; have hn := P3.out.same (tb := w1.heap.size) (t := 87) (cs := #[.int .i64 e.f0, .int .i64 e.f1, .bool e.f2]) (blk_new w1 _) (by decide); have hq := (blk_cell hn 0).trans (show _ = some (.int .i64 e.f0) from rfl); clear hn) | (go_at_call 104; refine (side_calls' ((w1.alloc _).drewN m1) _ pb Ar cr cls.length cls mt cd (k + 1) cls.length _ _ (by omega) (by omega) (IsPara.below np.out (BB w1 _ m1)) hl (by omega) (by omega) HMT.out).mono ?_; rintro x w2 ⟨rfl, m2, rfl⟩))
     go_ret2
     exact ⟨rfl, P1.out, P2.out, n2.out.trans ((FrT.below (BB w1 _ (m1 + m2))).trans P3.out)⟩
   | some m =>
    obtain ⟨hm1, hm2⟩ := HMT.out _ _ hm
    rw [show endP cls mt k = m.toNat by unfold endP; rw [hm]]
    by_cases f1 : e.f1 = 0
    ·
     rw [if_pos f1]
     have f2 : (e.f1 == 0) = true := by rw [f1]; rfl
     clear f1
     go_enter Try.func78, Try.ntmps78
     go_wp2_with (first | (go_at_call 103; refine (last_calls _ _ tb s e r HST.out HS.out hlr).mono ?_; rintro x w1 ⟨rfl, hb1⟩; have n0 := az (IsTe.below HS.out hb1); have n1 := az (below_then HB.out (Below.size HB.out) hb1); have n2 := az (FrT.trans (FrT.refl _ _) (FrT.below (ts := teT) hb1)); have np := az (IsPara.below HP.out hb1); obtain ⟨vc2, bm2, bc2, nm2, nc2, g1, g2, g3, g4, g5⟩ := np.out; have hp0 := fun o => (blk_cell (blk_alloc g1 o) 0).trans (show _ = some (.slice Ar cls.length cr) from rfl); have hp2 := fun o => (blk_cell (blk_alloc g1 o) 2).trans (show _ = some (.map (some bm2)) from rfl); have hlk : ∀ (o : Obj) (n : Nat), (Instr.lookup 76 (.map (some bm2)) (.int .i64 k) true).run Try.prog ((w1.alloc o).drewN n) = .ok (.tuple #[.int .i64 m, .bool true]) ((w1.alloc o).drewN n) := (fun o n => by have h := MapI.look (w := (w1.alloc o).drewN n) (MapI.below g3 (BB w1 o n)) k (wf_small (by omega) (by omega)); rw [hm] at h; exact h); clear g1 g2 g3 g4 g5; clear hb1) | (go_at_call 63; refine (opensQ 21 (w1.alloc _) 0).mono ?_; rw [ho]; rintro x w2 ⟨rfl, m1, rfl⟩) | (go_at_call 100; refine (pushT_calls w0 _ tb s e r (sideF cls mt m.toNat (cls.length + 1) (k + 1) == 1) 0 true HST.out (below_then n1.out (Below.size n1.out) (BB w1 _ (m1 + m2))) (IsTe.below n0.out (BB w1 _ (m1 + m2))) hl9 q5 q6 q1 q2 q3 q4).mono ?_; rintro x w3 ⟨rfl, p1, p2, p3⟩; have P1 := az p1; have P2 := az p2; have P3 := az p3; clear p1 p2 p3; have hn := P3.out.same (tb := w1.heap.size) (t := 87) (cs := #[.int .i64 e.f0, .int .i64 e.f1, .bool e.f2]) (blk_new w1 _) (by decide); have hq := (blk_cell hn 0).trans (show _ = some (.int .i64 e.f0) from rfl); clear hn) | (go_at_call 104; refine (side_calls' ((w1.alloc _).drewN m1) _ pb Ar cr cls.length cls mt cd (k + 1) m.toNat _ _ (by omega) (by omega) (IsPara.below np.out (BB w1 _ m1)) hl (by omega) (by omega) HMT.out).mono ?_; rintro x w2 ⟨rfl, m2, rfl⟩))
     go_ret2
     exact ⟨rfl, P1.out, P2.out, n2.out.trans ((FrT.below (BB w1 _ (m1 + m2))).trans P3.out)⟩
    ·
     rw [if_neg f1]
     have f2 : (e.f1 == 0) = false := beq_eq_false_iff_ne.mpr f1
     clear f1
     go_enter Try.func78, Try.ntmps78
     go_wp2_with (first | (go_at_call 103; refine (last_calls _ _ tb s e r HST.out HS.out hlr).mono ?_; rintro x w1 ⟨rfl, hb1⟩; have n0 := az (IsTe.below HS.out hb1); have n1 := az (below_then HB.out (Below.size HB.out) hb1); have n2 := az (FrT.trans (FrT.refl _ _) (FrT.below (ts := teT) hb1)); have np := az (IsPara.below HP.out hb1); obtain ⟨vc2, bm2, bc2, nm2, nc2, g1, g2, g3, g4, g5⟩ := np.out; have hp0 := fun o => (blk_cell (blk_alloc g1 o) 0).trans (show _ = some (.slice Ar cls.length cr) from rfl); have hp2 := fun o => (blk_cell (blk_alloc g1 o) 2).trans (show _ = some (.map (some bm2)) from rfl); have hlk : ∀ (o : Obj) (n : Nat), (Instr.lookup 76 (.map (some bm2)) (.int .i64 k) true).run Try.prog ((w1.alloc o).drewN n) = .ok (.tuple #[.int .i64 m, .bool true]) ((w1.alloc o).drewN n) := (fun o n => by have h := MapI.look (w := (w1.alloc o).drewN n) (MapI.below g3 (BB w1 o n)) k (wf_small (by omega) (by omega)); rw [hm] at h; exact h); clear g1 g2 g3 g4 g5; clear hb1) | (go_at_call 63; refine (opensQ 21 (w1.alloc _) 0).mono ?_; rw [ho]; rintro x w2 ⟨rfl, m1, rfl⟩) | (go_at_call 100; refine (pushT_calls w0 _ tb s e r (sideF cls mt m.toNat (cls.length + 1) (k + 1) == 1) 0 true HST.out (below_then n1.out (Below.size n1.out) (BB w1 _ (m1 + m2))) (IsTe.below n0.out (BB w1 _ (m1 + m2))) hl9 q5 q6 q1 q2 q3 q4).mono ?_; rintro x w3 ⟨rfl, p1, p2, p3⟩; have P1 := az p1; have P2 := az p2; have P3 := az p3; clear p1 p2 p3; have hn := P3.out.same (tb := w1.heap.size) (t := 87) (cs := #[.int .i64 e.f0, .int .i64 e.f1, .bool e.f2]) (blk_new w1 _) (by decide); have hq := (blk_cell hn 0).trans (show _ = some (.int .i64 e.f0) from rfl); clear hn) | (go_at_call 104; refine (side_calls' ((w1.alloc _).drewN m1) _ pb Ar cr cls.length cls mt cd (k + 1) m.toNat _ _ (by omega) (by omega) (IsPara.below np.out (BB w1 _ m1)) hl (by omega) (by omega) HMT.out).mono ?_; rintro x w2 ⟨rfl, m2, rfl⟩))
     go_ret2
     exact ⟨rfl, P1.out, P2.out, n2.out.trans ((FrT.below (BB w1 _ (m1 + m2))).trans P3.out)⟩
def InvT (j : Nat) (s : TeS) : Prop := 0 ≤ s.lost ∧ s.lost ≤ j ∧ 0 ≤ s.sk ∧ s.sk ≤ j ∧ s.st.length ≤ j + 1 ∧ (∀ e ∈ s.st, 0 ≤ e.f0 ∧ e.f0 ≤ 100) ∧ ∃ r' b, s.st = r' ++ [b] ∧ b.f2 = false
theorem InvT.more {j : Nat} {s : TeS} (h : InvT j s) : InvT (j + 1) s := by
 obtain ⟨h1, h2, h3, h4, h5, h6, h7⟩ := h
 exact ⟨h1, by omega, h3, by omega, by omega, h6, h7⟩
theorem InvT.cons {j : Nat} {s : TeS} (h : InvT j s) : ∃ e r, s.st = e :: r ∧ r.length ≤ j ∧ 0 ≤ e.f0 ∧ e.f0 ≤ 100 := by
 obtain ⟨h1, h2, h3, h4, h5, h6, r', b, h7, h8⟩ := h
 cases hs : s.st with
 | nil => rw [hs] at h7; simp at h7
 | cons e r =>
  rw [hs] at h5 h6
  rw [List.length_cons] at h5
  exact ⟨e, r, rfl, by omega, h6 e (by simp)⟩
theorem inv_pushT {j : Nat} {s : TeS} (h : InvT j s) (r : Bool) (d : Int) (a : Bool) : InvT (j + 1) (pushT r d a s) := by
 obtain ⟨e, r0, hs, _, he, _⟩ := h.cons
 have htop : topT s = e.f0 := by unfold topT; rw [hs]
 obtain ⟨h1, h2, h3, h4, h5, h6, r', b, h7, h8⟩ := h
 have hu : 0 ≤ upT (topT s) r := by
  unfold upT
  split <;> omega
 unfold pushT
 split
 ·
  rename_i hc
  refine ⟨h1, by simp only; omega, h3, by simp only; omega, by simp only [List.length_cons]; omega, ?_, _ :: r', b, by simp only; rw [h7]; rfl, h8⟩
  intro x hx
  rcases List.mem_cons.mp hx with rfl | hx
  · exact ⟨hu, by have := hc.1; simp only; omega⟩
  · exact h6 x hx
 ·
  split
  · exact ⟨by simp only; omega, by simp only; omega, h3, by simp only; omega, by simp only; omega, h6, r', b, h7, h8⟩
  ·
   split
   · exact ⟨h1, by simp only; omega, by simp only; omega, by simp only; omega, by simp only; omega, h6, r', b, h7, h8⟩
   · exact ⟨h1, by omega, h3, by omega, by omega, h6, r', b, h7, h8⟩
theorem inv_popT {j : Nat} {s : TeS} (h : InvT j s) : InvT (j + 1) (popT s) := by
 unfold popT
 split
 · exact h.more
 ·
  split
  ·
   obtain ⟨h1, h2, h3, h4, h5, h6, h7⟩ := h
   exact ⟨h1, by simp only; omega, by simp only; omega, by simp only; omega, by simp only; omega, h6, h7⟩
  ·
   split
   ·
    rename_i e e2 r hs
    split
    ·
     obtain ⟨h1, h2, h3, h4, h5, h6, r', b, h7, h8⟩ := h
     rw [hs] at h5 h6 h7
     refine ⟨h1, by simp only; omega, h3, by simp only; omega, by simp only [List.length_cons] at h5 ⊢; omega, fun x hx => h6 x (List.mem_cons_of_mem _ hx), ?_⟩
     cases r' with
     | nil => simp at h7
     | cons p r' =>
      rw [List.cons_append] at h7
      injection h7 with _ h7
      exact ⟨r', b, h7, h8⟩
    · exact h.more
   · exact h.more
theorem popAl_mem : ∀ (l : List S87) (x : S87), x ∈ popAl l → x ∈ l
 | [], _, h => h
 | e :: r, x, h => by
  rw [popAl] at h
  split at h
  · exact List.mem_cons_of_mem _ h
  · exact List.mem_cons_of_mem _ (popAl_mem r x h)
theorem inv_closeT {j : Nat} {s : TeS} (h : InvT j s) : InvT (j + 1) (closeT s) := by
 unfold closeT
 obtain ⟨h1, h2, h3, h4, h5, h6, h7⟩ := h
 split
 · exact ⟨by simp only; omega, by simp only; omega, h3, by simp only; omega, by simp only; omega, h6, h7⟩
 ·
  split
  ·
   rename_i ha
   obtain ⟨e3, r3, h8, h9, h10⟩ := popAl_ne ha h7
   have hle := popAl_le s.st
   exact ⟨h1, by simp only; omega, by simp only; omega, by simp only; omega, by simp only; omega, fun x hx => h6 x (popAl_mem _ x hx), h10⟩
  · exact ⟨h1, by omega, h3, by omega, by omega, h6, h7⟩
theorem inv_tellS {j : Nat} {s : TeS} (cls : List Int) (mt : Int → Option Int) (k : Nat) (h : InvT j s) : InvT (j + 1) (tellS cls mt k s) := by
 unfold tellS
 repeat' split
 all_goals first | exact inv_pushT h _ _ _ | exact inv_popT h | exact inv_closeT h | exact h.more
def toldS (cls : List Int) (mt : Int → Option Int) (base : Int) : Nat → TeS
 | 0 => ⟨[⟨base, 0, false⟩], 0, 0⟩
 | j + 1 => tellS cls mt j (toldS cls mt base j)
theorem inv_told (cls : List Int) (mt : Int → Option Int) (base : Int) (h0 : 0 ≤ base) (h1 : base ≤ 100) : ∀ j, InvT j (toldS cls mt base j)
 | 0 => ⟨by simp [toldS], by simp [toldS], by simp [toldS], by simp [toldS], by simp [toldS], fun e he => by rw [toldS, List.mem_singleton] at he; subst he; exact ⟨h0, h1⟩, [], _, rfl, rfl⟩
 | j + 1 => inv_tellS cls mt j (inv_told cls mt base h0 h1 j)
def toldL (cls : List Int) (mt : Int → Option Int) (base : Int) (j : Nat) : List Int := (List.range j).map fun i => tellL (cls.getD i 0) (toldS cls mt base i)
def toldC (cls : List Int) (mt : Int → Option Int) (base : Int) (j : Nat) : List Int := (List.range j).map fun i => tellC (cls.getD i 0) (toldS cls mt base i)
theorem toldL_succ (cls : List Int) (mt : Int → Option Int) (base : Int) (j : Nat) : toldL cls mt base (j + 1) = toldL cls mt base j ++ [tellL (cls.getD j 0) (toldS cls mt base j)] := by
 simp only [toldL, List.range_succ, List.map_append, List.map_cons, List.map_nil]
theorem toldC_succ (cls : List Int) (mt : Int → Option Int) (base : Int) (j : Nat) : toldC cls mt base (j + 1) = toldC cls mt base j ++ [tellC (cls.getD j 0) (toldS cls mt base j)] := by
 simp only [toldC, List.range_succ, List.map_append, List.map_cons, List.map_nil]
theorem IsRing.fr {ts : List Nat} {w w' : World} {base gl : Nat} {l : List (Nat × S87)} (h : IsRing w base gl l) (hf : FrT ts w w') (h1 : 99 ∉ ts) (h2 : 101 ∉ ts) : IsRing w' base gl l := by
 obtain ⟨g1, g2, g3⟩ := h
 refine ⟨hf.same g1 h2, g2.move (fun p hp => ?_), g3⟩
 obtain ⟨cs, hc⟩ := g2.typed p hp
 rw [hc]
 exact hf.same hc h1
theorem IsTe.fr {ts : List Nat} {w w' : World} {base tb : Nat} {s : TeS} (h : IsTe w base tb s) (hf : FrT ts w w') (h1 : 99 ∉ ts) (h2 : 101 ∉ ts) (h3 : 83 ∉ ts) : IsTe w' base tb s := by
 obtain ⟨gl, l, g1, g2, g3⟩ := h
 exact ⟨gl, l, hf.same g1 h3, g2.fr hf h1 h2, g3⟩
theorem FrT.grown {W w1 : World} {base : Nat} {ok : Nat → Prop} {v : Value} {xs : List Int} (h : Kd.R (Kd.int .i64) 3 W base ok v xs) (hg : W.grownBy w1 v.ownBlock) : FrT [3] W w1 := by
 refine ⟨hg.size, fun k o hk ho => (hg.block k (blk_lt hk) (fun he => ?_)).trans hk⟩
 obtain ⟨cells, hc⟩ := Kd.R_typed h k he.symm
 rw [hk] at hc
 exact ho 3 (by simp) _ (Option.some.inj hc)
def Two (w : World) (base : Nat) (v : Value) (xs : List Int) (u : Value) (ys : List Int) : Prop := Kd.R (Kd.int .i64) 3 w base (fun k => True ∧ some k ≠ u.ownBlock) v xs ∧ Kd.R (Kd.int .i64) 3 w base (fun k => True ∧ some k ≠ v.ownBlock) u ys
theorem toldL_len (cls : List Int) (mt : Int → Option Int) (base : Int) (j : Nat) : (toldL cls mt base j).length = j := by simp [toldL]
theorem toldC_len (cls : List Int) (mt : Int → Option Int) (base : Int) (j : Nat) : (toldC cls mt base j).length = j := by simp [toldC]
theorem two_nil (w : World) (base : Nat) : Two w base (.slice none 0 0) [] (.slice none 0 0) [] := ⟨Kd.R_nil _ _ _ _ _, Kd.R_nil _ _ _ _ _⟩
theorem told_calls (w : World) (bp pb : Nat) (Ar : Option Addr) (cr : Nat) (cls : List Int) (mt cd : Int → Option Int) (base : Int) (hp : IsPara w bp pb Ar cr cls.length cls mt cd) (hl : cls.length ≤ 400) (hb0 : 0 ≤ base) (hb1 : base ≤ 100) (hmt : ∀ k m, mt k = some m → k < m ∧ m < cls.length) :
  Calls Try.prog 50 #[.pointer (some ⟨pb, 0, none⟩), .int .i64 base] w fun e w' => ∃ v u : Value, e = .returned (.tuple #[v, u]) ∧ Two w' w.heap.size v (toldL cls mt base cls.length) u (toldC cls mt base cls.length) ∧ Below w.heap.size w w' := by
 have HP := az hp
 obtain ⟨vc, bm, bc, nm, nc, h1, h2, h3, h4, h5⟩ := hp
 have HPB := az h1
 have HMT := az hmt
 clear h1 h2 h3 h4 h5 hmt
 go_enter Try.func50, Try.ntmps50
 go_wp2_with (first | (go_at_call 76; refine (listNew_calls _).mono ?_; rintro x w1 ⟨rfl, hr1, hb1⟩; have HR1 := az hr1; have HB1 := az hb1; clear hr1 hb1) | (go_at_call 77; refine (listPush0_calls w _ w.heap.size ⟨base, 0, false⟩ (below_alloc HB1.out _) (IsRing.below HR1.out (below_alloc (Below.refl _ _) _))).mono ?_; rintro x w2 ⟨⟨vq, rfl⟩, hr2, hb2, hf2⟩; have HT0 : Aside0 (IsTe w2 w.heap.size w1.heap.size ⟨[⟨base, 0, false⟩], 0, 0⟩) := ⟨w.heap.size, _, FrT.same hf2 (blk_new w1 _) (by decide), hr2, rfl, HB1.out.size⟩; have hp02 := (blk_cell (blk_below HPB.out hb2) 0).trans (show _ = some (.slice Ar cls.length cr) from rfl); have HB2 := az hb2; clear hr2 hb2 hf2))
 go_loopg [7, 8, 28] cls.length (fun gg s7 s8 s28 wr => ∃ (j : Nat) (v u : Value), s28 = .int .i64 j ∧ v = s7 ∧ u = s8 ∧ j ≤ cls.length ∧ cls.length - j ≤ gg ∧ Aside0 (Two wr w.heap.size v (toldL cls mt base j) u (toldC cls mt base j)) ∧ Aside0 (IsTe wr w.heap.size w1.heap.size (toldS cls mt base j)) ∧ Aside0 (Below w.heap.size w wr))
 case atStart => exact ⟨0, _, _, rfl, rfl, rfl, Nat.zero_le _, by omega, ⟨two_nil _ _⟩, HT0, HB2⟩
 case round =>
  clear HT0 HB2 hp02
  obtain ⟨j, v, u, rfl, hv, hu, hj, hg, H2, HT, HB⟩ := hrel
  subst hv hu
  by_cases hlt : j < cls.length
  ·
   have hltz : (j : Int) < (cls.length : Int) := by omega
   have HI := az (inv_told cls mt base hb0 hb1 j)
   obtain ⟨e, r, hst, hr8, he0, he8⟩ := HI.out.cons
   have HST := az hst
   have hl1 : cls.length ≤ 1000 := by omega
   have hr9 : r.length < 900 := by omega
   have hj9 : (j : Int) ≤ 1000 := by omega
   have he1 : e.f0 ≤ 1000 := by omega
   have hL := toldL_len cls mt base j
   have hC := toldC_len cls mt base j
   obtain ⟨cy, hcy⟩ : ∃ cy, cls.getD j 0 = cy := ⟨_, rfl⟩
   obtain ⟨lv, hlv⟩ : ∃ x, tellL cy (toldS cls mt base j) = x := ⟨_, rfl⟩
   obtain ⟨cv, hcv⟩ : ∃ x, tellC cy (toldS cls mt base j) = x := ⟨_, rfl⟩
   clear hst hr8 he8
   go_wp2_with (first | (go_at_call 78; refine (tell_calls w _ w1.heap.size bp pb Ar cr cls mt cd j (toldS cls mt base j) e r HST.out HI.out.2.2.2.2.2.2 HB.out HT.out (IsPara.below HP.out HB.out) hl1 hlt HMT.out hr9 HI.out.1 (Int.le_trans HI.out.2.1 hj9) HI.out.2.2.1 (Int.le_trans HI.out.2.2.2.1 hj9) he0 he1).mono ?_; rw [hcy, hlv, hcv]; rintro x w3 ⟨rfl, p1, p2, p3⟩; have T1 := az p1; have T2 := az p2; have V0 := az (FrT.R p3 H2.out.1 (by decide)); have V1 := az (FrT.R p3 H2.out.2 (by decide)); clear p1 p2 p3) | ((with_reducible refine gate_builtin (b := .append) (xs := #[.tmp 38, .tmp 40]) rfl ?_); at_builtin; refine Kd.R_append (Kd.int .i64) (w0 := w) w.heap.size rfl (.tmp 38) (.tmp 40) 22 3 (.int .i64 0) 8 rfl Try.underlying22 info3 rfl (by decide) (by omega) v (toldL cls mt base j) lv [.int .i64 lv] (fun k => True ∧ some k ≠ (u : Value).ownBlock) (fun _ => False) rfl rfl ?aP (fun _ hk => hk.elim) ?aF ?aO ?aB ?aS ?aL ?_; (case aP => rfl); (case aF => exact fun k hk => ⟨trivial, fun e => absurd (blk_lt (Kd.R_typed V1.out k e.symm).choose_spec) (Nat.not_lt.mpr hk)⟩); (case aO => exact V0.out); (case aB => exact T2.out); (case aS => exact T2.out.size); (case aL => omega); intro v1 w4 ho1 hb1 hg1 hat1; have A0 := az ho1; have A1 := az (Kd.R_after V1.out hg1 hat1); have A2 := az (IsTe.fr T1.out (FrT.grown V0.out hg1) (by decide) (by decide) (by decide)); have A3 := az hb1; clear ho1 hb1 hg1 hat1) | ((with_reducible refine gate_builtin (b := .append) (xs := #[.tmp 42, .tmp 44]) rfl ?_); at_builtin; refine Kd.R_append (Kd.int .i64) (w0 := w) w.heap.size rfl (.tmp 42) (.tmp 44) 22 3 (.int .i64 0) 8 rfl Try.underlying22 info3 rfl (by decide) (by omega) u (toldC cls mt base j) cv [.int .i64 cv] (fun k => True ∧ some k ≠ (v1 : Value).ownBlock) (fun _ => False) rfl rfl ?aP (fun _ hk => hk.elim) ?aF ?aO ?aB ?aS ?aL ?_; (case aP => rfl); (case aF => exact fun k hk => ⟨trivial, fun e => absurd (blk_lt (Kd.R_typed A0.out k e.symm).choose_spec) (Nat.not_lt.mpr hk)⟩); (case aO => exact A1.out); (case aB => exact A3.out); (case aS => exact A3.out.size); (case aL => omega); intro u1 w5 ho2 hb2 hg2 hat2; have B1 := az ho2; have B0 := az (Kd.R_after A0.out hg2 hat2); have B2 := az (IsTe.fr A2.out (FrT.grown A1.out hg2) (by decide) (by decide) (by decide)); have B3 := az hb2; clear ho2 hb2 hg2 hat2))
   go_roundg (cls.length - (j + 1))
   case measure => omega
   case rel => exact ⟨j + 1, v1, u1, by go_num, rfl, rfl, by omega, by omega, ⟨by rw [toldL_succ, toldC_succ, hcy, hlv, hcv]; exact ⟨B0.out, B1.out⟩⟩, B2, B3⟩
  ·
   have hltz : ¬ (j : Int) < (cls.length : Int) := by omega
   obtain rfl : j = cls.length := by omega
   go_wp2
   go_ret2
   exact ⟨_, _, rfl, H2.out, HB.out⟩
def cmp_isNaN_int.f (a0 : Int) : Option (Bool) := some (a0 != a0)
theorem cmp_isNaN_int.calls (a0 : Int) (r : Bool) (w : World) (h : cmp_isNaN_int.f a0 = some r) :
  Calls Try.prog 115 #[.int .i64 a0] w fun e w' => e = .returned (.bool r) ∧ Drawn0 w w' := by
 have H : (some (a0 != a0)) = some r := h
 clear h
 obtain rfl := Option.some.inj H
 go_enter Try.func115, Try.ntmps115
 go_wp2
 go_ret
 exact ⟨by first | rfl | (simp; done) | (simp [*]; done), by repeat (first | exact Drawn0.refl _ | apply Drawn0.step)⟩
def cmp_Compare_int.f (a0 : Int) (a1 : Int) : Option (Int) := (cmp_isNaN_int.f a0).bind fun t319 => ((cmp_isNaN_int.f a1).bind fun t320 => (if t319 = true then (if t320 = true then (some 0) else (some (-1))) else (if t320 = true then (some 1) else (if a0 < a1 then (some (-1)) else (if a0 > a1 then (some 1) else (some 0))))))
theorem cmp_Compare_int.calls (a0 : Int) (a1 : Int) (r : Int) (w : World) (h : cmp_Compare_int.f a0 a1 = some r) :
  Calls Try.prog 109 #[.int .i64 a0, .int .i64 a1] w fun e w' => e = .returned (.int .i64 r) ∧ Drawn0 w w' := by
 have H : ((cmp_isNaN_int.f a0).bind fun t319 => ((cmp_isNaN_int.f a1).bind fun t320 => (if t319 = true then (if t320 = true then (some 0) else (some (-1))) else (if t320 = true then (some 1) else (if a0 < a1 then (some (-1)) else (if a0 > a1 then (some 1) else (some 0))))))) = some r := h; clear h; replace H := Option.bind_eq_some_iff.mp H; obtain ⟨t319, A30, H⟩ := H; replace H : ((cmp_isNaN_int.f a1).bind fun t320 => (if t319 = true then (if t320 = true then (some 0) else (some (-1))) else (if t320 = true then (some 1) else (if a0 < a1 then (some (-1)) else (if a0 > a1 then (some 1) else (some 0)))))) = some r := H; have A3 := az A30; clear A30; replace H := Option.bind_eq_some_iff.mp H; obtain ⟨t320, A40, H⟩ := H; replace H : (if t319 = true then (if t320 = true then (some 0) else (some (-1))) else (if t320 = true then (some 1) else (if a0 < a1 then (some (-1)) else (if a0 > a1 then (some 1) else (some 0))))) = some r := H; have A4 := az A40; clear A40; by_cases c5 : t319 = true
 ·
  subst c5; have H1 : (if t320 = true then (some 0) else (some (-1))) = some r := by rw [if_pos rfl] at H; exact H
  clear H; have H := H1; clear H1; by_cases c6 : t320 = true
  ·
   subst c6; have H1 : (some 0) = some r := by rw [if_pos rfl] at H; exact H
   clear H; have H := H1; clear H1; obtain rfl := Option.some.inj H; go_enter Try.func109, Try.ntmps109; go_wp2_with (first | ((with_reducible refine gate_callee (f := 115) rfl ?_); refine goesL_ (some 8) rfl rfl Try.func115 (by kernel_rfl) rfl #[.int .i64 a0] rfl (by (try simp only [List.map_toArray, List.map_cons, List.map_nil]); first | done | rfl) ?_; (with_reducible refine (cmp_isNaN_int.calls a0 true _ A3.out).mono ?_); rintro e w' ⟨rfl, ⟨nd, rfl⟩⟩; refine ⟨_, rfl, ?_⟩) | ((with_reducible refine gate_callee (f := 115) rfl ?_); refine goesL_ (some 10) rfl rfl Try.func115 (by kernel_rfl) rfl #[.int .i64 a1] rfl (by (try simp only [List.map_toArray, List.map_cons, List.map_nil]); first | done | rfl) ?_; (with_reducible refine (cmp_isNaN_int.calls a1 true _ A4.out).mono ?_); rintro e w' ⟨rfl, ⟨nd, rfl⟩⟩; refine ⟨_, rfl, ?_⟩)); go_ret; exact ⟨by first | rfl | (simp; done) | (simp [*]; done), by repeat (first | exact Drawn0.refl _ | apply Drawn0.step)⟩
  ·
   replace c6 := Bool.eq_false_iff.mpr c6; subst c6; have H1 : (some (-1)) = some r := by rw [if_neg (show ¬ (false = true) by decide)] at H; exact H
   clear H; have H := H1; clear H1; obtain rfl := Option.some.inj H; go_enter Try.func109, Try.ntmps109; go_wp2_with (first | ((with_reducible refine gate_callee (f := 115) rfl ?_); refine goesL_ (some 8) rfl rfl Try.func115 (by kernel_rfl) rfl #[.int .i64 a0] rfl (by (try simp only [List.map_toArray, List.map_cons, List.map_nil]); first | done | rfl) ?_; (with_reducible refine (cmp_isNaN_int.calls a0 true _ A3.out).mono ?_); rintro e w' ⟨rfl, ⟨nd, rfl⟩⟩; refine ⟨_, rfl, ?_⟩) | ((with_reducible refine gate_callee (f := 115) rfl ?_); refine goesL_ (some 10) rfl rfl Try.func115 (by kernel_rfl) rfl #[.int .i64 a1] rfl (by (try simp only [List.map_toArray, List.map_cons, List.map_nil]); first | done | rfl) ?_; (with_reducible refine (cmp_isNaN_int.calls a1 false _ A4.out).mono ?_); rintro e w' ⟨rfl, ⟨nd, rfl⟩⟩; refine ⟨_, rfl, ?_⟩)); go_ret; exact ⟨by first | rfl | (simp; done) | (simp [*]; done), by repeat (first | exact Drawn0.refl _ | apply Drawn0.step)⟩
 ·
  replace c5 := Bool.eq_false_iff.mpr c5; subst c5; have H1 : (if t320 = true then (some 1) else (if a0 < a1 then (some (-1)) else (if a0 > a1 then (some 1) else (some 0)))) = some r := by rw [if_neg (show ¬ (false = true) by decide)] at H; exact H
  clear H; have H := H1; clear H1; by_cases c7 : t320 = true
  ·
   subst c7; have H1 : (some 1) = some r := by rw [if_pos rfl] at H; exact H
   clear H; have H := H1; clear H1; obtain rfl := Option.some.inj H; go_enter Try.func109, Try.ntmps109; go_wp2_with (first | ((with_reducible refine gate_callee (f := 115) rfl ?_); refine goesL_ (some 8) rfl rfl Try.func115 (by kernel_rfl) rfl #[.int .i64 a0] rfl (by (try simp only [List.map_toArray, List.map_cons, List.map_nil]); first | done | rfl) ?_; (with_reducible refine (cmp_isNaN_int.calls a0 false _ A3.out).mono ?_); rintro e w' ⟨rfl, ⟨nd, rfl⟩⟩; refine ⟨_, rfl, ?_⟩) | ((with_reducible refine gate_callee (f := 115) rfl ?_); refine goesL_ (some 10) rfl rfl Try.func115 (by kernel_rfl) rfl #[.int .i64 a1] rfl (by (try simp only [List.map_toArray, List.map_cons, List.map_nil]); first | done | rfl) ?_; (with_reducible refine (cmp_isNaN_int.calls a1 true _ A4.out).mono ?_); rintro e w' ⟨rfl, ⟨nd, rfl⟩⟩; refine ⟨_, rfl, ?_⟩)); go_ret; exact ⟨by first | rfl | (simp; done) | (simp [*]; done), by repeat (first | exact Drawn0.refl _ | apply Drawn0.step)⟩
  ·
   replace c7 := Bool.eq_false_iff.mpr c7; subst c7; have H1 : (if a0 < a1 then (some (-1)) else (if a0 > a1 then (some 1) else (some 0))) = some r := by rw [if_neg (show ¬ (false = true) by decide)] at H; exact H
   clear H; have H := H1; clear H1; by_cases c8 : a0 < a1
   ·
    rw [if_pos c8] at H; have c8b0 : decide (a0 < a1) = true := decide_eq_true c8; clear c8; obtain rfl := Option.some.inj H; go_enter Try.func109, Try.ntmps109; go_wp2_with (first | ((with_reducible refine gate_callee (f := 115) rfl ?_); refine goesL_ (some 8) rfl rfl Try.func115 (by kernel_rfl) rfl #[.int .i64 a0] rfl (by (try simp only [List.map_toArray, List.map_cons, List.map_nil]); first | done | rfl) ?_; (with_reducible refine (cmp_isNaN_int.calls a0 false _ A3.out).mono ?_); rintro e w' ⟨rfl, ⟨nd, rfl⟩⟩; refine ⟨_, rfl, ?_⟩) | ((with_reducible refine gate_callee (f := 115) rfl ?_); refine goesL_ (some 10) rfl rfl Try.func115 (by kernel_rfl) rfl #[.int .i64 a1] rfl (by (try simp only [List.map_toArray, List.map_cons, List.map_nil]); first | done | rfl) ?_; (with_reducible refine (cmp_isNaN_int.calls a1 false _ A4.out).mono ?_); rintro e w' ⟨rfl, ⟨nd, rfl⟩⟩; refine ⟨_, rfl, ?_⟩)); go_ret; exact ⟨by first | rfl | (simp; done) | (simp [*]; done), by repeat (first | exact Drawn0.refl _ | apply Drawn0.step)⟩
   ·
    rw [if_neg c8] at H; have c8b0 : decide (a0 < a1) = false := decide_eq_false c8; clear c8; by_cases c9 : a0 > a1
    ·
     rw [if_pos c9] at H; have c9b0 : decide (a1 < a0) = true := decide_eq_true c9; clear c9; obtain rfl := Option.some.inj H; go_enter Try.func109, Try.ntmps109; go_wp2_with (first | ((with_reducible refine gate_callee (f := 115) rfl ?_); refine goesL_ (some 8) rfl rfl Try.func115 (by kernel_rfl) rfl #[.int .i64 a0] rfl (by (try simp only [List.map_toArray, List.map_cons, List.map_nil]); first | done | rfl) ?_; (with_reducible refine (cmp_isNaN_int.calls a0 false _ A3.out).mono ?_); rintro e w' ⟨rfl, ⟨nd, rfl⟩⟩; refine ⟨_, rfl, ?_⟩) | ((with_reducible refine gate_callee (f := 115) rfl ?_); refine goesL_ (some 10) rfl rfl Try.func115 (by kernel_rfl) rfl #[.int .i64 a1] rfl (by (try simp only [List.map_toArray, List.map_cons, List.map_nil]); first | done | rfl) ?_; (with_reducible refine (cmp_isNaN_int.calls a1 false _ A4.out).mono ?_); rintro e w' ⟨rfl, ⟨nd, rfl⟩⟩; refine ⟨_, rfl, ?_⟩)); go_ret; exact ⟨by first | rfl | (simp; done) | (simp [*]; done), by repeat (first | exact Drawn0.refl _ | apply Drawn0.step)⟩
    ·
     rw [if_neg c9] at H; have c9b0 : decide (a1 < a0) = false := decide_eq_false c9; clear c9; obtain rfl := Option.some.inj H; go_enter Try.func109, Try.ntmps109; go_wp2_with (first | ((with_reducible refine gate_callee (f := 115) rfl ?_); refine goesL_ (some 8) rfl rfl Try.func115 (by kernel_rfl) rfl #[.int .i64 a0] rfl (by (try simp only [List.map_toArray, List.map_cons, List.map_nil]); first | done | rfl) ?_; (with_reducible refine (cmp_isNaN_int.calls a0 false _ A3.out).mono ?_); rintro e w' ⟨rfl, ⟨nd, rfl⟩⟩; refine ⟨_, rfl, ?_⟩) | ((with_reducible refine gate_callee (f := 115) rfl ?_); refine goesL_ (some 10) rfl rfl Try.func115 (by kernel_rfl) rfl #[.int .i64 a1] rfl (by (try simp only [List.map_toArray, List.map_cons, List.map_nil]); first | done | rfl) ?_; (with_reducible refine (cmp_isNaN_int.calls a1 false _ A4.out).mono ?_); rintro e w' ⟨rfl, ⟨nd, rfl⟩⟩; refine ⟨_, rfl, ?_⟩)); go_ret; exact ⟨by first | rfl | (simp; done) | (simp [*]; done), by repeat (first | exact Drawn0.refl _ | apply Drawn0.step)⟩
def impl_find_1.f (a0_0 : Int) (a0_1 : Int) (a0_2 : Int) (a1 : Int) : Option (Int) := if a1 ≥ a0_0 then (if a1 ≤ a0_1 then (some 0) else ((cmp_Compare_int.f a0_0 a1).bind fun t322 => (some t322))) else ((cmp_Compare_int.f a0_0 a1).bind fun t323 => (some t323))
theorem impl_find_1.calls (a0_0 : Int) (a0_1 : Int) (a0_2 : Int) (a1 : Int) (r : Int) (w : World) (h : impl_find_1.f a0_0 a0_1 a0_2 a1 = some r) :
  Calls Try.prog 108 #[.agg #[.int .i64 a0_0, .int .i64 a0_1, .int .i64 a0_2], .int .i64 a1] w fun e w' => e = .returned (.int .i64 r) ∧ Below w.heap.size w w' := by
 have hu108 := Try.underlying108; have HB := az (Below.refl w.heap.size w); have H : (if a1 ≥ a0_0 then (if a1 ≤ a0_1 then (some 0) else ((cmp_Compare_int.f a0_0 a1).bind fun t322 => (some t322))) else ((cmp_Compare_int.f a0_0 a1).bind fun t323 => (some t323))) = some r := h; clear h; by_cases c3 : a1 ≥ a0_0
 ·
  rw [if_pos c3] at H; have c3b0 : decide (a0_0 ≤ a1) = true := decide_eq_true c3; clear c3; by_cases c4 : a1 ≤ a0_1
  ·
   rw [if_pos c4] at H; have c4b0 : decide (a1 ≤ a0_1) = true := decide_eq_true c4; clear c4; obtain rfl := Option.some.inj H; go_enter Try.func108, Try.ntmps108; go_wp2_with (first | ((with_reducible refine gate_dst (N := 2) rfl ?_); refine box_event ?hg (N := 2) ?hd (cs := #[.int .i64 a0_0, .int .i64 a0_1, .int .i64 a0_2]) (t := 108) ?hr ?_; (case hd => rfl); (case hg => rfl); (case hr => first | (go_simp; done) | (go_simp; rfl)); intro gb321 hg w5 hbox hb; have n0_ := az (below_step (by repeat (first | (with_reducible first | exact HB.out | apply below_alloc | apply pw_below_drewN | apply below_drew1) | exact HB.out)) hb); have n1_ := az (hbox); have n2_ := az ((by rw [hg]; exact (below_size (by repeat (first | (with_reducible first | exact HB.out | apply below_alloc | apply pw_below_drewN | apply below_drew1) | exact HB.out))) : w.heap.size ≤ gb321)); have n3_ := az ((by rw [hg]; exact (below_size (by repeat (first | (with_reducible first | exact HB.out | apply below_alloc | apply pw_below_drewN | apply below_drew1) | exact HB.out))) : w.heap.size ≤ gb321)); clear HB; have HB := n0_; have BK321 := n1_; have GW321 := n2_; have GE321 := n3_; clear n0_ n1_ n2_ n3_; clear hb hbox hg; have hcz6_0 : w5.cell? ⟨gb321, 0, none⟩ = some (.int .i64 a0_0) := (blk_cell BK321.out 0).trans rfl; have hcz6_1 : w5.cell? ⟨gb321, 1, none⟩ = some (.int .i64 a0_1) := (blk_cell BK321.out 1).trans rfl; have hcz6_2 : w5.cell? ⟨gb321, 2, none⟩ = some (.int .i64 a0_2) := (blk_cell BK321.out 2).trans rfl; have hfz6_0 := blk_frozen BK321.out 0; have hfz6_1 := blk_frozen BK321.out 1; have hfz6_2 := blk_frozen BK321.out 2)); go_ret; exact ⟨by first | rfl | (simp [errW_none, errW_some] <;> rfl) | (simp [*, errW_none, errW_some] <;> rfl), by repeat (first | (with_reducible first | exact HB.out | apply below_alloc | apply pw_below_drewN | apply below_drew1 | refine below_set ?_ GE321.out) | exact HB.out)⟩
  ·
   rw [if_neg c4] at H; have c4b0 : decide (a1 ≤ a0_1) = false := decide_eq_false c4; clear c4; replace H := Option.bind_eq_some_iff.mp H; obtain ⟨t322, A70, H⟩ := H; replace H : (some t322) = some r := H; have A7 := az A70; clear A70; obtain rfl := Option.some.inj H; go_enter Try.func108, Try.ntmps108; go_wp2_with (first | ((with_reducible refine gate_dst (N := 2) rfl ?_); refine box_event ?hg (N := 2) ?hd (cs := #[.int .i64 a0_0, .int .i64 a0_1, .int .i64 a0_2]) (t := 108) ?hr ?_; (case hd => rfl); (case hg => rfl); (case hr => first | (go_simp; done) | (go_simp; rfl)); intro gb321 hg w8 hbox hb; have n0_ := az (below_step (by repeat (first | (with_reducible first | exact HB.out | apply below_alloc | apply pw_below_drewN | apply below_drew1) | exact HB.out)) hb); have n1_ := az (hbox); have n2_ := az ((by rw [hg]; exact (below_size (by repeat (first | (with_reducible first | exact HB.out | apply below_alloc | apply pw_below_drewN | apply below_drew1) | exact HB.out))) : w.heap.size ≤ gb321)); have n3_ := az ((by rw [hg]; exact (below_size (by repeat (first | (with_reducible first | exact HB.out | apply below_alloc | apply pw_below_drewN | apply below_drew1) | exact HB.out))) : w.heap.size ≤ gb321)); clear HB; have HB := n0_; have BK321 := n1_; have GW321 := n2_; have GE321 := n3_; clear n0_ n1_ n2_ n3_; clear hb hbox hg; have hcz9_0 : w8.cell? ⟨gb321, 0, none⟩ = some (.int .i64 a0_0) := (blk_cell BK321.out 0).trans rfl; have hcz9_1 : w8.cell? ⟨gb321, 1, none⟩ = some (.int .i64 a0_1) := (blk_cell BK321.out 1).trans rfl; have hcz9_2 : w8.cell? ⟨gb321, 2, none⟩ = some (.int .i64 a0_2) := (blk_cell BK321.out 2).trans rfl; have hfz9_0 := blk_frozen BK321.out 0; have hfz9_1 := blk_frozen BK321.out 1; have hfz9_2 := blk_frozen BK321.out 2) | ((with_reducible refine gate_callee (f := 109) rfl ?_); refine goesL_ (some 18) rfl rfl Try.func109 (by kernel_rfl) rfl #[.int .i64 a0_0, .int .i64 a1] rfl (by (try simp only [List.map_toArray, List.map_cons, List.map_nil]); first | done | rfl) ?_; (with_reducible refine (cmp_Compare_int.calls a0_0 a1 t322 _ A7.out).mono ?_); rintro e w' ⟨rfl, ⟨nd, rfl⟩⟩; refine ⟨_, rfl, ?_⟩)); go_ret; exact ⟨by first | rfl | (simp [errW_none, errW_some] <;> rfl) | (simp [*, errW_none, errW_some] <;> rfl), by repeat (first | (with_reducible first | exact HB.out | apply below_alloc | apply pw_below_drewN | apply below_drew1 | refine below_set ?_ GE321.out) | exact HB.out)⟩
 ·
  rw [if_neg c3] at H; have c3b0 : decide (a0_0 ≤ a1) = false := decide_eq_false c3; clear c3; replace H := Option.bind_eq_some_iff.mp H; obtain ⟨t323, A100, H⟩ := H; replace H : (some t323) = some r := H; have A10 := az A100; clear A100; obtain rfl := Option.some.inj H; go_enter Try.func108, Try.ntmps108; go_wp2_with (first | ((with_reducible refine gate_dst (N := 2) rfl ?_); refine box_event ?hg (N := 2) ?hd (cs := #[.int .i64 a0_0, .int .i64 a0_1, .int .i64 a0_2]) (t := 108) ?hr ?_; (case hd => rfl); (case hg => rfl); (case hr => first | (go_simp; done) | (go_simp; rfl)); intro gb321 hg w11 hbox hb; have n0_ := az (below_step (by repeat (first | (with_reducible first | exact HB.out | apply below_alloc | apply pw_below_drewN | apply below_drew1) | exact HB.out)) hb); have n1_ := az (hbox); have n2_ := az ((by rw [hg]; exact (below_size (by repeat (first | (with_reducible first | exact HB.out | apply below_alloc | apply pw_below_drewN | apply below_drew1) | exact HB.out))) : w.heap.size ≤ gb321)); have n3_ := az ((by rw [hg]; exact (below_size (by repeat (first | (with_reducible first | exact HB.out | apply below_alloc | apply pw_below_drewN | apply below_drew1) | exact HB.out))) : w.heap.size ≤ gb321)); clear HB; have HB := n0_; have BK321 := n1_; have GW321 := n2_; have GE321 := n3_; clear n0_ n1_ n2_ n3_; clear hb hbox hg; have hcz12_0 : w11.cell? ⟨gb321, 0, none⟩ = some (.int .i64 a0_0) := (blk_cell BK321.out 0).trans rfl; have hcz12_1 : w11.cell? ⟨gb321, 1, none⟩ = some (.int .i64 a0_1) := (blk_cell BK321.out 1).trans rfl; have hcz12_2 : w11.cell? ⟨gb321, 2, none⟩ = some (.int .i64 a0_2) := (blk_cell BK321.out 2).trans rfl; have hfz12_0 := blk_frozen BK321.out 0; have hfz12_1 := blk_frozen BK321.out 1; have hfz12_2 := blk_frozen BK321.out 2) | ((with_reducible refine gate_callee (f := 109) rfl ?_); refine goesL_ (some 18) rfl rfl Try.func109 (by kernel_rfl) rfl #[.int .i64 a0_0, .int .i64 a1] rfl (by (try simp only [List.map_toArray, List.map_cons, List.map_nil]); first | done | rfl) ?_; (with_reducible refine (cmp_Compare_int.calls a0_0 a1 t323 _ A10.out).mono ?_); rintro e w' ⟨rfl, ⟨nd, rfl⟩⟩; refine ⟨_, rfl, ?_⟩)); go_ret; exact ⟨by first | rfl | (simp [errW_none, errW_some] <;> rfl) | (simp [*, errW_none, errW_some] <;> rfl), by repeat (first | (with_reducible first | exact HB.out | apply below_alloc | apply pw_below_drewN | apply below_drew1 | refine below_set ?_ GE321.out) | exact HB.out)⟩
def cmpR (x : S108) (r : Int) : Int := if x.f0 ≤ r ∧ r ≤ x.f1 then 0 else if x.f0 < r then -1 else if r < x.f0 then 1 else 0
def bsR (l : List S108) (r : Int) : Nat → Nat → Nat → Nat
 | 0, lo, _ => lo
 | k + 1, lo, hi => if lo < hi then (if cmpR (l.getD ((lo + hi) / 2) z108) r < 0 then bsR l r k ((lo + hi) / 2 + 1) hi else bsR l r k lo ((lo + hi) / 2)) else lo
theorem bsR_end (l : List S108) (r : Int) (k lo : Nat) : bsR l r k lo lo = lo := by cases k <;> simp [bsR]
theorem bsR_lt {l : List S108} {r : Int} {k lo hi : Nat} (h : lo < hi) (hc : cmpR (l.getD ((lo + hi) / 2) z108) r < 0) : bsR l r (k + 1) lo hi = bsR l r k ((lo + hi) / 2 + 1) hi := by
 rw [bsR, if_pos h, if_pos hc]
theorem bsR_ge {l : List S108} {r : Int} {k lo hi : Nat} (h : lo < hi) (hc : ¬ cmpR (l.getD ((lo + hi) / 2) z108) r < 0) : bsR l r (k + 1) lo hi = bsR l r k lo ((lo + hi) / 2) := by
 rw [bsR, if_pos h, if_neg hc]
theorem bsR_more (l : List S108) (r : Int) : ∀ (k k' lo hi : Nat), hi - lo ≤ k → hi - lo ≤ k' → bsR l r k lo hi = bsR l r k' lo hi
 | 0, 0, _, _, _, _ => rfl
 | 0, k' + 1, lo, hi, h, _ => by rw [bsR, bsR, if_neg (by omega)]
 | k + 1, 0, lo, hi, _, h => by rw [bsR, bsR, if_neg (by omega)]
 | k + 1, k' + 1, lo, hi, h, h' => by
  rw [bsR, bsR]
  by_cases hlt : lo < hi
  · rw [if_pos hlt, if_pos hlt, bsR_more l r k k' ((lo + hi) / 2 + 1) hi (by omega) (by omega), bsR_more l r k k' lo ((lo + hi) / 2) (by omega) (by omega)]
  · rw [if_neg hlt, if_neg hlt]
theorem cmpC_f (a b : Int) : cmp_Compare_int.f a b = some (if a < b then -1 else if b < a then 1 else 0) := by
 simp only [cmp_Compare_int.f, cmp_isNaN_int.f, Option.bind_some, bne_self_eq_false, Bool.false_eq_true, if_false, gt_iff_lt]
 split
 · rfl
 · split <;> rfl
theorem cmpR_f (x : S108) (r : Int) : impl_find_1.f x.f0 x.f1 x.f2 r = some (cmpR x r) := by
 simp only [impl_find_1.f, cmpR, cmpC_f, Option.bind_some, ge_iff_le]
 by_cases h0 : x.f0 ≤ r
 ·
  by_cases h1 : r ≤ x.f1
  · simp [h0, h1]
  · simp [h0, h1]
 · simp [h0]
theorem bsR_calls (A0 : Option Addr) (c0 : Nat) (l0 : List S108) (a1 : Int) (w : World) (hr0 : Kd.C k108 w A0 l0.length l0) (hn : l0.length ≤ 1000) :
  Calls Try.prog 107 #[.slice A0 l0.length c0, .int .i64 a1, .func (.func 108) #[] #[]] w fun e w' =>
   e = .returned (.tuple #[.int .i64 (bsR l0 a1 l0.length 0 l0.length : Nat), .bool (decide (bsR l0 a1 l0.length 0 l0.length < l0.length) && decide (cmpR (l0.getD (bsR l0 a1 l0.length 0 l0.length) z108) a1 = 0))]) ∧ Below w.heap.size w w' := by
 have HR0 := az hr0
 clear hr0
 go_enter Try.func107, Try.ntmps107
 go_wp2
 go_loopg [9, 10] l0.length (fun kx s9 s10 wr => ∃ lo hi : Nat, s9 = .int .i64 lo ∧ s10 = .int .i64 hi ∧ lo ≤ hi ∧ hi ≤ l0.length ∧ hi - lo ≤ kx ∧ Aside0 (Below w.heap.size w wr) ∧ Aside0 (bsR l0 a1 (hi - lo) lo hi = bsR l0 a1 l0.length 0 l0.length))
 case atStart => exact ⟨0, l0.length, rfl, rfl, Nat.zero_le _, Nat.le_refl _, by omega, ⟨Below.refl _ _⟩, ⟨rfl⟩⟩
 case round =>
  obtain ⟨lo, hi, rfl, rfl, hlh, hin, hg, HB, HI⟩ := hrel
  by_cases hlt : lo < hi
  ·
   obtain ⟨ad, rfl, hx⟩ := at_T108 HR0.out (((lo + hi) / 2 : Nat) : Int) (by omega) (by omega)
   have HM := az (cmpR_f (l0.getD ((lo + hi) / 2) z108) a1)
   simp only [rd_T108, Int.toNat_natCast] at hx
   obtain ⟨x0, x1, x2⟩ := hx
   replace x0 := (HB.out.cell (World.block_lt_of_cell? w _ x0)).trans x0
   replace x1 := (HB.out.cell (World.block_lt_of_cell? w _ x1)).trans x1
   replace x2 := (HB.out.cell (World.block_lt_of_cell? w _ x2)).trans x2
   generalize hy : l0.getD ((lo + hi) / 2) z108 = y at x0 x1 x2 HM
   have HY := az hy
   clear hy
   by_cases hc : cmpR y a1 < 0
   ·
    have hcb : decide (cmpR y a1 < 0) = true := decide_eq_true hc
    have HC := az hc
    clear hc
    go_wp2_with (go_at_call 108; refine (impl_find_1.calls _ _ _ _ _ _ HM.out).mono ?_; rintro e w' ⟨rfl, hb'⟩)
    go_roundg (hi - ((lo + hi) / 2 + 1))
    case measure => omega
    case rel =>
     refine ⟨(lo + hi) / 2 + 1, hi, by rw [show ((lo : Int) + (hi : Int)) / 2 + 1 = (((lo + hi) / 2 + 1 : Nat) : Int) by omega], rfl, by omega, hin, Nat.le_refl _, ⟨below_then HB.out HB.out.size hb'⟩, ⟨?_⟩⟩
     rw [← HI.out, show hi - lo = (hi - lo - 1) + 1 by omega, bsR_lt hlt (by rw [HY.out]; exact HC.out)]
     exact bsR_more _ _ _ _ _ _ (by omega) (by omega)
   ·
    have hcb : decide (cmpR y a1 < 0) = false := decide_eq_false hc
    have HC := az hc
    clear hc
    go_wp2_with (go_at_call 108; refine (impl_find_1.calls _ _ _ _ _ _ HM.out).mono ?_; rintro e w' ⟨rfl, hb'⟩)
    go_roundg ((lo + hi) / 2 - lo)
    case measure => omega
    case rel =>
     refine ⟨lo, (lo + hi) / 2, rfl, by rw [show ((lo : Int) + (hi : Int)) / 2 = (((lo + hi) / 2 : Nat) : Int) by omega], by omega, by omega, Nat.le_refl _, ⟨below_then HB.out HB.out.size hb'⟩, ⟨?_⟩⟩
     rw [← HI.out, show hi - lo = (hi - lo - 1) + 1 by omega, bsR_ge hlt (by rw [HY.out]; have := HC.out; omega)]
     exact bsR_more _ _ _ _ _ _ (by omega) (by omega)
  ·
   obtain rfl : hi = lo := by omega
   have e : bsR l0 a1 l0.length 0 l0.length = hi := by rw [← HI.out, bsR_end]
   have E := az e
   clear e HI
   by_cases hn2 : hi < l0.length
   ·
    obtain ⟨ad, rfl, hx⟩ := at_T108 HR0.out (hi : Int) (by omega) (by omega)
    have HM := az (cmpR_f (l0.getD hi z108) a1)
    simp only [rd_T108, Int.toNat_natCast] at hx
    obtain ⟨x0, x1, x2⟩ := hx
    replace x0 := (HB.out.cell (World.block_lt_of_cell? w _ x0)).trans x0
    replace x1 := (HB.out.cell (World.block_lt_of_cell? w _ x1)).trans x1
    replace x2 := (HB.out.cell (World.block_lt_of_cell? w _ x2)).trans x2
    generalize hy : l0.getD hi z108 = y at x0 x1 x2 HM
    have HY := az hy
    clear hy
    by_cases hyx : cmpR y a1 = 0
    ·
     go_wp2_with (go_at_call 108; refine (impl_find_1.calls _ _ _ _ _ _ HM.out).mono ?_; rintro e w' ⟨rfl, hb'⟩)
     go_ret2
     exact ⟨by rw [E.out, HY.out]; simp [hn2, hyx], below_then HB.out HB.out.size hb'⟩
    ·
     go_wp2_with (go_at_call 108; refine (impl_find_1.calls _ _ _ _ _ _ HM.out).mono ?_; rintro e w' ⟨rfl, hb'⟩)
     go_ret2
     exact ⟨by rw [E.out, HY.out]; simp [hn2, hyx], below_then HB.out HB.out.size hb'⟩
   ·
    go_wp2
    go_ret2
    exact ⟨by rw [E.out]; simp [hn2], HB.out⟩
def findV (l0 : List S108) (a1 a2 : Int) : Int := if bsR l0 a1 l0.length 0 l0.length < l0.length ∧ cmpR (l0.getD (bsR l0 a1 l0.length 0 l0.length) z108) a1 = 0 then (l0.getD (bsR l0 a1 l0.length 0 l0.length) z108).f2 else a2
def impl_find.f (l0 : List S108) (a1 a2 : Int) : Option Int := if l0.length ≤ 1000 then some (findV l0 a1 a2) else none
theorem impl_find.calls (A0 : Option Addr) (c0 : Nat) (l0 : List (S108)) (a1 : Int) (a2 : Int) (r : Int) (w : World) (hr0 : Kd.C k108 w A0 l0.length l0) (hc0 : l0.length ≤ c0) (h : impl_find.f l0 a1 a2 = some r) :
  Calls Try.prog 95 #[.slice A0 l0.length c0, .int .i64 a1, .int .i64 a2] w fun e w' => e = .returned (.int .i64 r) ∧ Below w.heap.size w w' := by
 unfold impl_find.f at h
 by_cases hn : l0.length ≤ 1000
 ·
  rw [if_pos hn] at h
  obtain rfl := Option.some.inj h
  have HC := az (bsR_calls A0 c0 l0 a1)
  have HR := az hr0
  unfold findV
  clear h hc0
  generalize hi : bsR l0 a1 l0.length 0 l0.length = i at HC
  clear hi
  by_cases h1 : i < l0.length
  ·
   by_cases h2 : cmpR (l0.getD i z108) a1 = 0
   ·
    rw [if_pos ⟨h1, h2⟩]
    simp only [decide_eq_true h1, decide_eq_true h2, Bool.and_self] at HC
    clear h2
    obtain ⟨ad, rfl, hx⟩ := at_T108 hr0 (i : Int) (by omega) (by omega)
    simp only [rd_T108, Int.toNat_natCast] at hx
    obtain ⟨x0, x1, x2⟩ := hx
    clear hr0
    have HX := az x2
    clear x0 x1 x2
    have h1' : (i : Int) < (l0.length : Int) := by omega
    generalize l0.getD i z108 = y at HX
    go_enter Try.func95, Try.ntmps95
    go_wp2_with (go_at_call 107; refine (HC.out _ HR.out hn).mono ?_; rintro e w' ⟨rfl, hb'⟩; have hx2 := (hb'.cell (World.block_lt_of_cell? w _ HX.out)).trans HX.out)
    go_ret
    exact ⟨rfl, hb'⟩
   ·
    rw [if_neg (fun h => h2 h.2)]
    simp only [decide_eq_false h2, Bool.and_false] at HC
    go_enter Try.func95, Try.ntmps95
    go_wp2_with (go_at_call 107; refine (HC.out _ HR.out hn).mono ?_; rintro e w' ⟨rfl, hb'⟩)
    go_ret
    exact ⟨rfl, hb'⟩
  ·
   rw [if_neg (fun h => h1 h.1)]
   simp only [decide_eq_false h1, Bool.false_and] at HC
   go_enter Try.func95, Try.ntmps95
   go_wp2_with (go_at_call 107; refine (HC.out _ HR.out hn).mono ?_; rintro e w' ⟨rfl, hb'⟩)
   go_ret
   exact ⟨rfl, hb'⟩
 ·
  rw [if_neg hn] at h
  exact absurd h (by simp)
def impl_bidiReaches.f  : Option ((List (S108))) := some (([(⟨9, 9, 11⟩ : S108), (⟨32, 32, 12⟩ : S108), (⟨35, 37, 6⟩ : S108), (⟨43, 43, 5⟩ : S108), (⟨44, 44, 8⟩ : S108), (⟨45, 45, 5⟩ : S108), (⟨46, 47, 8⟩ : S108), (⟨48, 57, 4⟩ : S108), (⟨58, 58, 8⟩ : S108), (⟨65, 90, 1⟩ : S108), (⟨97, 122, 1⟩ : S108), (⟨173, 173, 10⟩ : S108), (⟨768, 879, 9⟩ : S108), (⟨1488, 1514, 2⟩ : S108), (⟨1569, 1610, 3⟩ : S108), (⟨1632, 1641, 7⟩ : S108), (⟨8203, 8203, 10⟩ : S108), (⟨8205, 8205, 10⟩ : S108), (⟨8234, 8234, 14⟩ : S108), (⟨8235, 8235, 15⟩ : S108), (⟨8236, 8236, 16⟩ : S108), (⟨8237, 8237, 17⟩ : S108), (⟨8238, 8238, 18⟩ : S108), (⟨8294, 8294, 19⟩ : S108), (⟨8295, 8295, 20⟩ : S108), (⟨8296, 8296, 21⟩ : S108), (⟨8297, 8297, 22⟩ : S108), (⟨19968, 40959, 1⟩ : S108)] : List (S108)))
theorem impl_bidiReaches.calls  (r : List (S108)) (w : World) (h : impl_bidiReaches.f  = some r) :
  Calls Try.prog 96 #[] w fun e w' => ∃ v0_ : Value, e = .returned (v0_) ∧ Kd.R k108 108 w' w.heap.size (fun _ => True) v0_ r ∧ Below w.heap.size w w' := by
 have hu108 := Try.underlying108; have HB := az (Below.refl w.heap.size w); have H : (some (([(⟨9, 9, 11⟩ : S108), (⟨32, 32, 12⟩ : S108), (⟨35, 37, 6⟩ : S108), (⟨43, 43, 5⟩ : S108), (⟨44, 44, 8⟩ : S108), (⟨45, 45, 5⟩ : S108), (⟨46, 47, 8⟩ : S108), (⟨48, 57, 4⟩ : S108), (⟨58, 58, 8⟩ : S108), (⟨65, 90, 1⟩ : S108), (⟨97, 122, 1⟩ : S108), (⟨173, 173, 10⟩ : S108), (⟨768, 879, 9⟩ : S108), (⟨1488, 1514, 2⟩ : S108), (⟨1569, 1610, 3⟩ : S108), (⟨1632, 1641, 7⟩ : S108), (⟨8203, 8203, 10⟩ : S108), (⟨8205, 8205, 10⟩ : S108), (⟨8234, 8234, 14⟩ : S108), (⟨8235, 8235, 15⟩ : S108), (⟨8236, 8236, 16⟩ : S108), (⟨8237, 8237, 17⟩ : S108), (⟨8238, 8238, 18⟩ : S108), (⟨8294, 8294, 19⟩ : S108), (⟨8295, 8295, 20⟩ : S108), (⟨8296, 8296, 21⟩ : S108), (⟨8297, 8297, 22⟩ : S108), (⟨19968, 40959, 1⟩ : S108)] : List (S108)))) = some r := h; clear h; obtain ⟨y324, hy324⟩ : ∃ y_ : List (S108), y_ = (([(⟨9, 9, 11⟩ : S108), (⟨32, 32, 12⟩ : S108), (⟨35, 37, 6⟩ : S108), (⟨43, 43, 5⟩ : S108), (⟨44, 44, 8⟩ : S108), (⟨45, 45, 5⟩ : S108), (⟨46, 47, 8⟩ : S108), (⟨48, 57, 4⟩ : S108), (⟨58, 58, 8⟩ : S108), (⟨65, 90, 1⟩ : S108), (⟨97, 122, 1⟩ : S108), (⟨173, 173, 10⟩ : S108), (⟨768, 879, 9⟩ : S108), (⟨1488, 1514, 2⟩ : S108), (⟨1569, 1610, 3⟩ : S108), (⟨1632, 1641, 7⟩ : S108), (⟨8203, 8203, 10⟩ : S108), (⟨8205, 8205, 10⟩ : S108), (⟨8234, 8234, 14⟩ : S108), (⟨8235, 8235, 15⟩ : S108), (⟨8236, 8236, 16⟩ : S108), (⟨8237, 8237, 17⟩ : S108), (⟨8238, 8238, 18⟩ : S108), (⟨8294, 8294, 19⟩ : S108), (⟨8295, 8295, 20⟩ : S108), (⟨8296, 8296, 21⟩ : S108), (⟨8297, 8297, 22⟩ : S108), (⟨19968, 40959, 1⟩ : S108)] : List (S108))) := ⟨_, rfl⟩; replace H : (some y324) = some r := by first | (rw [hy324]; with_reducible exact H) | (have H2_ := (Option.bind_some _ _).symm.trans H; rw [hy324]; with_reducible exact H2_) | (have H2_ := (Option.bind_some _ _).symm.trans H; with_reducible exact H2_) | with_reducible exact H | (rw [hy324]; exact H) | exact H
 have Ny324 := az hy324; clear hy324; obtain rfl := Option.some.inj H; go_enter Try.func96, Try.ntmps96; go_wp2_with (first | ((with_reducible refine gate_dst (N := 29) rfl ?_); refine Kd.R_lit k108 _ 108 ?hg (N := 29) ?hd (xs := ([(⟨9, 9, 11⟩ : S108), (⟨32, 32, 12⟩ : S108), (⟨35, 37, 6⟩ : S108), (⟨43, 43, 5⟩ : S108), (⟨44, 44, 8⟩ : S108), (⟨45, 45, 5⟩ : S108), (⟨46, 47, 8⟩ : S108), (⟨48, 57, 4⟩ : S108), (⟨58, 58, 8⟩ : S108), (⟨65, 90, 1⟩ : S108), (⟨97, 122, 1⟩ : S108), (⟨173, 173, 10⟩ : S108), (⟨768, 879, 9⟩ : S108), (⟨1488, 1514, 2⟩ : S108), (⟨1569, 1610, 3⟩ : S108), (⟨1632, 1641, 7⟩ : S108), (⟨8203, 8203, 10⟩ : S108), (⟨8205, 8205, 10⟩ : S108), (⟨8234, 8234, 14⟩ : S108), (⟨8235, 8235, 15⟩ : S108), (⟨8236, 8236, 16⟩ : S108), (⟨8237, 8237, 17⟩ : S108), (⟨8238, 8238, 18⟩ : S108), (⟨8294, 8294, 19⟩ : S108), (⟨8295, 8295, 20⟩ : S108), (⟨8296, 8296, 21⟩ : S108), (⟨8297, 8297, 22⟩ : S108), (⟨19968, 40959, 1⟩ : S108)] : List (S108))) (inner := [.int .i64 9, .int .i64 9, .int .i64 11, .int .i64 32, .int .i64 32, .int .i64 12, .int .i64 35, .int .i64 37, .int .i64 6, .int .i64 43, .int .i64 43, .int .i64 5, .int .i64 44, .int .i64 44, .int .i64 8, .int .i64 45, .int .i64 45, .int .i64 5, .int .i64 46, .int .i64 47, .int .i64 8, .int .i64 48, .int .i64 57, .int .i64 4, .int .i64 58, .int .i64 58, .int .i64 8, .int .i64 65, .int .i64 90, .int .i64 1, .int .i64 97, .int .i64 122, .int .i64 1, .int .i64 173, .int .i64 173, .int .i64 10, .int .i64 768, .int .i64 879, .int .i64 9, .int .i64 1488, .int .i64 1514, .int .i64 2, .int .i64 1569, .int .i64 1610, .int .i64 3, .int .i64 1632, .int .i64 1641, .int .i64 7, .int .i64 8203, .int .i64 8203, .int .i64 10, .int .i64 8205, .int .i64 8205, .int .i64 10, .int .i64 8234, .int .i64 8234, .int .i64 14, .int .i64 8235, .int .i64 8235, .int .i64 15, .int .i64 8236, .int .i64 8236, .int .i64 16, .int .i64 8237, .int .i64 8237, .int .i64 17, .int .i64 8238, .int .i64 8238, .int .i64 18, .int .i64 8294, .int .i64 8294, .int .i64 19, .int .i64 8295, .int .i64 8295, .int .i64 20, .int .i64 8296, .int .i64 8296, .int .i64 21, .int .i64 8297, .int .i64 8297, .int .i64 22, .int .i64 19968, .int .i64 40959, .int .i64 1]) (ok := fun _ => True) (okp := fun _ => True) ?hr ?hp (fun _ hk => hk) trivial (Below.refl _ _) (Nat.le_refl _) (by simp) ?_; (case hd => rfl); (case hg => rfl); (case hr => first | (go_simp; done) | (go_simp; rfl)); (case hp => exact (Reps.c3 (show Kd.M k108 _ _ _ (⟨9, 9, 11⟩ : S108) [.int .i64 9, .int .i64 9, .int .i64 11] from (k108_mkM _ _ _ (⟨9, 9, 11⟩ : S108) )) (Reps.c3 (show Kd.M k108 _ _ _ (⟨32, 32, 12⟩ : S108) [.int .i64 32, .int .i64 32, .int .i64 12] from (k108_mkM _ _ _ (⟨32, 32, 12⟩ : S108) )) (Reps.c3 (show Kd.M k108 _ _ _ (⟨35, 37, 6⟩ : S108) [.int .i64 35, .int .i64 37, .int .i64 6] from (k108_mkM _ _ _ (⟨35, 37, 6⟩ : S108) )) (Reps.c3 (show Kd.M k108 _ _ _ (⟨43, 43, 5⟩ : S108) [.int .i64 43, .int .i64 43, .int .i64 5] from (k108_mkM _ _ _ (⟨43, 43, 5⟩ : S108) )) (Reps.c3 (show Kd.M k108 _ _ _ (⟨44, 44, 8⟩ : S108) [.int .i64 44, .int .i64 44, .int .i64 8] from (k108_mkM _ _ _ (⟨44, 44, 8⟩ : S108) )) (Reps.c3 (show Kd.M k108 _ _ _ (⟨45, 45, 5⟩ : S108) [.int .i64 45, .int .i64 45, .int .i64 5] from (k108_mkM _ _ _ (⟨45, 45, 5⟩ : S108) )) (Reps.c3 (show Kd.M k108 _ _ _ (⟨46, 47, 8⟩ : S108) [.int .i64 46, .int .i64 47, .int .i64 8] from (k108_mkM _ _ _ (⟨46, 47, 8⟩ : S108) )) (Reps.c3 (show Kd.M k108 _ _ _ (⟨48, 57, 4⟩ : S108) [.int .i64 48, .int .i64 57, .int .i64 4] from (k108_mkM _ _ _ (⟨48, 57, 4⟩ : S108) )) (Reps.c3 (show Kd.M k108 _ _ _ (⟨58, 58, 8⟩ : S108) [.int .i64 58, .int .i64 58, .int .i64 8] from (k108_mkM _ _ _ (⟨58, 58, 8⟩ : S108) )) (Reps.c3 (show Kd.M k108 _ _ _ (⟨65, 90, 1⟩ : S108) [.int .i64 65, .int .i64 90, .int .i64 1] from (k108_mkM _ _ _ (⟨65, 90, 1⟩ : S108) )) (Reps.c3 (show Kd.M k108 _ _ _ (⟨97, 122, 1⟩ : S108) [.int .i64 97, .int .i64 122, .int .i64 1] from (k108_mkM _ _ _ (⟨97, 122, 1⟩ : S108) )) (Reps.c3 (show Kd.M k108 _ _ _ (⟨173, 173, 10⟩ : S108) [.int .i64 173, .int .i64 173, .int .i64 10] from (k108_mkM _ _ _ (⟨173, 173, 10⟩ : S108) )) (Reps.c3 (show Kd.M k108 _ _ _ (⟨768, 879, 9⟩ : S108) [.int .i64 768, .int .i64 879, .int .i64 9] from (k108_mkM _ _ _ (⟨768, 879, 9⟩ : S108) )) (Reps.c3 (show Kd.M k108 _ _ _ (⟨1488, 1514, 2⟩ : S108) [.int .i64 1488, .int .i64 1514, .int .i64 2] from (k108_mkM _ _ _ (⟨1488, 1514, 2⟩ : S108) )) (Reps.c3 (show Kd.M k108 _ _ _ (⟨1569, 1610, 3⟩ : S108) [.int .i64 1569, .int .i64 1610, .int .i64 3] from (k108_mkM _ _ _ (⟨1569, 1610, 3⟩ : S108) )) (Reps.c3 (show Kd.M k108 _ _ _ (⟨1632, 1641, 7⟩ : S108) [.int .i64 1632, .int .i64 1641, .int .i64 7] from (k108_mkM _ _ _ (⟨1632, 1641, 7⟩ : S108) )) (Reps.c3 (show Kd.M k108 _ _ _ (⟨8203, 8203, 10⟩ : S108) [.int .i64 8203, .int .i64 8203, .int .i64 10] from (k108_mkM _ _ _ (⟨8203, 8203, 10⟩ : S108) )) (Reps.c3 (show Kd.M k108 _ _ _ (⟨8205, 8205, 10⟩ : S108) [.int .i64 8205, .int .i64 8205, .int .i64 10] from (k108_mkM _ _ _ (⟨8205, 8205, 10⟩ : S108) )) (Reps.c3 (show Kd.M k108 _ _ _ (⟨8234, 8234, 14⟩ : S108) [.int .i64 8234, .int .i64 8234, .int .i64 14] from (k108_mkM _ _ _ (⟨8234, 8234, 14⟩ : S108) )) (Reps.c3 (show Kd.M k108 _ _ _ (⟨8235, 8235, 15⟩ : S108) [.int .i64 8235, .int .i64 8235, .int .i64 15] from (k108_mkM _ _ _ (⟨8235, 8235, 15⟩ : S108) )) (Reps.c3 (show Kd.M k108 _ _ _ (⟨8236, 8236, 16⟩ : S108) [.int .i64 8236, .int .i64 8236, .int .i64 16] from (k108_mkM _ _ _ (⟨8236, 8236, 16⟩ : S108) )) (Reps.c3 (show Kd.M k108 _ _ _ (⟨8237, 8237, 17⟩ : S108) [.int .i64 8237, .int .i64 8237, .int .i64 17] from (k108_mkM _ _ _ (⟨8237, 8237, 17⟩ : S108) )) (Reps.c3 (show Kd.M k108 _ _ _ (⟨8238, 8238, 18⟩ : S108) [.int .i64 8238, .int .i64 8238, .int .i64 18] from (k108_mkM _ _ _ (⟨8238, 8238, 18⟩ : S108) )) (Reps.c3 (show Kd.M k108 _ _ _ (⟨8294, 8294, 19⟩ : S108) [.int .i64 8294, .int .i64 8294, .int .i64 19] from (k108_mkM _ _ _ (⟨8294, 8294, 19⟩ : S108) )) (Reps.c3 (show Kd.M k108 _ _ _ (⟨8295, 8295, 20⟩ : S108) [.int .i64 8295, .int .i64 8295, .int .i64 20] from (k108_mkM _ _ _ (⟨8295, 8295, 20⟩ : S108) )) (Reps.c3 (show Kd.M k108 _ _ _ (⟨8296, 8296, 21⟩ : S108) [.int .i64 8296, .int .i64 8296, .int .i64 21] from (k108_mkM _ _ _ (⟨8296, 8296, 21⟩ : S108) )) (Reps.c3 (show Kd.M k108 _ _ _ (⟨8297, 8297, 22⟩ : S108) [.int .i64 8297, .int .i64 8297, .int .i64 22] from (k108_mkM _ _ _ (⟨8297, 8297, 22⟩ : S108) )) (Reps.c3 (show Kd.M k108 _ _ _ (⟨19968, 40959, 1⟩ : S108) [.int .i64 19968, .int .i64 40959, .int .i64 1] from (k108_mkM _ _ _ (⟨19968, 40959, 1⟩ : S108) )) (Reps.none _ _)))))))))))))))))))))))))))))); intro v325 w1 ho2 hb hg_ hnew_; clear hg_ hnew_; (first | rw [← Ny324.out] at ho2 | (simp only [Int.reduceToNat] at ho2; rw [← Ny324.out] at ho2)); have n0_ := az (Kd.R_lower ho2 (below_size (by repeat (first | (with_reducible first | exact HB.out | apply below_alloc | apply pw_below_drewN | apply below_drew1) | exact HB.out)))); have n1_ := az (below_step (by repeat (first | (with_reducible first | exact HB.out | apply below_alloc | apply pw_below_drewN | apply below_drew1) | exact HB.out)) hb); clear HB; have HO326 := n0_; have HB := n1_; clear n0_ n1_; clear hb ho2))
 go_ret; exact ⟨_, by first | rfl | (simp [errW_none, errW_some] <;> rfl) | (simp [*, errW_none, errW_some] <;> rfl), by (with_reducible repeat (first | apply Kd.R_alloc | apply Kd.R_drewN | apply Kd.R_drew)); exact HO326.out, by repeat (first | (with_reducible first | exact HB.out | apply below_alloc | apply pw_below_drewN | apply below_drew1) | exact HB.out)⟩
def impl_RuneBidi.f (a0 : Int) : Option (Int) := (impl_bidiReaches.f).bind fun t327 => ((impl_find.f t327 a0 13).bind fun t330 => (some t330))
theorem impl_RuneBidi.calls (a0 : Int) (r : Int) (w : World) (h : impl_RuneBidi.f a0 = some r) :
  Calls Try.prog 75 #[.int .i64 a0] w fun e w' => e = .returned (.int .i64 r) ∧ Below w.heap.size w w' := by
 have HB := az (Below.refl w.heap.size w); have H : ((impl_bidiReaches.f).bind fun t327 => ((impl_find.f t327 a0 13).bind fun t330 => (some t330))) = some r := h; clear h; replace H := Option.bind_eq_some_iff.mp H; obtain ⟨t327, A20, H⟩ := H; replace H : ((impl_find.f t327 a0 13).bind fun t330 => (some t330)) = some r := H; have A2 := az A20; clear A20; replace H := Option.bind_eq_some_iff.mp H; obtain ⟨t330, A30, H⟩ := H; replace H : (some t330) = some r := H; have A3 := az A30; clear A30; obtain rfl := Option.some.inj H; go_enter Try.func75, Try.ntmps75; go_wp2_with (first | ((with_reducible refine gate_callee (f := 96) rfl ?_); refine goesL_ (some 3) rfl rfl Try.func96 (by kernel_rfl) rfl #[] rfl (by (try simp only [List.map_toArray, List.map_cons, List.map_nil]); first | done | rfl) ?_; (with_reducible refine (impl_bidiReaches.calls  t327 _ A2.out).mono ?_); rintro e w4 ⟨v328, rfl, ho0, hb⟩; refine ⟨_, rfl, ?_⟩; have n0_ := az (Kd.R_lower ho0 (below_size (by repeat (first | (with_reducible first | exact HB.out | apply below_alloc | apply pw_below_drewN | apply below_drew1) | exact HB.out)))); have n1_ := az (below_step (by repeat (first | (with_reducible first | exact HB.out | apply below_alloc | apply pw_below_drewN | apply below_drew1) | exact HB.out)) hb); clear HB; have HO329 := n0_; have HB := n1_; clear n0_ n1_; (try clear hb); (try clear hb2); (try clear hk); (try clear hi); (try clear ho0); obtain ⟨Ao5, co5, eo5⟩ := Kd.R_slice HO329.out; subst eo5) | ((with_reducible refine gate_callee (f := 95) rfl ?_); refine goesL_ (some 5) rfl rfl Try.func95 (by kernel_rfl) rfl #[.slice Ao5 t327.length co5, .int .i64 a0, .int .i64 13] rfl (by (try simp only [List.map_toArray, List.map_cons, List.map_nil]); first | done | rfl) ?_; (with_reducible refine (impl_find.calls _ _ t327 a0 13 t330 _ ?side1 ?side2 A3.out).mono ?_); (case side1 => repeat (first | exact (Kd.R_reads' HO329.out).2.2 | (with_reducible refine Kd.C_alloc ?_ _) | (with_reducible refine Kd.C_drewN ?_ _) | (with_reducible refine Kd.C_drew ?_))); (case side2 => exact (Kd.R_reads' HO329.out).2.1); rintro e w6 ⟨rfl, hb⟩; refine ⟨_, rfl, ?_⟩; have n0_ := az (Kd.R_below (by (with_reducible repeat (first | apply Kd.R_alloc | apply Kd.R_drewN | apply Kd.R_drew)); exact HO329.out) hb); have n1_ := az (below_step (by repeat (first | (with_reducible first | exact HB.out | apply below_alloc | apply pw_below_drewN | apply below_drew1) | exact HB.out)) hb); clear HO329; clear HB; have HO329 := n0_; have HB := n1_; clear n0_ n1_; (try clear hb); (try clear hb2); (try clear hk); (try clear hi))); go_ret; exact ⟨by first | rfl | (simp [errW_none, errW_some] <;> rfl) | (simp [*, errW_none, errW_some] <;> rfl), by repeat (first | (with_reducible first | exact HB.out | apply below_alloc | apply pw_below_drewN | apply below_drew1) | exact HB.out)⟩
open Go.WideElems Go.Maps Go.ChangeMaps in
theorem MapI.entry {w : World} {b n : Nat} {f : Int → Option Int} (h : MapI w b n f) (hn : n < 1000000) (k v : Int) (hk : (Lit.int .i64 k).wf = true) (hv : (Lit.int .i64 v).wf = true) :
  ∃ v0 st W1 W2, (Instr.mapEntry 76 (.map (some b)) (.int .i64 k)).run Try.prog w = .ok (.tuple #[v0, .int .i64 st]) W1 ∧ (Instr.entryStore 76 (.map (some b)) (.int .i64 st) (.int .i64 v)).run Try.prog W1 = .ok () W2 ∧ MapI W2 b (n + 1) (fun a => if a = k then some v else f a) ∧ w.grownBy W2 (some b) := by
 obtain ⟨w', hrun, hm, hg⟩ := h.put hn k v hk hv
 obtain ⟨D, ⟨es, clock, hb, F, hs, rfl⟩, h2, h3⟩ := h
 have K := Maps.int_keyed (P := Try.prog) Try.underlying3
 have hkey := Maps.keyOf_int_mk Try.underlying3 hk
 have ht := Try.underlying76
 have hz := mapI_zero w
 obtain ⟨s1, s2, s3⟩ := F.stamped
 -- what two writes of the block leave
 have two : ∀ x y : Obj, w' = setBlock w b y → setBlock (setBlock w b x) b y = w' := fun x y e => by
  rw [e]
  simp [setBlock]
 rcases K.find w hkey es.toList F.keys with ⟨g1, g2⟩ | ⟨j, e0, g1, g2, g3⟩
 ·
  have hu : (Instr.mapUpdate 76 (.map (some b)) (.int .i64 k) (.int .i64 v)).run Try.prog w = .ok () (setBlock w b (.map (es.push ⟨.int .i64 k, .int .i64 v, clock⟩) (clock + 1))) := by
   simp [Instr.mapUpdate, run_underlying ht, MapKept.run_getObj_map hb, K.check w false hkey, g1, MapKept.run_setObj_map _ hb, Result.andThen, setBlock]
  rw [hrun] at hu
  injection hu with _ hu
  have hw1 := heap_setBlock_same hb (.map (es.push ⟨.int .i64 k, .int .i64 0, clock⟩) (clock + 1))
  have hidx : (es.push ⟨.int .i64 k, .int .i64 0, clock⟩).findIdx? (fun e => ((e.born : Nat) : Int) == ((clock : Nat) : Int)) = some es.size := by
   rw [findIdx_arr]
   refine findIdx_born (e0 := ⟨.int .i64 k, .int .i64 0, clock⟩) ?_ (by simp)
   rw [Array.toList_push, List.map_append]
   refine List.nodup_append.2 ⟨s2, by simp, fun a ha c hc => ?_⟩
   obtain ⟨x, hx, rfl⟩ := List.mem_map.1 ha
   rw [List.map_cons, List.map_nil, List.mem_singleton] at hc
   rw [hc]
   exact Nat.ne_of_lt (s1 x hx)
  have hmod : (es.push ⟨.int .i64 k, .int .i64 0, clock⟩).modify es.size (fun e => { e with val := .int .i64 v }) = es.push ⟨.int .i64 k, .int .i64 v, clock⟩ := by
   apply Array.ext'
   rw [Array.toList_modify, Array.toList_push, Array.toList_push, ← Array.length_toList, modify_last]
  have st : ∀ W1 : World, W1.heap[b]? = some (.map (es.push ⟨.int .i64 k, .int .i64 0, clock⟩) (clock + 1)) → (Instr.entryStore 76 (.map (some b)) (.int .i64 clock) (.int .i64 v)).run Try.prog W1 = .ok () (setBlock W1 b (.map (es.push ⟨.int .i64 k, .int .i64 v, clock⟩) (clock + 1))) := fun W1 hw => by
   simp [Instr.entryStore, MapKept.run_getObj_map hw, asInt, asIntOf, hidx, hmod, MapKept.run_setObj_map _ hw, Result.andThen, setBlock]
  refine ⟨.int .i64 0, clock, setBlock w b (.map (es.push ⟨.int .i64 k, .int .i64 0, clock⟩) (clock + 1)), w', ?_, ?_, hm, hg⟩
  · simp [Instr.mapEntry, run_underlying ht, MapKept.run_getObj_map hb, K.check w false hkey, g1, hz, MapKept.run_setObj_map _ hb, Result.andThen, setBlock, goInt]
  · rw [st _ hw1, two _ _ hu]
 ·
  have hj : es[j]? = some e0 := by simpa using g2
  have hsame : es.modify j (fun e => { e with key := .int .i64 k }) = es := by
   apply Array.ext'
   rw [Array.toList_modify, modify_eq_set _ _ _ _ g2, show ({ e0 with key := .int .i64 k } : MapEntry) = e0 by rw [← g3]]
   exact set_self _ _ _ g2
  have hu : (Instr.mapUpdate 76 (.map (some b)) (.int .i64 k) (.int .i64 v)).run Try.prog w = .ok () (setBlock w b (.map (es.modify j (fun e' => { e' with key := .int .i64 k, val := .int .i64 v })) clock)) := by
   simp [Instr.mapUpdate, run_underlying ht, MapKept.run_getObj_map hb, K.check w false hkey, g1, hj, g3, K.stays w hkey, MapKept.run_setObj_map _ hb, Result.andThen, setBlock]
  rw [hrun] at hu
  injection hu with _ hu
  have hw1 := heap_setBlock_same hb (.map es clock)
  have hidx : es.findIdx? (fun e => ((e.born : Nat) : Int) == ((e0.born : Nat) : Int)) = some j := by
   rw [findIdx_arr]
   exact findIdx_born s2 g2
  have hmod : es.modify j (fun e => { e with val := .int .i64 v }) = es.modify j (fun e' => { e' with key := .int .i64 k, val := .int .i64 v }) := by
   apply Array.ext'
   rw [Array.toList_modify, Array.toList_modify, modify_eq_set _ _ _ _ g2, modify_eq_set _ _ _ _ g2, ← g3]
  have st : ∀ W1 : World, W1.heap[b]? = some (.map es clock) → (Instr.entryStore 76 (.map (some b)) (.int .i64 e0.born) (.int .i64 v)).run Try.prog W1 = .ok () (setBlock W1 b (.map (es.modify j (fun e' => { e' with key := .int .i64 k, val := .int .i64 v })) clock)) := fun W1 hw => by
   simp [Instr.entryStore, MapKept.run_getObj_map hw, asInt, asIntOf, hidx, hmod, MapKept.run_setObj_map _ hw, Result.andThen, setBlock]
  refine ⟨e0.val, e0.born, setBlock w b (.map es clock), w', ?_, ?_, hm, hg⟩
  · simp [Instr.mapEntry, run_underlying ht, MapKept.run_getObj_map hb, K.check w false hkey, g1, hj, g3, K.stays w hkey, hsame, MapKept.run_setObj_map _ hb, Result.andThen, setBlock, goInt]
  · rw [st _ hw1, two _ _ hu]
structure PaS where
 op : List Int
 mt : Int → Option Int
 cd : Int → Option Int
def updI (f : Int → Option Int) (k v : Int) : Int → Option Int := fun a => if a = k then some v else f a
def paraStep (c : Int) (j : Nat) (s : PaS) : PaS :=
 if opensB c = true then { s with op := s.op ++ [(j : Int)] }
 else if c = 22 ∧ s.op ≠ [] then ⟨s.op.take (s.op.length - 1), updI s.mt (s.op.getD (s.op.length - 1) 0) j, updI s.cd j (s.op.getD (s.op.length - 1) 0)⟩ else s
def paraS (cls : List Int) : Nat → PaS
 | 0 => ⟨[], fun _ => none, fun _ => none⟩
 | j + 1 => paraStep (cls.getD j 0) j (paraS cls j)
def InvP (j : Nat) (s : PaS) : Prop := (∀ x ∈ s.op, 0 ≤ x ∧ x < j) ∧ s.op.length ≤ j ∧ (∀ k m, s.mt k = some m → k < m ∧ m < j)
theorem inv_para (cls : List Int) : ∀ j, InvP j (paraS cls j)
 | 0 => ⟨by simp [paraS], by simp [paraS], by simp [paraS]⟩
 | j + 1 => by
  obtain ⟨h1, h2, h3⟩ := inv_para cls j
  rw [paraS]
  generalize paraS cls j = s at h1 h2 h3
  unfold paraStep
  split
  ·
   refine ⟨fun x hx => ?_, by simp only [List.length_append, List.length_cons, List.length_nil]; omega, fun k m hm => ?_⟩
   ·
    rcases List.mem_append.mp hx with hx | hx
    · have := h1 x hx; omega
    · rw [List.mem_singleton] at hx; omega
   · have := h3 k m hm; omega
  ·
   split
   ·
    rename_i hc
    have hlen : 0 < s.op.length := List.length_pos_iff.mpr hc.2
    have hx : s.op.getD (s.op.length - 1) 0 ∈ s.op := by
     rw [List.getD_eq_getElem?_getD, List.getElem?_eq_getElem (by omega), Option.getD_some]
     exact List.getElem_mem _
    have hb := h1 _ hx
    refine ⟨fun x hx => ?_, by simp only [List.length_take]; omega, fun k m hm => ?_⟩
    · have := h1 x (List.mem_of_mem_take hx); omega
    ·
     simp only [updI] at hm
     split at hm
     · injection hm with hm; omega
     · have := h3 k m hm; omega
   ·
    refine ⟨fun x hx => ?_, by omega, fun k m hm => ?_⟩
    · have := h1 x hx; omega
    · have := h3 k m hm; omega
def PW (W : World) (base g0 : Nat) (Ar : Option Addr) (cr n : Nat) (vc : Value) (cl : List Int) (vo : Value) (s : PaS) (j : Nat) : Prop :=
 W.heap[g0 + 1 + 1]? = some (.cells #[.slice Ar n cr, vc, .map (some g0), .map (some (g0 + 1))] 78 (0, 0)) ∧ Two W base vc cl vo s.op ∧ MapI W g0 j s.mt ∧ MapI W (g0 + 1) j s.cd
theorem PW.below {W W' : World} {base g0 : Nat} {Ar : Option Addr} {cr n : Nat} {vc : Value} {cl : List Int} {vo : Value} {s : PaS} {j : Nat} (h : PW W base g0 Ar cr n vc cl vo s j) (hb : Below W.heap.size W W') : PW W' base g0 Ar cr n vc cl vo s j :=
 ⟨blk_below h.1 hb, ⟨Kd.R_below h.2.1.1 hb, Kd.R_below h.2.1.2 hb⟩, h.2.2.1.below hb, h.2.2.2.below hb⟩
theorem MapI.wide {w : World} {b n m : Nat} {f : Int → Option Int} (h : MapI w b n f) (hm : n ≤ m) : MapI w b m f := by
 obtain ⟨D, ⟨es, clock, hb, F, hs, hD⟩, h2⟩ := h
 exact ⟨D, ⟨es, clock, hb, F, Nat.le_trans hs hm, hD⟩, h2⟩
theorem para_start (w : World) (Ar : Option Addr) (cr n : Nat) (o : Obj) (ho : o = .cells #[.slice Ar n cr, .slice none 0 0, .map (some w.heap.size), .map (some (w.heap.size + 1))] 78) :
  PW (((w.alloc (.map #[] 0)).alloc (.map #[] 0)).alloc o) w.heap.size w.heap.size Ar cr n (.slice none 0 0) [] (.slice none 0 0) ⟨[], fun _ => none, fun _ => none⟩ 0 ∧ Below w.heap.size w (((w.alloc (.map #[] 0)).alloc (.map #[] 0)).alloc o) := by
 subst ho
 have e1 : (w.alloc (.map #[] 0)).heap.size = w.heap.size + 1 := by simp
 have e2 : ((w.alloc (.map #[] 0)).alloc (.map #[] 0)).heap.size = w.heap.size + 1 + 1 := by simp
 have m1 := ((MapI.made w).below (below_alloc (Below.refl _ _) (.map #[] 0))).below (below_alloc (Below.refl _ _) (.cells #[.slice Ar n cr, .slice none 0 0, .map (some w.heap.size), .map (some (w.heap.size + 1))] 78))
 have m2 := (MapI.made (w.alloc (.map #[] 0))).below (below_alloc (Below.refl _ _) (.cells #[.slice Ar n cr, .slice none 0 0, .map (some w.heap.size), .map (some (w.heap.size + 1))] 78))
 have b := blk_new ((w.alloc (.map #[] 0)).alloc (.map #[] 0)) (.cells #[.slice Ar n cr, .slice none 0 0, .map (some w.heap.size), .map (some (w.heap.size + 1))] 78)
 rw [e1] at m2
 rw [e2] at b
 exact ⟨⟨b, two_nil _ _, m1, m2⟩, below_alloc (below_alloc (below_alloc (Below.refl _ _) _) _) _⟩
theorem map_far {W : World} {b n pb : Nat} {f : Int → Option Int} {cs : Array Value} {t : TypeId} (h : MapI W b n f) (h1 : W.heap[pb]? = some (.cells cs t (0, 0))) (i : Nat) (v : Value) : MapI (W.setCell ⟨pb, i, none⟩ v) b n f :=
 h.heap fun es c he => (heap_setCell_ne (fun e => by rw [show b = pb from e, h1] at he; cases he)).trans he
theorem map_fr {ts : List Nat} {W W' : World} {b n : Nat} {f : Int → Option Int} (h : MapI W b n f) (hf : FrT ts W W') : MapI W' b n f := h.heap fun es c he => hf.2 b _ he (fun _ _ _ e => by cases e)
theorem PW.more {W : World} {base g0 : Nat} {Ar : Option Addr} {cr n : Nat} {vc : Value} {cl : List Int} {vo : Value} {s : PaS} {j : Nat} (h : PW W base g0 Ar cr n vc cl vo s j) : PW W base g0 Ar cr n vc cl vo s (j + 1) :=
 ⟨h.1, h.2.1, h.2.2.1.wide (by omega), h.2.2.2.wide (by omega)⟩
theorem R_grown_map {W W' : World} {base b : Nat} {ok : Nat → Prop} {v : Value} {xs : List Int} {n : Nat} {f : Int → Option Int} (h : Kd.R (Kd.int .i64) 3 W base ok v xs) (hm : MapI W b n f) (hg : W.grownBy W' (some b)) : Kd.R (Kd.int .i64) 3 W' base ok v xs := by
 obtain ⟨D, ⟨es, clock, hb, _⟩, _⟩ := hm
 refine Kd.R_mono (Kd.R_move (Kd.R_bound h) (fun k hk => hg.block k hk.2.2.1 (fun he => ?_))) (fun _ hk => hk.1)
 obtain ⟨_, _, _, q, hq, cells, hc⟩ := hk
 injection he with he
 rw [he, hb] at hc
 cases hc
theorem PW.closed {W W2 W4 : World} {base g0 : Nat} {Ar : Option Addr} {cr n : Nat} {vc : Value} {cl : List Int} {vo : Value} {s : PaS} {j : Nat} {f1 f2 : Int → Option Int} (h : PW W base g0 Ar cr n vc cl vo s j) (hg1 : W.grownBy W2 (some g0)) (hg2 : W2.grownBy W4 (some (g0 + 1))) (m1 : MapI W2 g0 (j + 1) f1) (m2 : MapI W4 (g0 + 1) (j + 1) f2) :
  PW W4 base g0 Ar cr n vc cl vo ⟨s.op, f1, f2⟩ (j + 1) := by
 obtain ⟨p1, p2, p3, p4⟩ := h
 have q4 := p4.kept hg1 (by intro h; injection h with h; omega)
 exact ⟨blk_grown (blk_grown p1 hg1 (by intro h; injection h with h; omega)) hg2 (by intro h; injection h with h; omega), ⟨R_grown_map (R_grown_map p2.1 p3 hg1) q4 hg2, R_grown_map (R_grown_map p2.2 p3 hg1) q4 hg2⟩, m1.kept hg2 (by intro h; injection h with h; omega), m2⟩
theorem PW.grow {w0 W w2 : World} {base g0 : Nat} {Ar : Option Addr} {cr n : Nat} {vc v2 : Value} {cl cl2 : List Int} {vo : Value} {s : PaS} {j : Nat} (h : PW W base g0 Ar cr n vc cl vo s j) (hg : W.grownBy w2 vc.ownBlock) (h2 : Two w2 base v2 cl2 vo s.op) (hB : Below w0.heap.size w0 w2) (hg0 : w0.heap.size ≤ g0) :
  PW (w2.setCell ⟨g0 + 1 + 1, 1, none⟩ v2) base g0 Ar cr n v2 cl2 vo s j ∧ Below w0.heap.size w0 (w2.setCell ⟨g0 + 1 + 1, 1, none⟩ v2) := by
 obtain ⟨p1, p2, p3, p4⟩ := h
 have hf := FrT.grown p2.1 hg
 have q1 := hf.same p1 (by decide)
 exact ⟨⟨blk_set q1 1 v2, ⟨Kd.R_set h2.1 q1 (by decide) 1 v2, Kd.R_set h2.2 q1 (by decide) 1 v2⟩, map_far (map_fr p3 hf) q1 1 v2, map_far (map_fr p4 hf) q1 1 v2⟩, hB.setCell (p := ⟨g0 + 1 + 1, 1, none⟩) (by simp only; omega) _⟩
theorem PW.opened {W w2 : World} {base g0 : Nat} {Ar : Option Addr} {cr n : Nat} {vc : Value} {cl op2 : List Int} {vo v2 : Value} {s : PaS} {j : Nat} (h : PW W base g0 Ar cr n vc cl vo s j) (hg : W.grownBy w2 vo.ownBlock) (h2 : Two w2 base vc cl v2 op2) : PW w2 base g0 Ar cr n vc cl v2 { s with op := op2 } (j + 1) := by
 obtain ⟨p1, p2, p3, p4⟩ := h
 have hf := FrT.grown p2.2 hg
 exact ⟨hf.same p1 (by decide), h2, (map_fr p3 hf).wide (by omega), (map_fr p4 hf).wide (by omega)⟩
theorem paragraphOf_calls (w : World) (Ar : Option Addr) (cr : Nat) (rs cls : List Int) (hr : Kd.C (Kd.int .i64) w Ar rs.length rs) (hrc : rs.length ≤ cr) (hn : rs.length ≤ 400) (hcl : cls.length = rs.length) (hcs : ∀ i, i < rs.length → impl_RuneBidi.f (rs.getD i 0) = some (cls.getD i 0)) :
  Calls Try.prog 49 #[.slice Ar rs.length cr] w fun e w' => ∃ pb, e = .returned (.pointer (some ⟨pb, 0, none⟩)) ∧ IsPara w' w.heap.size pb Ar cr rs.length cls (paraS cls rs.length).mt (paraS cls rs.length).cd ∧ Below w.heap.size w w' := by
 have HR := az hr
 have HCS := az hcs
 have HCL := az hcl
 have hmk := @run_makeMap Try.prog
 clear hr hcs hcl
 go_enter Try.func49, Try.ntmps49
 go_wp2
 obtain ⟨HS0, HB0⟩ := para_start w Ar cr rs.length _ rfl
 have HS0 := az HS0
 have HB0 := az HB0
 go_loopg [4, 16] rs.length (fun gg s4 s16 wr => ∃ (j : Nat) (vo vc : Value), s16 = .int .i64 j ∧ vo = s4 ∧ j ≤ rs.length ∧ rs.length - j ≤ gg ∧ Aside0 (PW wr w.heap.size w.heap.size Ar cr rs.length vc (cls.take j) vo (paraS cls j) j) ∧ Aside0 (Below w.heap.size w wr))
 case atStart => exact ⟨0, _, _, rfl, rfl, Nat.zero_le _, by omega, HS0, HB0⟩
 case round =>
  clear HS0 HB0 hmk
  obtain ⟨j, vo, vc, rfl, hv, hj, hg, HS, HB⟩ := hrel
  subst hv
  by_cases hlt : j < rs.length
  ·
   have hltz : (j : Int) < (rs.length : Int) := by omega
   obtain ⟨ad, e1, hx⟩ := Kd.at_int (Kd.C_below HR.out HB.out) (j : Int) (by omega) (by omega)
   have HCJ := az (HCS.out j hlt)
   have HK := az (show cls.take (j + 1) = cls.take j ++ [cls.getD j 0] by
    rw [List.take_add_one, List.getD_eq_getElem?_getD, List.getElem?_eq_getElem (by rw [HCL.out]; exact hlt)]; rfl)
   have HSt := az (show paraS cls (j + 1) = paraStep (cls.getD j 0) j (paraS cls j) from rfl)
   have HI := az (inv_para cls j)
   have hol := HI.out.2.1
   subst e1
   rw [Int.toNat_natCast, show rd rs (j : Int) = rs.getD j 0 by simp [rd]] at hx
   generalize rs.getD j 0 = y at hx HCJ
   generalize cls.getD j 0 = c at HCJ HK HSt
   generalize paraS cls j = s at HS HSt HI hol
   obtain ⟨Ao, co, hvo, hlo, hCo⟩ := Kd.R_reads HS.out.2.1.2
   subst hvo
   have HCo := az hCo
   have htl : (cls.take j).length ≤ 400 := by rw [List.length_take]; omega
   have hol9 : s.op.length ≤ 400 := by omega
   clear hCo
   cases ho : opensB c with
   | true =>
    go_wp2_with (first | (go_at_call 75; refine (impl_RuneBidi.calls _ _ _ HCJ.out).mono ?_; rintro e w1 ⟨rfl, hb⟩; have S1 := az (PW.below HS.out hb); have B1 := az (below_then HB.out HB.out.size hb); have hc1 := (blk_cell S1.out.1 1).trans (show _ = some vc from rfl); clear hb) | ((with_reducible refine gate_builtin (b := .append) (xs := #[.tmp 27, .tmp 29]) rfl ?_); at_builtin; refine Kd.R_append (Kd.int .i64) (w0 := w) w.heap.size rfl (.tmp 27) (.tmp 29) 22 3 (.int .i64 0) 8 rfl Try.underlying22 info3 rfl (by decide) (by omega) vc (cls.take j) c [.int .i64 c] (fun k => True ∧ some k ≠ ((.slice Ao s.op.length co) : Value).ownBlock) (fun _ => False) rfl rfl ?aP (fun _ hk => hk.elim) ?aF ?aO ?aB ?aS ?aL ?_; (case aP => rfl); (case aF => exact fun k hk => ⟨trivial, fun e => absurd (blk_lt (Kd.R_typed S1.out.2.1.2 k e.symm).choose_spec) (Nat.not_lt.mpr hk)⟩); (case aO => exact S1.out.2.1.1); (case aB => exact B1.out); (case aS => exact B1.out.size); (case aL => omega); intro v2 w2 ho1 hb1 hg1 hat1; obtain ⟨A2, c2, hv2⟩ := Kd.R_slice ho1; subst hv2; generalize hN2 : (cls.take j ++ [c]).length = N2 at ho1 hat1 ⊢; have G1 := az (PW.grow S1.out hg1 ⟨ho1, Kd.R_after S1.out.2.1.2 hg1 hat1⟩ hb1 (Nat.le_refl _)); have hq1 := FrT.same (FrT.grown S1.out.2.1.1 hg1) S1.out.1 (by decide); have hc2 := (blk_cell hq1 1).trans (show _ = some vc from rfl); have hf2 := blk_frozen hq1 1; clear ho1 hb1 hg1 hat1 hq1 hc1) | ((with_reducible refine gate_store (t := 22) (p := 32) rfl ?_); refine store_event (t := 22) (p := 32) (v := ?vo_w10) (w1 := (w2.setCell ⟨w.heap.size + 1 + 1, 1, none⟩ (.slice A2 N2 c2))) ?hg ?ho ?hn ?hr ?_; (case ho => rfl); (case hg => rfl); (case hn => rfl); (case hr => first | (go_simp; done) | (go_simp; rfl)); intro w10 hw; have S2 : Aside0 (PW w10 w.heap.size w.heap.size _ cr rs.length (.slice A2 N2 c2) (cls.take j ++ [c]) (.slice Ao s.op.length co) s j) := ⟨by rw [hw]; exact G1.out.1⟩; have B2 : Aside0 (Below w.heap.size w w10) := ⟨by rw [hw]; exact G1.out.2⟩; clear hw hc2 hf2 G1) | (go_at_call 63; refine (opensQ c w10 0).mono ?_; rw [ho]; rintro e w11 ⟨rfl, m1, rfl⟩; have S3 := az (PW.below S2.out (pw_below_drewN (Below.refl _ _) m1)); have B3 := az (pw_below_drewN B2.out m1)) | ((with_reducible refine gate_builtin (b := .append) (xs := #[.tmp 39, .tmp 41]) rfl ?_); at_builtin; refine Kd.R_append (Kd.int .i64) (w0 := w) w.heap.size rfl (.tmp 39) (.tmp 41) 22 3 (.int .i64 0) 8 rfl Try.underlying22 info3 rfl (by decide) (by omega) (.slice Ao s.op.length co) s.op (j : Int) [.int .i64 (j : Int)] (fun k => True ∧ some k ≠ ((.slice A2 N2 c2) : Value).ownBlock) (fun _ => False) rfl rfl ?aP (fun _ hk => hk.elim) ?aF ?aO ?aB ?aS ?aL ?_; (case aP => rfl); (case aF => exact fun k hk => ⟨trivial, fun e => absurd (blk_lt (Kd.R_typed S3.out.2.1.1 k e.symm).choose_spec) (Nat.not_lt.mpr hk)⟩); (case aO => exact S3.out.2.1.2); (case aB => exact B3.out); (case aS => exact B3.out.size); (case aL => omega); intro v3 w12 ho2 hb2 hg2 hat2; have E0 := az (PW.opened S3.out hg2 ⟨Kd.R_after S3.out.2.1.1 hg2 hat2, ho2⟩); have E1 := az hb2; clear ho2 hb2 hg2 hat2))
    go_roundg (rs.length - (j + 1))
    case measure => omega
    case rel => exact ⟨j + 1, v3, _, by go_num, rfl, by omega, by omega, ⟨by rw [HSt.out, HK.out, paraStep, if_pos ho]; exact E0.out⟩, E1⟩
   | false =>
    have hol0 : 0 ≤ (s.op.length : Int) := by omega
    by_cases c22 : c = 22
    ·
     by_cases hop : s.op = []
     ·
      have hl0 := az (show (s.op.length : Int) = 0 by rw [hop]; rfl)
      have HOP := az hop
      have d22 : (c == 22) = true := by rw [c22]; rfl
      clear hop c22
      go_wp2_with (first | (go_at_call 75; refine (impl_RuneBidi.calls _ _ _ HCJ.out).mono ?_; rintro e w1 ⟨rfl, hb⟩; have S1 := az (PW.below HS.out hb); have B1 := az (below_then HB.out HB.out.size hb); have hc1 := (blk_cell S1.out.1 1).trans (show _ = some vc from rfl); clear hb) | ((with_reducible refine gate_builtin (b := .append) (xs := #[.tmp 27, .tmp 29]) rfl ?_); at_builtin; refine Kd.R_append (Kd.int .i64) (w0 := w) w.heap.size rfl (.tmp 27) (.tmp 29) 22 3 (.int .i64 0) 8 rfl Try.underlying22 info3 rfl (by decide) (by omega) vc (cls.take j) c [.int .i64 c] (fun k => True ∧ some k ≠ ((.slice Ao s.op.length co) : Value).ownBlock) (fun _ => False) rfl rfl ?aP (fun _ hk => hk.elim) ?aF ?aO ?aB ?aS ?aL ?_; (case aP => rfl); (case aF => exact fun k hk => ⟨trivial, fun e => absurd (blk_lt (Kd.R_typed S1.out.2.1.2 k e.symm).choose_spec) (Nat.not_lt.mpr hk)⟩); (case aO => exact S1.out.2.1.1); (case aB => exact B1.out); (case aS => exact B1.out.size); (case aL => omega); intro v2 w2 ho1 hb1 hg1 hat1; obtain ⟨A2, c2, hv2⟩ := Kd.R_slice ho1; subst hv2; generalize hN2 : (cls.take j ++ [c]).length = N2 at ho1 hat1 ⊢; have G1 := az (PW.grow S1.out hg1 ⟨ho1, Kd.R_after S1.out.2.1.2 hg1 hat1⟩ hb1 (Nat.le_refl _)); have hq1 := FrT.same (FrT.grown S1.out.2.1.1 hg1) S1.out.1 (by decide); have hc2 := (blk_cell hq1 1).trans (show _ = some vc from rfl); have hf2 := blk_frozen hq1 1; clear ho1 hb1 hg1 hat1 hq1 hc1) | ((with_reducible refine gate_store (t := 22) (p := 32) rfl ?_); refine store_event (t := 22) (p := 32) (v := ?vo_w10) (w1 := (w2.setCell ⟨w.heap.size + 1 + 1, 1, none⟩ (.slice A2 N2 c2))) ?hg ?ho ?hn ?hr ?_; (case ho => rfl); (case hg => rfl); (case hn => rfl); (case hr => first | (go_simp; done) | (go_simp; rfl)); intro w10 hw; have S2 : Aside0 (PW w10 w.heap.size w.heap.size _ cr rs.length (.slice A2 N2 c2) (cls.take j ++ [c]) (.slice Ao s.op.length co) s j) := ⟨by rw [hw]; exact G1.out.1⟩; have B2 : Aside0 (Below w.heap.size w w10) := ⟨by rw [hw]; exact G1.out.2⟩; clear hw hc2 hf2 G1) | (go_at_call 63; refine (opensQ c w10 0).mono ?_; rw [ho]; rintro e w11 ⟨rfl, m1, rfl⟩; have S3 := az (PW.below S2.out (pw_below_drewN (Below.refl _ _) m1)); have B3 := az (pw_below_drewN B2.out m1)))
      all_goals first | (exfalso; have hl1 := hl0.out; omega) | skip
      go_roundg (rs.length - (j + 1))
      case measure => omega
      case rel => exact ⟨j + 1, _, _, by go_num, rfl, by omega, by omega, ⟨by rw [HSt.out, HK.out, paraStep, if_neg (by rw [ho]; decide), if_neg (fun h => h.2 HOP.out)]; exact S3.out.more⟩, B3⟩
     ·
      have hlen : 0 < s.op.length := List.length_pos_iff.mpr hop
      have HOP := az hop
      have d22 : (c == 22) = true := by rw [c22]; rfl
      have hqm : s.op.getD (s.op.length - 1) 0 ∈ s.op := by
       rw [List.getD_eq_getElem?_getD, List.getElem?_eq_getElem (by omega), Option.getD_some]
       exact List.getElem_mem _
      obtain ⟨hq0, hq1⟩ := HI.out.1 _ hqm
      have HSt2 := az (show paraS cls (j + 1) = ⟨s.op.take (s.op.length - 1), updI s.mt (s.op.getD (s.op.length - 1) 0) j, updI s.cd j (s.op.getD (s.op.length - 1) 0)⟩ by rw [HSt.out, paraStep, if_neg (by rw [ho]; decide), if_pos ⟨c22, hop⟩])
      clear hop c22 hqm
      go_wp2_with (first | (go_at_call 75; refine (impl_RuneBidi.calls _ _ _ HCJ.out).mono ?_; rintro e w1 ⟨rfl, hb⟩; have S1 := az (PW.below HS.out hb); have B1 := az (below_then HB.out HB.out.size hb); have hc1 := (blk_cell S1.out.1 1).trans (show _ = some vc from rfl); clear hb) | ((with_reducible refine gate_builtin (b := .append) (xs := #[.tmp 27, .tmp 29]) rfl ?_); at_builtin; refine Kd.R_append (Kd.int .i64) (w0 := w) w.heap.size rfl (.tmp 27) (.tmp 29) 22 3 (.int .i64 0) 8 rfl Try.underlying22 info3 rfl (by decide) (by omega) vc (cls.take j) c [.int .i64 c] (fun k => True ∧ some k ≠ ((.slice Ao s.op.length co) : Value).ownBlock) (fun _ => False) rfl rfl ?aP (fun _ hk => hk.elim) ?aF ?aO ?aB ?aS ?aL ?_; (case aP => rfl); (case aF => exact fun k hk => ⟨trivial, fun e => absurd (blk_lt (Kd.R_typed S1.out.2.1.2 k e.symm).choose_spec) (Nat.not_lt.mpr hk)⟩); (case aO => exact S1.out.2.1.1); (case aB => exact B1.out); (case aS => exact B1.out.size); (case aL => omega); intro v2 w2 ho1 hb1 hg1 hat1; obtain ⟨A2, c2, hv2⟩ := Kd.R_slice ho1; subst hv2; generalize hN2 : (cls.take j ++ [c]).length = N2 at ho1 hat1 ⊢; have G1 := az (PW.grow S1.out hg1 ⟨ho1, Kd.R_after S1.out.2.1.2 hg1 hat1⟩ hb1 (Nat.le_refl _)); have hq1 := FrT.same (FrT.grown S1.out.2.1.1 hg1) S1.out.1 (by decide); have hc2 := (blk_cell hq1 1).trans (show _ = some vc from rfl); have hf2 := blk_frozen hq1 1; clear ho1 hb1 hg1 hat1 hq1 hc1) | ((with_reducible refine gate_store (t := 22) (p := 32) rfl ?_); refine store_event (t := 22) (p := 32) (v := ?vo_w10) (w1 := (w2.setCell ⟨w.heap.size + 1 + 1, 1, none⟩ (.slice A2 N2 c2))) ?hg ?ho ?hn ?hr ?_; (case ho => rfl); (case hg => rfl); (case hn => rfl); (case hr => first | (go_simp; done) | (go_simp; rfl)); intro w10 hw; have S2 : Aside0 (PW w10 w.heap.size w.heap.size _ cr rs.length (.slice A2 N2 c2) (cls.take j ++ [c]) (.slice Ao s.op.length co) s j) := ⟨by rw [hw]; exact G1.out.1⟩; have B2 : Aside0 (Below w.heap.size w w10) := ⟨by rw [hw]; exact G1.out.2⟩; clear hw hc2 hf2 G1) | (go_at_call 63; refine (opensQ c w10 0).mono ?_; rw [ho]; rintro e w11 ⟨rfl, m1, rfl⟩; have S3 := az (PW.below S2.out (pw_below_drewN (Below.refl _ _) m1)); have B3 := az (pw_below_drewN B2.out m1); obtain ⟨ad2, e2, hx2⟩ := Kd.at_int (Kd.R_reads' S2.out.2.1.2).2.2 ((s.op.length : Int) - 1) (by omega) (by omega); subst e2; rw [show ((s.op.length : Int) - 1).toNat = s.op.length - 1 by omega] at hx2; rw [show rd s.op ((s.op.length : Int) - 1) = s.op.getD (s.op.length - 1) 0 by rw [show ((s.op.length : Int) - 1) = ((s.op.length - 1 : Nat) : Int) by omega]; simp [rd]] at hx2; generalize s.op.getD (s.op.length - 1) 0 = q at hx2 hq0 hq1 HSt2; have hcm := (blk_cell S2.out.1 2).trans (show _ = some (.map (some w.heap.size)) from rfl); have hcc := (blk_cell S2.out.1 3).trans (show _ = some (.map (some (w.heap.size + 1))) from rfl); have S4 := az (PW.below S2.out (pw_below_drewN (Below.refl _ _) (m1 + 1))); have B4 := az (pw_below_drewN B2.out (m1 + 1)); obtain ⟨x0, st0, W1, W2, en1, en2, en3, en4⟩ := MapI.entry (w := w10.drewN (m1 + 1)) S4.out.2.2.1 (by omega) q j (wf_small (by omega) (by omega)) (wf_small (by omega) (by omega)); obtain ⟨x1, st1, W3, W4, en5, en6, en7, en8⟩ := (MapI.kept S4.out.2.2.2 en4 (by intro h; injection h with h; omega)).entry (by omega) j q (wf_small (by omega) (by omega)) (wf_small (by omega) (by omega)); have E5 := az (PW.closed S4.out en4 en8 en3 en7); have EB := az (pw_below_grown (pw_below_grown B4.out _ B4.out.size en4 (by intro k h; injection h with h; omega)) _ (Nat.le_trans B4.out.size en4.size) en8 (by intro k h; injection h with h; omega)); clear en3 en4 en7 en8))
      go_region
      all_goals go_wp2
      go_roundg (rs.length - (j + 1))
      case measure => omega
      case rel => exact ⟨j + 1, _, _, by go_num, rfl, by omega, by omega, ⟨by rw [HSt2.out, HK.out]; exact ⟨E5.out.1, ⟨E5.out.2.1.1, Kd.R_take E5.out.2.1.2 (Nat.sub_le _ _)⟩, E5.out.2.2.1, E5.out.2.2.2⟩⟩, EB⟩
    ·
     have d22 : (c == 22) = false := beq_eq_false_iff_ne.mpr c22
     go_wp2_with (first | (go_at_call 75; refine (impl_RuneBidi.calls _ _ _ HCJ.out).mono ?_; rintro e w1 ⟨rfl, hb⟩; have S1 := az (PW.below HS.out hb); have B1 := az (below_then HB.out HB.out.size hb); have hc1 := (blk_cell S1.out.1 1).trans (show _ = some vc from rfl); clear hb) | ((with_reducible refine gate_builtin (b := .append) (xs := #[.tmp 27, .tmp 29]) rfl ?_); at_builtin; refine Kd.R_append (Kd.int .i64) (w0 := w) w.heap.size rfl (.tmp 27) (.tmp 29) 22 3 (.int .i64 0) 8 rfl Try.underlying22 info3 rfl (by decide) (by omega) vc (cls.take j) c [.int .i64 c] (fun k => True ∧ some k ≠ ((.slice Ao s.op.length co) : Value).ownBlock) (fun _ => False) rfl rfl ?aP (fun _ hk => hk.elim) ?aF ?aO ?aB ?aS ?aL ?_; (case aP => rfl); (case aF => exact fun k hk => ⟨trivial, fun e => absurd (blk_lt (Kd.R_typed S1.out.2.1.2 k e.symm).choose_spec) (Nat.not_lt.mpr hk)⟩); (case aO => exact S1.out.2.1.1); (case aB => exact B1.out); (case aS => exact B1.out.size); (case aL => omega); intro v2 w2 ho1 hb1 hg1 hat1; obtain ⟨A2, c2, hv2⟩ := Kd.R_slice ho1; subst hv2; generalize hN2 : (cls.take j ++ [c]).length = N2 at ho1 hat1 ⊢; have G1 := az (PW.grow S1.out hg1 ⟨ho1, Kd.R_after S1.out.2.1.2 hg1 hat1⟩ hb1 (Nat.le_refl _)); have hq1 := FrT.same (FrT.grown S1.out.2.1.1 hg1) S1.out.1 (by decide); have hc2 := (blk_cell hq1 1).trans (show _ = some vc from rfl); have hf2 := blk_frozen hq1 1; clear ho1 hb1 hg1 hat1 hq1 hc1) | ((with_reducible refine gate_store (t := 22) (p := 32) rfl ?_); refine store_event (t := 22) (p := 32) (v := ?vo_w10) (w1 := (w2.setCell ⟨w.heap.size + 1 + 1, 1, none⟩ (.slice A2 N2 c2))) ?hg ?ho ?hn ?hr ?_; (case ho => rfl); (case hg => rfl); (case hn => rfl); (case hr => first | (go_simp; done) | (go_simp; rfl)); intro w10 hw; have S2 : Aside0 (PW w10 w.heap.size w.heap.size _ cr rs.length (.slice A2 N2 c2) (cls.take j ++ [c]) (.slice Ao s.op.length co) s j) := ⟨by rw [hw]; exact G1.out.1⟩; have B2 : Aside0 (Below w.heap.size w w10) := ⟨by rw [hw]; exact G1.out.2⟩; clear hw hc2 hf2 G1) | (go_at_call 63; refine (opensQ c w10 0).mono ?_; rw [ho]; rintro e w11 ⟨rfl, m1, rfl⟩; have S3 := az (PW.below S2.out (pw_below_drewN (Below.refl _ _) m1)); have B3 := az (pw_below_drewN B2.out m1)))
     go_roundg (rs.length - (j + 1))
     case measure => omega
     case rel => exact ⟨j + 1, _, _, by go_num, rfl, by omega, by omega, ⟨by rw [HSt.out, HK.out, paraStep, if_neg (by rw [ho]; decide), if_neg (fun h => c22 h.1)]; exact S3.out.more⟩, B3⟩
  ·
   have hltz : ¬ (j : Int) < (rs.length : Int) := by omega
   obtain rfl : j = rs.length := by omega
   go_wp2
   go_ret
   have hcl : cls.take rs.length = cls := by rw [← HCL.out, List.take_length]
   obtain ⟨p1, p2, p3, p4⟩ := HS.out
   rw [hcl] at p2
   exact ⟨_, rfl, ⟨vc, _, _, _, _, p1, Kd.R_mono p2.1 (fun _ _ => trivial), p3, p4, by omega⟩, HB.out⟩
def clsO : List Int → Option (List Int)
 | [] => some []
 | x :: r => (impl_RuneBidi.f x).bind fun c => (clsO r).bind fun cs => some (c :: cs)
theorem clsO_inv : ∀ {l cs : List Int}, clsO l = some cs → cs.length = l.length ∧ ∀ i, i < l.length → impl_RuneBidi.f (l.getD i 0) = some (cs.getD i 0)
 | [], cs, h => by
  obtain rfl := Option.some.inj h
  exact ⟨rfl, fun i hi => absurd hi (by simp)⟩
 | x :: r, cs, h => by
  rw [clsO] at h
  obtain ⟨c, hc, h⟩ := Option.bind_eq_some_iff.mp h
  obtain ⟨ds, hd, h⟩ := Option.bind_eq_some_iff.mp h
  obtain rfl := Option.some.inj h
  obtain ⟨h1, h2⟩ := clsO_inv hd
  refine ⟨by rw [List.length_cons, List.length_cons, h1], fun i hi => ?_⟩
  cases i with
  | zero => exact hc
  | succ i => exact h2 i (by rw [List.length_cons] at hi; omega)
def baseB (a : Int) : Bool := decide (a = 0) || decide (a = 1)
theorem isBase_f (a : Int) : impl_isBase.f a = some (baseB a) := by
 unfold impl_isBase.f baseB
 by_cases h : a = 0
 · simp [h]
 ·
  simp only [h, if_false, decide_false, Bool.false_or]
  rfl
def toldLC (cls : List Int) (base : Int) : List Int × List Int := (toldL cls (paraS cls cls.length).mt base cls.length, toldC cls (paraS cls cls.length).mt base cls.length)
def impl_LevelsTold.f (l0 : List Int) (a1 : Int) : Option (List Int × List Int) := if okV l0 = true ∧ baseB a1 = true then (clsO l0).bind fun cls => some (toldLC cls a1) else some ([], [])
theorem Two.rows {w : World} {base b0 : Nat} {v u : Value} {xs ys : List Int} (h : Two w base v xs u ys) (hb : b0 ≤ base) : Kd.R (Kd.int .i64) 3 w b0 (fun k_ => some k_ ≠ u.ownBlock) v xs ∧ Kd.R (Kd.int .i64) 3 w b0 (fun k_ => some k_ ≠ v.ownBlock) u ys :=
 ⟨Kd.R_mono (Kd.R_lower h.1 hb) (fun _ h => h.2), Kd.R_mono (Kd.R_lower h.2 hb) (fun _ h => h.2)⟩
theorem impl_LevelsTold.calls (A0 : Option Addr) (c0 : Nat) (l0 : List Int) (a1 : Int) (r1 r2 : List Int) (w : World) (hr0 : Kd.C (Kd.int .i64) w A0 l0.length l0) (hc0 : l0.length ≤ c0) (h : impl_LevelsTold.f l0 a1 = some (r1, r2)) :
  Calls Try.prog 18 #[.slice A0 l0.length c0, .int .i64 a1] w fun e w' => ∃ v0_ v1_ : Value, e = .returned (.tuple #[v0_, v1_]) ∧ Kd.R (Kd.int .i64) 3 w' w.heap.size (fun k_ => some k_ ≠ (v1_ : Value).ownBlock) v0_ r1 ∧ Kd.R (Kd.int .i64) 3 w' w.heap.size (fun k_ => some k_ ≠ (v0_ : Value).ownBlock) v1_ r2 ∧ Below w.heap.size w w' := by
 have HR := az hr0
 have HC := az hc0
 clear hr0 hc0
 unfold impl_LevelsTold.f at h
 by_cases hok : okV l0 = true
 case neg =>
  rw [if_neg (fun h => hok h.1)] at h
  obtain ⟨rfl, rfl⟩ := Prod.mk.inj (Option.some.inj h)
  have HOK := az (show impl_lettersOk.f l0 = some false by rw [impl_lettersOk.f]; simpa using hok)
  clear hok h
  go_enter Try.func18, Try.ntmps18
  go_wp2_with (go_at_call 47; refine (impl_lettersOk.calls _ _ l0 false _ HR.out HC.out HOK.out).mono ?_; rintro e w1 ⟨rfl, hb1⟩; have HB1 := az hb1; clear hb1)
  go_ret2
  exact ⟨_, _, rfl, Kd.R_nil _ _ _ _ _, Kd.R_nil _ _ _ _ _, HB1.out⟩
 case pos =>
 have HOK := az (show impl_lettersOk.f l0 = some true by rw [impl_lettersOk.f, hok])
 by_cases hbs : baseB a1 = true
 case neg =>
  rw [if_neg (fun h => hbs h.2)] at h
  obtain ⟨rfl, rfl⟩ := Prod.mk.inj (Option.some.inj h)
  have HSD := az (show impl_isBase.f a1 = some false by rw [isBase_f]; simpa using hbs)
  clear hok hbs h
  go_enter Try.func18, Try.ntmps18
  go_wp2_with (first
   | (go_at_call 47; refine (impl_lettersOk.calls _ _ l0 true _ HR.out HC.out HOK.out).mono ?_; rintro e w1 ⟨rfl, hb1⟩; have HB1 := az hb1; clear hb1)
   | (go_at_call 48; refine (impl_isBase.calls a1 false _ HSD.out).mono ?_; rintro e w2 ⟨rfl, ⟨nd, rfl⟩⟩))
  go_ret2
  exact ⟨_, _, rfl, Kd.R_nil _ _ _ _ _, Kd.R_nil _ _ _ _ _, pw_below_drewN HB1.out _⟩
 case pos =>
 have HSD := az (show impl_isBase.f a1 = some true by rw [isBase_f, hbs])
 rw [if_pos ⟨hok, hbs⟩] at h
 obtain ⟨cls, hcls, h⟩ := Option.bind_eq_some_iff.mp h
 obtain ⟨rfl, rfl⟩ := Prod.mk.inj (Option.some.inj h)
 obtain ⟨hcl, hcs⟩ := clsO_inv hcls
 have hn80 : l0.length ≤ 80 := by
  unfold okV at hok
  rw [Bool.and_eq_true] at hok
  exact of_decide_eq_true hok.1
 have hb01 : 0 ≤ a1 ∧ a1 ≤ 100 := by
  unfold baseB at hbs
  rw [Bool.or_eq_true, decide_eq_true_eq, decide_eq_true_eq] at hbs
  omega
 have HCL := az hcl
 have HCS := az hcs
 have HN := az hn80
 have HB01 := az hb01
 have HMT := az (fun k m hk => (inv_para cls cls.length).2.2 k m hk)
 clear hok hbs h hcls hcl hcs hn80 hb01
 go_enter Try.func18, Try.ntmps18
 go_wp2_with (first
  | (go_at_call 47; refine (impl_lettersOk.calls _ _ l0 true _ HR.out HC.out HOK.out).mono ?_; rintro e w1 ⟨rfl, hb1⟩; have HB1 := az hb1; clear hb1)
  | (go_at_call 48; refine (impl_isBase.calls a1 true _ HSD.out).mono ?_; rintro e w2 ⟨rfl, ⟨nd, rfl⟩⟩)
  | (go_at_call 49; refine (paragraphOf_calls _ A0 c0 l0 cls (Kd.C_below HR.out (pw_below_drewN HB1.out _)) HC.out (by have := HN.out; omega) HCL.out HCS.out).mono ?_; rintro e w3 ⟨pb, rfl, hp3, hb3⟩; have HP3 := az hp3; have HB3 := az (below_then (pw_below_drewN HB1.out nd) (pw_below_drewN HB1.out nd).size hb3); clear hp3 hb3)
  | (go_at_call 50; refine (told_calls _ _ pb A0 c0 cls _ _ a1 (by rw [HCL.out]; exact HP3.out) (by have := HN.out; have := HCL.out; omega) HB01.out.1 HB01.out.2 (by have := HMT.out; rw [HCL.out] at this; exact fun k m h => by rw [HCL.out]; exact this k m h)).mono ?_; rintro e w4 ⟨v, u, rfl, ht4, hb4⟩; have HT4 := az ht4; have HB4 := az (below_then HB3.out HB3.out.size hb4); clear ht4 hb4))
 go_ret2
 have hrw := HT4.out.rows HB3.out.size
 exact ⟨v, u, rfl, by rw [HCL.out] at hrw ⊢; exact hrw.1, by rw [HCL.out] at hrw ⊢; exact hrw.2, HB4.out⟩
def laws_wcIn.f (a0 : Int) (a1 : Int) (a2 : Int) : Option (Bool) := if a0 ≥ a1 then (some (decide (a0 ≤ a2))) else (some false)
theorem laws_wcIn.calls (a0 : Int) (a1 : Int) (a2 : Int) (r : Bool) (w : World) (h : laws_wcIn.f a0 a1 a2 = some r) :
  Calls Try.prog 21 #[.int .i64 a0, .int .i64 a1, .int .i64 a2] w fun e w' => e = .returned (.bool r) ∧ Drawn0 w w' := by
 have H : (if a0 ≥ a1 then (some (decide (a0 ≤ a2))) else (some false)) = some r := h
 clear h
 by_cases c4 : a0 ≥ a1
 ·
  rw [if_pos c4] at H
  have c4b0 : decide (a1 ≤ a0) = true := decide_eq_true c4
  clear c4
  obtain rfl := Option.some.inj H
  go_enter Try.func21, Try.ntmps21
  go_wp2
  go_ret
  exact ⟨by first | rfl | (simp; done) | (simp [*]; done), by repeat (first | exact Drawn0.refl _ | apply Drawn0.step)⟩
 ·
  rw [if_neg c4] at H
  have c4b0 : decide (a1 ≤ a0) = false := decide_eq_false c4
  clear c4
  obtain rfl := Option.some.inj H
  go_enter Try.func21, Try.ntmps21
  go_wp2
  go_ret
  exact ⟨by first | rfl | (simp; done) | (simp [*]; done), by repeat (first | exact Drawn0.refl _ | apply Drawn0.step)⟩
def spec_l1In.f (a0 : Int) (a1 : Int) (a2 : Int) : Option (Bool) := if a0 ≥ a1 then (some (decide (a0 ≤ a2))) else (some false)
theorem spec_l1In.calls (a0 : Int) (a1 : Int) (a2 : Int) (r : Bool) (w : World) (h : spec_l1In.f a0 a1 a2 = some r) :
  Calls Try.prog 53 #[.int .i64 a0, .int .i64 a1, .int .i64 a2] w fun e w' => e = .returned (.bool r) ∧ Drawn0 w w' := by
 have H : (if a0 ≥ a1 then (some (decide (a0 ≤ a2))) else (some false)) = some r := h
 clear h
 by_cases c4 : a0 ≥ a1
 ·
  rw [if_pos c4] at H
  have c4b0 : decide (a1 ≤ a0) = true := decide_eq_true c4
  clear c4
  obtain rfl := Option.some.inj H
  go_enter Try.func53, Try.ntmps53
  go_wp2
  go_ret
  exact ⟨by first | rfl | (simp; done) | (simp [*]; done), by repeat (first | exact Drawn0.refl _ | apply Drawn0.step)⟩
 ·
  rw [if_neg c4] at H
  have c4b0 : decide (a1 ≤ a0) = false := decide_eq_false c4
  clear c4
  obtain rfl := Option.some.inj H
  go_enter Try.func53, Try.ntmps53
  go_wp2
  go_ret
  exact ⟨by first | rfl | (simp; done) | (simp [*]; done), by repeat (first | exact Drawn0.refl _ | apply Drawn0.step)⟩
def spec_l1Moves.l0 : Nat → Int → List Int → Int → Option (Int)
 | 0, _, _, _ => none
 | k + 1, x0, x3, x4 => if x4 < (x3.length : Int) then (if 0 ≤ x4 then (if (rd x3 x4) = x0 then (some (wrap64 (14 + x4))) else (spec_l1Moves.l0 k x0 x3 (wrap64 (x4 + 1)))) else (none)) else (some 13)
def spec_l1Moves.f (k : Nat) (a0 : Int) : Option (Int) := spec_l1Moves.l0 k a0 (([8234, 8235, 8236, 8237, 8238, 8294, 8295, 8296, 8297] : List Int)) 0
theorem spec_l1Moves.mono_l : ∀ k, (∀ y0 y1 y2, LeO (spec_l1Moves.l0 k y0 y1 y2) (spec_l1Moves.l0 (k + 1) y0 y1 y2))
 | 0 => fun _ _ _ r h => by simp [spec_l1Moves.l0] at h
 | k + 1 => by
  have ih0 := spec_l1Moves.mono_l k
  ·
   intro y0 y1 y2; unfold spec_l1Moves.l0
   repeat' first
   | (with_reducible exact ih0 _ _ _)
   | (with_reducible exact LeO.refl _)
   | (with_reducible exact LeO.none _)
   | (with_reducible refine LeO.ite ?_ ?_)
   | (with_reducible refine LeO.bind ?_ (fun _ => ?_))
   | exact ih0 _ _ _
   | exact LeO.none _
   | refine LeO.ite ?_ ?_
   | refine LeO.bind ?_ (fun _ => ?_)
theorem spec_l1Moves.mono : ∀ a0 k, LeO (spec_l1Moves.f k a0) (spec_l1Moves.f (k + 1) a0) := by
 intro a0 k; have ih0 := spec_l1Moves.mono_l k; unfold spec_l1Moves.f
 repeat' first
   | (with_reducible exact ih0 _ _ _)
   | (with_reducible exact LeO.refl _)
   | (with_reducible exact LeO.none _)
   | (with_reducible refine LeO.ite ?_ ?_)
   | (with_reducible refine LeO.bind ?_ (fun _ => ?_))
   | exact ih0 _ _ _
   | exact LeO.none _
   | refine LeO.ite ?_ ?_
   | refine LeO.bind ?_ (fun _ => ?_)
theorem spec_l1Moves.calls (k : Nat) (a0 : Int) (r : Int) (w : World) (h : spec_l1Moves.f k a0 = some r) :
  Calls Try.prog 80 #[.int .i64 a0] w fun e w' => e = .returned (.int .i64 r) ∧ Below w.heap.size w w' := by
 have HB := az (Below.refl w.heap.size w); have H : (spec_l1Moves.l0 k a0 (([8234, 8235, 8236, 8237, 8238, 8294, 8295, 8296, 8297] : List Int)) 0) = some r := h; clear h; obtain ⟨y297, hy297⟩ : ∃ y_ : List Int, y_ = (([8234, 8235, 8236, 8237, 8238, 8294, 8295, 8296, 8297] : List Int)) := ⟨_, rfl⟩; replace H : (spec_l1Moves.l0 k a0 y297 0) = some r := by first | (rw [hy297]; with_reducible exact H) | (have H2_ := (Option.bind_some _ _).symm.trans H; rw [hy297]; with_reducible exact H2_) | (have H2_ := (Option.bind_some _ _).symm.trans H; with_reducible exact H2_) | with_reducible exact H | (rw [hy297]; exact H) | exact H
 have Ny297 := az hy297; clear hy297; have H' := az H; clear H; go_enter Try.func80, Try.ntmps80; go_wp2_with (first | ((with_reducible refine gate_dst (N := 5) rfl ?_); refine Kd.R_lit (Kd.int .i64) _ 3 ?hg (N := 5) ?hd (xs := ([8234, 8235, 8236, 8237, 8238, 8294, 8295, 8296, 8297] : List Int)) (inner := [.int .i64 8234, .int .i64 8235, .int .i64 8236, .int .i64 8237, .int .i64 8238, .int .i64 8294, .int .i64 8295, .int .i64 8296, .int .i64 8297]) (ok := fun _ => True) (okp := fun _ => True) ?hr ?hp (fun _ hk => hk) trivial (Below.refl _ _) (Nat.le_refl _) (by simp) ?_; (case hd => rfl); (case hg => rfl); (case hr => first | (go_simp; done) | (go_simp; rfl)); (case hp => exact (Reps.one (show Kd.M (Kd.int .i64) _ _ _ 8234 [.int .i64 8234] from rfl) (Reps.one (show Kd.M (Kd.int .i64) _ _ _ 8235 [.int .i64 8235] from rfl) (Reps.one (show Kd.M (Kd.int .i64) _ _ _ 8236 [.int .i64 8236] from rfl) (Reps.one (show Kd.M (Kd.int .i64) _ _ _ 8237 [.int .i64 8237] from rfl) (Reps.one (show Kd.M (Kd.int .i64) _ _ _ 8238 [.int .i64 8238] from rfl) (Reps.one (show Kd.M (Kd.int .i64) _ _ _ 8294 [.int .i64 8294] from rfl) (Reps.one (show Kd.M (Kd.int .i64) _ _ _ 8295 [.int .i64 8295] from rfl) (Reps.one (show Kd.M (Kd.int .i64) _ _ _ 8296 [.int .i64 8296] from rfl) (Reps.one (show Kd.M (Kd.int .i64) _ _ _ 8297 [.int .i64 8297] from rfl) (Reps.none _ _))))))))))); intro v298 w2 ho3 hb hg_ hnew_; clear hg_ hnew_; (first | rw [← Ny297.out] at ho3 | (simp only [Int.reduceToNat] at ho3; rw [← Ny297.out] at ho3)); have n0_ := az (Kd.R_lower ho3 (below_size (by repeat (first | (with_reducible first | exact HB.out | apply below_alloc | apply pw_below_drewN | apply below_drew1) | exact HB.out)))); have n1_ := az (below_step (by repeat (first | (with_reducible first | exact HB.out | apply below_alloc | apply pw_below_drewN | apply below_drew1) | exact HB.out)) hb); clear HB; have HO299 := n0_; have HB := n1_; clear n0_ n1_; clear hb ho3)); go_loopg [4] k (fun kq v4 w' => ∃ (x4_1 : Int), v4 = .int .i64 x4_1 ∧ Aside0 (spec_l1Moves.l0 kq a0 y297 x4_1 = some r) ∧ Aside0 (kq ≤ k) ∧ Aside0 (Kd.R (Kd.int .i64) 3 w' w.heap.size (fun _ => True) v298 y297) ∧ Aside0 (Below w.heap.size w w'))
 case atStart => exact ⟨(0), (by first | rfl | (simp; done) | (simp [*]; done)), H', ⟨Nat.le_refl _⟩, ⟨by (with_reducible repeat (first | apply Kd.R_alloc | apply Kd.R_drewN | apply Kd.R_drew)); exact HO299.out⟩, ⟨by repeat (first | (with_reducible first | exact HB.out | apply below_alloc | apply pw_below_drewN | apply below_drew1) | exact HB.out)⟩⟩
 case round =>
  clear H'; (try clear p2); obtain ⟨x4_1, rfl, HA, HK1, HO_3, HB⟩ := hrel
  cases gk with
  | zero => exact absurd HA.out (by simp [spec_l1Moves.l0])
  | succ k1 =>
   have H := HA.out; clear HA; simp only [spec_l1Moves.l0] at H; by_cases c4 : x4_1 < (y297.length : Int)
   ·
    rw [if_pos c4] at H; have c4b0 : decide (x4_1 < (y297.length : Int)) = true := decide_eq_true c4; clear c4; by_cases c5 : 0 ≤ x4_1
    ·
     rw [if_pos c5] at H; have c5b0 : decide (0 ≤ x4_1) = true := decide_eq_true c5; clear c5; by_cases c6 : (rd y297 x4_1) = a0
     ·
      rw [if_pos c6] at H; have c6b0 : ((rd y297 x4_1) == a0) = true := beq_iff_eq.mpr c6; have c6b1 : ((rd y297 x4_1) != a0) = false := bne_eq_false_iff_eq.mpr c6; clear c6; obtain rfl := Option.some.inj H; obtain ⟨Ao7, co7, eo7⟩ := Kd.R_slice HO_3.out; subst eo7; have p300 : 0 ≤ (x4_1 : Int) := of_decide_eq_true (by assumption); have q300 : x4_1 < (y297.length : Int) := of_decide_eq_true (by assumption); obtain ⟨ad300, e300, hx300_0⟩ := Kd.at_int (Kd.R_reads' HO_3.out).2.2 x4_1 p300 q300
      cases e300
      replace p300 := eq_true p300; replace q300 := eq_true q300; go_wp2; go_ret; exact ⟨by first | rfl | (simp [errW_none, errW_some] <;> rfl) | (simp [*, errW_none, errW_some] <;> rfl), by repeat (first | (with_reducible first | exact HB.out | apply below_alloc | apply pw_below_drewN | apply below_drew1) | exact HB.out)⟩
     ·
      rw [if_neg c6] at H; have c6b0 : ((rd y297 x4_1) == a0) = false := beq_eq_false_iff_ne.mpr c6; have c6b1 : ((rd y297 x4_1) != a0) = true := bne_iff_ne.mpr c6; have H' := az H; clear H; obtain ⟨Ao8, co8, eo8⟩ := Kd.R_slice HO_3.out; subst eo8; have p300 : 0 ≤ (x4_1 : Int) := of_decide_eq_true (by assumption); have q300 : x4_1 < (y297.length : Int) := of_decide_eq_true (by assumption); obtain ⟨ad300, e300, hx300_0⟩ := Kd.at_int (Kd.R_reads' HO_3.out).2.2 x4_1 p300 q300
      cases e300
      replace p300 := eq_true p300; replace q300 := eq_true q300; go_wp2; go_roundg k1
      case measure => have := HK1.out; omega
      case rel => exact ⟨(wrap64 (x4_1 + 1)), (by first | rfl | (simp; done) | (simp [*]; done)), H', ⟨by have := HK1.out; omega⟩, ⟨by (with_reducible repeat (first | apply Kd.R_alloc | apply Kd.R_drewN | apply Kd.R_drew)); exact HO_3.out⟩, ⟨by repeat (first | (with_reducible first | exact HB.out | apply below_alloc | apply pw_below_drewN | apply below_drew1) | exact HB.out)⟩⟩
    ·
     rw [if_neg c5] at H; exact absurd H (by simp)
   ·
    rw [if_neg c4] at H; have c4b0 : decide (x4_1 < (y297.length : Int)) = false := decide_eq_false c4; clear c4; obtain rfl := Option.some.inj H; obtain ⟨Ao9, co9, eo9⟩ := Kd.R_slice HO_3.out; subst eo9; go_wp2; go_ret; exact ⟨by first | rfl | (simp [errW_none, errW_some] <;> rfl) | (simp [*, errW_none, errW_some] <;> rfl), by repeat (first | (with_reducible first | exact HB.out | apply below_alloc | apply pw_below_drewN | apply below_drew1) | exact HB.out)⟩
mutual
def spec_l1Signs.j0 : Nat → Int → Bool → Option (Int)
 | 0, _, _ => none
 | k + 1, x0, x3 => if x3 = true then (some 5) else ((spec_l1In.f x0 35 37).bind fun t301 => (if t301 = true then (some 6) else (if x0 = 44 then (spec_l1Signs.j1 k x0 true) else (if x0 = 46 then (spec_l1Signs.j1 k x0 true) else (if x0 = 47 then (spec_l1Signs.j1 k x0 true) else (spec_l1Signs.j1 k x0 (x0 == 58)))))))
def spec_l1Signs.j1 : Nat → Int → Bool → Option (Int)
 | 0, _, _ => none
 | k + 1, x0, x13 => if x13 = true then (some 8) else ((spec_l1In.f x0 768 879).bind fun t302 => (if t302 = true then (some 9) else (if x0 = 8203 then (spec_l1Signs.j2 k x0 true) else (if x0 = 8205 then (spec_l1Signs.j2 k x0 true) else (spec_l1Signs.j2 k x0 (x0 == 173))))))
def spec_l1Signs.j2 : Nat → Int → Bool → Option (Int)
 | 0, _, _ => none
 | k + 1, x0, x31 => if x31 = true then (some 10) else (if x0 = 9 then (some 11) else (if x0 = 32 then (some 12) else ((spec_l1Moves.f k x0).bind fun t303 => (some t303))))
end
def spec_l1Signs.f (k : Nat) (a0 : Int) : Option (Int) := if a0 = 43 then (spec_l1Signs.j0 k a0 true) else (spec_l1Signs.j0 k a0 (a0 == 45))
theorem spec_l1Signs.mono_l : ∀ k, (∀ y0 y1, LeO (spec_l1Signs.j0 k y0 y1) (spec_l1Signs.j0 (k + 1) y0 y1)) ∧ (∀ y0 y1, LeO (spec_l1Signs.j1 k y0 y1) (spec_l1Signs.j1 (k + 1) y0 y1)) ∧ (∀ y0 y1, LeO (spec_l1Signs.j2 k y0 y1) (spec_l1Signs.j2 (k + 1) y0 y1))
 | 0 => ⟨fun _ _ r h => by simp [spec_l1Signs.j0] at h, fun _ _ r h => by simp [spec_l1Signs.j1] at h, fun _ _ r h => by simp [spec_l1Signs.j2] at h⟩
 | k + 1 => by
  obtain ⟨ih0, ih1, ih2⟩ := spec_l1Signs.mono_l k; refine ⟨?_, ?_, ?_⟩
  ·
   intro y0 y1; unfold spec_l1Signs.j0
   repeat' first
   | (with_reducible exact ih0 _ _)
   | (with_reducible exact ih1 _ _)
   | (with_reducible exact ih2 _ _)
   | (with_reducible exact spec_l1Moves.mono _ _)
   | (with_reducible exact LeO.refl _)
   | (with_reducible exact LeO.none _)
   | (with_reducible refine LeO.ite ?_ ?_)
   | (with_reducible refine LeO.bind ?_ (fun _ => ?_))
   | exact ih0 _ _
   | exact ih1 _ _
   | exact ih2 _ _
   | exact spec_l1Moves.mono _ _
   | exact LeO.none _
   | refine LeO.ite ?_ ?_
   | refine LeO.bind ?_ (fun _ => ?_)
  ·
   intro y0 y1; unfold spec_l1Signs.j1
   repeat' first
   | (with_reducible exact ih0 _ _)
   | (with_reducible exact ih1 _ _)
   | (with_reducible exact ih2 _ _)
   | (with_reducible exact spec_l1Moves.mono _ _)
   | (with_reducible exact LeO.refl _)
   | (with_reducible exact LeO.none _)
   | (with_reducible refine LeO.ite ?_ ?_)
   | (with_reducible refine LeO.bind ?_ (fun _ => ?_))
   | exact ih0 _ _
   | exact ih1 _ _
   | exact ih2 _ _
   | exact spec_l1Moves.mono _ _
   | exact LeO.none _
   | refine LeO.ite ?_ ?_
   | refine LeO.bind ?_ (fun _ => ?_)
  ·
   intro y0 y1; unfold spec_l1Signs.j2
   repeat' first
   | (with_reducible exact ih0 _ _)
   | (with_reducible exact ih1 _ _)
   | (with_reducible exact ih2 _ _)
   | (with_reducible exact spec_l1Moves.mono _ _)
   | (with_reducible exact LeO.refl _)
   | (with_reducible exact LeO.none _)
   | (with_reducible refine LeO.ite ?_ ?_)
   | (with_reducible refine LeO.bind ?_ (fun _ => ?_))
   | exact ih0 _ _
   | exact ih1 _ _
   | exact ih2 _ _
   | exact spec_l1Moves.mono _ _
   | exact LeO.none _
   | refine LeO.ite ?_ ?_
   | refine LeO.bind ?_ (fun _ => ?_)
theorem spec_l1Signs.mono : ∀ a0 k, LeO (spec_l1Signs.f k a0) (spec_l1Signs.f (k + 1) a0) := by
 intro a0 k; obtain ⟨ih0, ih1, ih2⟩ := spec_l1Signs.mono_l k; unfold spec_l1Signs.f
 repeat' first
   | (with_reducible exact ih0 _ _)
   | (with_reducible exact ih1 _ _)
   | (with_reducible exact ih2 _ _)
   | (with_reducible exact spec_l1Moves.mono _ _)
   | (with_reducible exact LeO.refl _)
   | (with_reducible exact LeO.none _)
   | (with_reducible refine LeO.ite ?_ ?_)
   | (with_reducible refine LeO.bind ?_ (fun _ => ?_))
   | exact ih0 _ _
   | exact ih1 _ _
   | exact ih2 _ _
   | exact spec_l1Moves.mono _ _
   | exact LeO.none _
   | refine LeO.ite ?_ ?_
   | refine LeO.bind ?_ (fun _ => ?_)
theorem spec_l1Signs.calls (k : Nat) (a0 : Int) (r : Int) (w : World) (h : spec_l1Signs.f k a0 = some r) :
  Calls Try.prog 54 #[.int .i64 a0] w fun e w' => e = .returned (.int .i64 r) ∧ Below w.heap.size w w' := by
 have HB := az (Below.refl w.heap.size w); have H : (if a0 = 43 then (spec_l1Signs.j0 k a0 true) else (spec_l1Signs.j0 k a0 (a0 == 45))) = some r := h; clear h; have HC2 := az H; clear H; go_enter Try.func54, Try.ntmps54; go_upto_region 1 with (fail)
 go_cut [3] (fun v3 wc => ∃ (kq : Nat) (x3_1 : Bool), v3 = .bool x3_1 ∧ Aside0 (spec_l1Signs.j0 kq a0 x3_1 = some r) ∧ Aside0 (kq ≤ k) ∧ Aside0 (Below w.heap.size w wc))
 case first =>
  have H := HC2.out; clear HC2; by_cases c3 : a0 = 43
  ·
   rw [if_pos c3] at H; have c3b0 : (a0 == 43) = true := beq_iff_eq.mpr c3; have c3b1 : (a0 != 43) = false := bne_eq_false_iff_eq.mpr c3; clear c3; (first | rw [c3b0] | (simp only [i64_w, i32_w]; rw [c3b0]) | skip); have H' := az H; clear H; go_wp2; go_meet
   case rel => exact ⟨_, (true), (by first | rfl | (simp; done) | (simp [*]; done)), H', ⟨by first | omega | exact Nat.le_refl _⟩, ⟨by repeat (first | (with_reducible first | exact HB.out | apply below_alloc | apply pw_below_drewN | apply below_drew1) | exact HB.out)⟩⟩
  ·
   rw [if_neg c3] at H; have c3b0 : (a0 == 43) = false := beq_eq_false_iff_ne.mpr c3; have c3b1 : (a0 != 43) = true := bne_iff_ne.mpr c3; (first | rw [c3b0] | (simp only [i64_w, i32_w]; rw [c3b0]) | skip); have H' := az H; clear H; go_wp2; go_meet
   case rel => exact ⟨_, ((a0 == 45)), (by first | rfl | (simp; done) | (simp [*]; done)), H', ⟨by first | omega | exact Nat.le_refl _⟩, ⟨by repeat (first | (with_reducible first | exact HB.out | apply below_alloc | apply pw_below_drewN | apply below_drew1) | exact HB.out)⟩⟩
 case rest =>
  clear HC2; (try clear p2); (try clear c3); (try clear c3b0); (try clear c3b1); obtain ⟨kq, x3_1, rfl, HA, HJ1, HB⟩ := hcut
  cases kq with
  | zero => exact absurd HA.out (by simp [spec_l1Signs.j0])
  | succ kj1 =>
   have H := HA.out; clear HA; simp only [spec_l1Signs.j0] at H; by_cases c4 : x3_1 = true
   ·
    subst c4; have H1 : (some 5) = some r := by rw [if_pos rfl] at H; exact H
    clear H; have H := H1; clear H1; obtain rfl := Option.some.inj H; go_wp2; go_ret; exact ⟨by first | rfl | (simp [errW_none, errW_some] <;> rfl) | (simp [*, errW_none, errW_some] <;> rfl), by repeat (first | (with_reducible first | exact HB.out | apply below_alloc | apply pw_below_drewN | apply below_drew1) | exact HB.out)⟩
   ·
    replace c4 := Bool.eq_false_iff.mpr c4; subst c4; have H1 : ((spec_l1In.f a0 35 37).bind fun t301 => (if t301 = true then (some 6) else (if a0 = 44 then (spec_l1Signs.j1 kj1 a0 true) else (if a0 = 46 then (spec_l1Signs.j1 kj1 a0 true) else (if a0 = 47 then (spec_l1Signs.j1 kj1 a0 true) else (spec_l1Signs.j1 kj1 a0 (a0 == 58))))))) = some r := by rw [if_neg (show ¬ (false = true) by decide)] at H; exact H
    clear H; have H := H1; clear H1; replace H := Option.bind_eq_some_iff.mp H; obtain ⟨t301, A50, H⟩ := H; replace H : (if t301 = true then (some 6) else (if a0 = 44 then (spec_l1Signs.j1 kj1 a0 true) else (if a0 = 46 then (spec_l1Signs.j1 kj1 a0 true) else (if a0 = 47 then (spec_l1Signs.j1 kj1 a0 true) else (spec_l1Signs.j1 kj1 a0 (a0 == 58)))))) = some r := H; have A5 := az A50; clear A50; by_cases c6 : t301 = true
    ·
     subst c6; have H1 : (some 6) = some r := by rw [if_pos rfl] at H; exact H
     clear H; have H := H1; clear H1; obtain rfl := Option.some.inj H; go_wp2_with (first | ((with_reducible refine gate_callee (f := 53) rfl ?_); refine goesL_ (some 12) rfl rfl Try.func53 (by kernel_rfl) rfl #[.int .i64 a0, .int .i64 35, .int .i64 37] rfl (by (try simp only [List.map_toArray, List.map_cons, List.map_nil]); first | done | rfl) ?_; (with_reducible refine (spec_l1In.calls a0 35 37 true _ A5.out).mono ?_); rintro e w' ⟨rfl, ⟨nd, rfl⟩⟩; refine ⟨_, rfl, ?_⟩)); go_ret; exact ⟨by first | rfl | (simp [errW_none, errW_some] <;> rfl) | (simp [*, errW_none, errW_some] <;> rfl), by repeat (first | (with_reducible first | exact HB.out | apply below_alloc | apply pw_below_drewN | apply below_drew1) | exact HB.out)⟩
    ·
     replace c6 := Bool.eq_false_iff.mpr c6; subst c6; have H1 : (if a0 = 44 then (spec_l1Signs.j1 kj1 a0 true) else (if a0 = 46 then (spec_l1Signs.j1 kj1 a0 true) else (if a0 = 47 then (spec_l1Signs.j1 kj1 a0 true) else (spec_l1Signs.j1 kj1 a0 (a0 == 58))))) = some r := by rw [if_neg (show ¬ (false = true) by decide)] at H; exact H
     clear H; have H := H1; clear H1; have HC7 := az H; clear H; go_upto_region 5 with (first | ((with_reducible refine gate_callee (f := 53) rfl ?_); refine goesL_ (some 12) rfl rfl Try.func53 (by kernel_rfl) rfl #[.int .i64 a0, .int .i64 35, .int .i64 37] rfl (by (try simp only [List.map_toArray, List.map_cons, List.map_nil]); first | done | rfl) ?_; (with_reducible refine (spec_l1In.calls a0 35 37 false _ A5.out).mono ?_); rintro e w' ⟨rfl, ⟨nd, rfl⟩⟩; refine ⟨_, rfl, ?_⟩))
     (try simp only [Act.put, List.setIfInBounds_toArray, List.set_cons_zero, List.set_cons_succ]); go_cut [13] (fun v13 wc => ∃ (kq : Nat) (x13_6 : Bool), v13 = .bool x13_6 ∧ Aside0 (spec_l1Signs.j1 kq a0 x13_6 = some r) ∧ Aside0 (kq ≤ kj1) ∧ Aside0 (Below w.heap.size w wc))
     case first =>
      have H := HC7.out; clear HC7; by_cases c8 : a0 = 44
      ·
       rw [if_pos c8] at H; have c8b0 : (a0 == 44) = true := beq_iff_eq.mpr c8; have c8b1 : (a0 != 44) = false := bne_eq_false_iff_eq.mpr c8; clear c8; (first | rw [c8b0] | (simp only [i64_w, i32_w]; rw [c8b0]) | skip); have H' := az H; clear H; go_wp2; go_meet
       case rel => exact ⟨_, (true), (by first | rfl | (simp; done) | (simp [*]; done)), H', ⟨by have := HJ1.out; first | omega | exact Nat.le_refl _⟩, ⟨by repeat (first | (with_reducible first | exact HB.out | apply below_alloc | apply pw_below_drewN | apply below_drew1) | exact HB.out)⟩⟩
      ·
       rw [if_neg c8] at H; have c8b0 : (a0 == 44) = false := beq_eq_false_iff_ne.mpr c8; have c8b1 : (a0 != 44) = true := bne_iff_ne.mpr c8; (first | rw [c8b0] | (simp only [i64_w, i32_w]; rw [c8b0]) | skip); by_cases c9 : a0 = 46
       ·
        rw [if_pos c9] at H; have c9b0 : (a0 == 46) = true := beq_iff_eq.mpr c9; have c9b1 : (a0 != 46) = false := bne_eq_false_iff_eq.mpr c9; clear c9; have H' := az H; clear H; go_wp2; go_meet
        case rel => exact ⟨_, (true), (by first | rfl | (simp; done) | (simp [*]; done)), H', ⟨by have := HJ1.out; first | omega | exact Nat.le_refl _⟩, ⟨by repeat (first | (with_reducible first | exact HB.out | apply below_alloc | apply pw_below_drewN | apply below_drew1) | exact HB.out)⟩⟩
       ·
        rw [if_neg c9] at H; have c9b0 : (a0 == 46) = false := beq_eq_false_iff_ne.mpr c9; have c9b1 : (a0 != 46) = true := bne_iff_ne.mpr c9; by_cases c10 : a0 = 47
        ·
         rw [if_pos c10] at H; have c10b0 : (a0 == 47) = true := beq_iff_eq.mpr c10; have c10b1 : (a0 != 47) = false := bne_eq_false_iff_eq.mpr c10; clear c10; have H' := az H; clear H; go_wp2; go_meet
         case rel => exact ⟨_, (true), (by first | rfl | (simp; done) | (simp [*]; done)), H', ⟨by have := HJ1.out; first | omega | exact Nat.le_refl _⟩, ⟨by repeat (first | (with_reducible first | exact HB.out | apply below_alloc | apply pw_below_drewN | apply below_drew1) | exact HB.out)⟩⟩
        ·
         rw [if_neg c10] at H; have c10b0 : (a0 == 47) = false := beq_eq_false_iff_ne.mpr c10; have c10b1 : (a0 != 47) = true := bne_iff_ne.mpr c10; have H' := az H; clear H; go_wp2; go_meet
         case rel => exact ⟨_, ((a0 == 58)), (by first | rfl | (simp; done) | (simp [*]; done)), H', ⟨by have := HJ1.out; first | omega | exact Nat.le_refl _⟩, ⟨by repeat (first | (with_reducible first | exact HB.out | apply below_alloc | apply pw_below_drewN | apply below_drew1) | exact HB.out)⟩⟩
     case rest =>
      clear HC7; (try clear c1); (try clear p2); (try clear c3); (try clear c3b0); (try clear c3b1); (try clear c4); (try clear c5); (try clear c6); (try clear c8); (try clear c8b0); (try clear c8b1); (try clear c9); (try clear c9b0); (try clear c9b1); (try clear c10); (try clear c10b0); (try clear c10b1); (try clear p2); obtain ⟨kq, x13_6, rfl, HA, HJ6, HB⟩ := hcut
      cases kq with
      | zero => exact absurd HA.out (by simp [spec_l1Signs.j1])
      | succ kj6 =>
       have H := HA.out; clear HA; simp only [spec_l1Signs.j1] at H; by_cases c11 : x13_6 = true
       ·
        subst c11; have H1 : (some 8) = some r := by rw [if_pos rfl] at H; exact H
        clear H; have H := H1; clear H1; obtain rfl := Option.some.inj H; go_wp2; go_ret; exact ⟨by first | rfl | (simp [errW_none, errW_some] <;> rfl) | (simp [*, errW_none, errW_some] <;> rfl), by repeat (first | (with_reducible first | exact HB.out | apply below_alloc | apply pw_below_drewN | apply below_drew1) | exact HB.out)⟩
       ·
        replace c11 := Bool.eq_false_iff.mpr c11; subst c11; have H1 : ((spec_l1In.f a0 768 879).bind fun t302 => (if t302 = true then (some 9) else (if a0 = 8203 then (spec_l1Signs.j2 kj6 a0 true) else (if a0 = 8205 then (spec_l1Signs.j2 kj6 a0 true) else (spec_l1Signs.j2 kj6 a0 (a0 == 173)))))) = some r := by rw [if_neg (show ¬ (false = true) by decide)] at H; exact H
        clear H; have H := H1; clear H1; replace H := Option.bind_eq_some_iff.mp H; obtain ⟨t302, A120, H⟩ := H; replace H : (if t302 = true then (some 9) else (if a0 = 8203 then (spec_l1Signs.j2 kj6 a0 true) else (if a0 = 8205 then (spec_l1Signs.j2 kj6 a0 true) else (spec_l1Signs.j2 kj6 a0 (a0 == 173))))) = some r := H; have A12 := az A120; clear A120; by_cases c13 : t302 = true
        ·
         subst c13; have H1 : (some 9) = some r := by rw [if_pos rfl] at H; exact H
         clear H; have H := H1; clear H1; obtain rfl := Option.some.inj H; go_wp2_with (first | ((with_reducible refine gate_callee (f := 53) rfl ?_); refine goesL_ (some 30) rfl rfl Try.func53 (by kernel_rfl) rfl #[.int .i64 a0, .int .i64 768, .int .i64 879] rfl (by (try simp only [List.map_toArray, List.map_cons, List.map_nil]); first | done | rfl) ?_; (with_reducible refine (spec_l1In.calls a0 768 879 true _ A12.out).mono ?_); rintro e w' ⟨rfl, ⟨nd, rfl⟩⟩; refine ⟨_, rfl, ?_⟩)); go_ret; exact ⟨by first | rfl | (simp [errW_none, errW_some] <;> rfl) | (simp [*, errW_none, errW_some] <;> rfl), by repeat (first | (with_reducible first | exact HB.out | apply below_alloc | apply pw_below_drewN | apply below_drew1) | exact HB.out)⟩
        ·
         replace c13 := Bool.eq_false_iff.mpr c13; subst c13; have H1 : (if a0 = 8203 then (spec_l1Signs.j2 kj6 a0 true) else (if a0 = 8205 then (spec_l1Signs.j2 kj6 a0 true) else (spec_l1Signs.j2 kj6 a0 (a0 == 173)))) = some r := by rw [if_neg (show ¬ (false = true) by decide)] at H; exact H
         clear H; have H := H1; clear H1; have HC14 := az H; clear H; go_upto_region 9 with (first | ((with_reducible refine gate_callee (f := 53) rfl ?_); refine goesL_ (some 30) rfl rfl Try.func53 (by kernel_rfl) rfl #[.int .i64 a0, .int .i64 768, .int .i64 879] rfl (by (try simp only [List.map_toArray, List.map_cons, List.map_nil]); first | done | rfl) ?_; (with_reducible refine (spec_l1In.calls a0 768 879 false _ A12.out).mono ?_); rintro e w' ⟨rfl, ⟨nd, rfl⟩⟩; refine ⟨_, rfl, ?_⟩))
         (try simp only [Act.put, List.setIfInBounds_toArray, List.set_cons_zero, List.set_cons_succ]); go_cut [31] (fun v31 wc => ∃ (kq : Nat) (x31_13 : Bool), v31 = .bool x31_13 ∧ Aside0 (spec_l1Signs.j2 kq a0 x31_13 = some r) ∧ Aside0 (kq ≤ kj6) ∧ Aside0 (Below w.heap.size w wc))
         case first =>
          have H := HC14.out; clear HC14; by_cases c15 : a0 = 8203
          ·
           rw [if_pos c15] at H; have c15b0 : (a0 == 8203) = true := beq_iff_eq.mpr c15; have c15b1 : (a0 != 8203) = false := bne_eq_false_iff_eq.mpr c15; clear c15; (first | rw [c15b0] | (simp only [i64_w, i32_w]; rw [c15b0]) | skip); have H' := az H; clear H; go_wp2; go_meet
           case rel => exact ⟨_, (true), (by first | rfl | (simp; done) | (simp [*]; done)), H', ⟨by have := HJ1.out; have := HJ6.out; first | omega | exact Nat.le_refl _⟩, ⟨by repeat (first | (with_reducible first | exact HB.out | apply below_alloc | apply pw_below_drewN | apply below_drew1) | exact HB.out)⟩⟩
          ·
           rw [if_neg c15] at H; have c15b0 : (a0 == 8203) = false := beq_eq_false_iff_ne.mpr c15; have c15b1 : (a0 != 8203) = true := bne_iff_ne.mpr c15; (first | rw [c15b0] | (simp only [i64_w, i32_w]; rw [c15b0]) | skip); by_cases c16 : a0 = 8205
           ·
            rw [if_pos c16] at H; have c16b0 : (a0 == 8205) = true := beq_iff_eq.mpr c16; have c16b1 : (a0 != 8205) = false := bne_eq_false_iff_eq.mpr c16; clear c16; have H' := az H; clear H; go_wp2; go_meet
            case rel => exact ⟨_, (true), (by first | rfl | (simp; done) | (simp [*]; done)), H', ⟨by have := HJ1.out; have := HJ6.out; first | omega | exact Nat.le_refl _⟩, ⟨by repeat (first | (with_reducible first | exact HB.out | apply below_alloc | apply pw_below_drewN | apply below_drew1) | exact HB.out)⟩⟩
           ·
            rw [if_neg c16] at H; have c16b0 : (a0 == 8205) = false := beq_eq_false_iff_ne.mpr c16; have c16b1 : (a0 != 8205) = true := bne_iff_ne.mpr c16; have H' := az H; clear H; go_wp2; go_meet
            case rel => exact ⟨_, ((a0 == 173)), (by first | rfl | (simp; done) | (simp [*]; done)), H', ⟨by have := HJ1.out; have := HJ6.out; first | omega | exact Nat.le_refl _⟩, ⟨by repeat (first | (with_reducible first | exact HB.out | apply below_alloc | apply pw_below_drewN | apply below_drew1) | exact HB.out)⟩⟩
         case rest =>
          clear HC14; (try clear c1); (try clear p2); (try clear c3); (try clear c3b0); (try clear c3b1); (try clear c4); (try clear c5); (try clear c6); (try clear c8); (try clear c8b0); (try clear c8b1); (try clear c9); (try clear c9b0); (try clear c9b1); (try clear c10); (try clear c10b0); (try clear c10b1); (try clear c11); (try clear c13); (try clear c15); (try clear c15b0); (try clear c15b1); (try clear c16); (try clear c16b0); (try clear c16b1); (try clear p2); obtain ⟨kq, x31_13, rfl, HA, HJ13, HB⟩ := hcut
          cases kq with
          | zero => exact absurd HA.out (by simp [spec_l1Signs.j2])
          | succ kj13 =>
           have H := HA.out; clear HA; simp only [spec_l1Signs.j2] at H; by_cases c17 : x31_13 = true
           ·
            subst c17; have H1 : (some 10) = some r := by rw [if_pos rfl] at H; exact H
            clear H; have H := H1; clear H1; obtain rfl := Option.some.inj H; go_wp2; go_ret; exact ⟨by first | rfl | (simp [errW_none, errW_some] <;> rfl) | (simp [*, errW_none, errW_some] <;> rfl), by repeat (first | (with_reducible first | exact HB.out | apply below_alloc | apply pw_below_drewN | apply below_drew1) | exact HB.out)⟩
           ·
            replace c17 := Bool.eq_false_iff.mpr c17; subst c17; have H1 : (if a0 = 9 then (some 11) else (if a0 = 32 then (some 12) else ((spec_l1Moves.f kj13 a0).bind fun t303 => (some t303)))) = some r := by rw [if_neg (show ¬ (false = true) by decide)] at H; exact H
            clear H; have H := H1; clear H1; by_cases c18 : a0 = 9
            ·
             rw [if_pos c18] at H; have c18b0 : (a0 == 9) = true := beq_iff_eq.mpr c18; have c18b1 : (a0 != 9) = false := bne_eq_false_iff_eq.mpr c18; clear c18; obtain rfl := Option.some.inj H; go_wp2; go_ret; exact ⟨by first | rfl | (simp [errW_none, errW_some] <;> rfl) | (simp [*, errW_none, errW_some] <;> rfl), by repeat (first | (with_reducible first | exact HB.out | apply below_alloc | apply pw_below_drewN | apply below_drew1) | exact HB.out)⟩
            ·
             rw [if_neg c18] at H; have c18b0 : (a0 == 9) = false := beq_eq_false_iff_ne.mpr c18; have c18b1 : (a0 != 9) = true := bne_iff_ne.mpr c18; by_cases c19 : a0 = 32
             ·
              rw [if_pos c19] at H; have c19b0 : (a0 == 32) = true := beq_iff_eq.mpr c19; have c19b1 : (a0 != 32) = false := bne_eq_false_iff_eq.mpr c19; clear c19; obtain rfl := Option.some.inj H; go_wp2; go_ret; exact ⟨by first | rfl | (simp [errW_none, errW_some] <;> rfl) | (simp [*, errW_none, errW_some] <;> rfl), by repeat (first | (with_reducible first | exact HB.out | apply below_alloc | apply pw_below_drewN | apply below_drew1) | exact HB.out)⟩
             ·
              rw [if_neg c19] at H; have c19b0 : (a0 == 32) = false := beq_eq_false_iff_ne.mpr c19; have c19b1 : (a0 != 32) = true := bne_iff_ne.mpr c19; replace H := Option.bind_eq_some_iff.mp H; obtain ⟨t303, A200, H⟩ := H; replace H : (some t303) = some r := H; have A20 := az A200; clear A200; obtain rfl := Option.some.inj H; go_wp2_with (first | ((with_reducible refine gate_callee (f := 80) rfl ?_); refine goesL_ (some 49) rfl rfl Try.func80 (by kernel_rfl) rfl #[.int .i64 a0] rfl (by (try simp only [List.map_toArray, List.map_cons, List.map_nil]); first | done | rfl) ?_; (with_reducible refine (spec_l1Moves.calls kj13 a0 t303 _ A20.out).mono ?_); rintro e w21 ⟨rfl, hb⟩; refine ⟨_, rfl, ?_⟩; have n0_ := az (below_step (by repeat (first | (with_reducible first | exact HB.out | apply below_alloc | apply pw_below_drewN | apply below_drew1) | exact HB.out)) hb); clear HB; have HB := n0_; clear n0_; (try clear hb); (try clear hb2); (try clear hk); (try clear hi))); go_ret; exact ⟨by first | rfl | (simp [errW_none, errW_some] <;> rfl) | (simp [*, errW_none, errW_some] <;> rfl), by repeat (first | (with_reducible first | exact HB.out | apply below_alloc | apply pw_below_drewN | apply below_drew1) | exact HB.out)⟩
end Go.Proofs.Ytojehfdioeglgaa.S
