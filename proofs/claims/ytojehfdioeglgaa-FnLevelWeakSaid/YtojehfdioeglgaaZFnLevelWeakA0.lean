/- Behind the rules for figures and signs no letter of some, no sign and nothing that stands on others is left: of all drawn classes and sides, for every code. No condition beyond the statement's own. (text 1 of 4 of this claim: functions of the program and of the reference as plain Lean functions, what a call of each comes to, and what follows.) -/
import Derived.Test.YtojehfdioeglgaaProg
import Derived.Test.YtojehfdioeglgaaWWords
import Derived.Test.YtojehfdioeglgaaWLast
import Derived.Test.YtojehfdioeglgaaWTab
import Derived.Test.YtojehfdioeglgaaWFour
import Derived.Test.YtojehfdioeglgaaWQPut
import Derived.Test.YtojehfdioeglgaaWApart
import Derived.Test.YtojehfdioeglgaaWArr
import Derived.Test.YtojehfdioeglgaaWZeros
import Derived.Test.YtojehfdioeglgaaWFoot
import Derived.Test.YtojehfdioeglgaaWKept
import Derived.Test.YtojehfdioeglgaaWShare
import Derived.Test.YtojehfdioeglgaaWN
import Derived.Test.YtojehfdioeglgaaWFootNe
import Derived.Test.YtojehfdioeglgaaWAt
import Derived.Test.YtojehfdioeglgaaWEqStruct
import Derived.Test.YtojehfdioeglgaaWRepsOne
import Derived.Test.YtojehfdioeglgaaWInv
import Derived.Test.YtojehfdioeglgaaWInvWords
import Derived.Test.YtojehfdioeglgaaWGuard
import Derived.Test.YtojehfdioeglgaaWNEv
import Derived.Test.YtojehfdioeglgaaWMore
import Derived.Below
import Derived.Deep.Draws
import Derived.Deep.AppendLies
import Derived.Maps.AppendAt
import Derived.OwnWalk
import Derived.Laws.BytesArg
import Derived.Laws.MakeOwn
import Derived.Laws.OwnMore
import Derived.Deep.OwnRows
import Derived.Tactics
import Derived.Lib.ConvBytes
import Derived.Laws.Slices
import Derived.WalkKit
import Derived.KernelRfl
import Derived.RowKit3
import Derived.Deep.LoopGhost
import Derived.Deep.QuietTactic
import Derived.BigQuiet
import Derived.WideLaws
import Derived.Deep.DeepCutAuto
import Derived.Deep.CutBlock
import Derived.Deep.RegionHeld3
import Derived.Laws.Rows
import Derived.Lib.AppendStr
import Derived.ArgAppend
import Derived.Laws.IdiomCopy
import Derived.OrdersHeld
import Derived.Laws.BitsLemmas
import Derived.RowKit
import Derived.Maps.Own
import Derived.Maps.OwnOps
import Derived.Maps.Views
import Derived.Shelf.Abstract
import Derived.BigRegion
import Derived.Laws.Cover3
import Derived.RegionTactic
namespace Go.Proofs.Ytojehfdioeglgaa.S
open Go.RowKit Go.Proofs.YtojehfdioeglgaaW.PrintWords Go.Proofs.YtojehfdioeglgaaW.PrintLast Go.Proofs.YtojehfdioeglgaaW.PrintMore
attribute [local go_sem] max2_int min2_int max_two min_two max_three min_three max_four min_four   -- for this text's walks alone
set_option linter.unusedVariables false
set_option linter.unusedSimpArgs false



def errW : Option Int → Value
  | none => .nilIface
  | some c => .iface 0 (.int .i64 c)
theorem errW_none : errW none = .nilIface := rfl
theorem errW_some (c : Int) : errW (some c) = .iface 0 (.int .i64 c) := rfl

theorem info3 : (Try.prog.info? 3).map (fun i => (i.zero, i.size, i.bytes)) = some (some (.int .i64 0), 1, 8) := by kernel_rfl
theorem info5 : (Try.prog.info? 5).map (fun i => (i.zero, i.size, i.bytes)) = some (some (.int .u8 0), 1, 1) := by kernel_rfl
theorem info22 : (Try.prog.info? 22).map (fun i => (i.zero, i.size, i.bytes)) = some (some (.slice none 0 0), 1, 24) := by kernel_rfl
theorem info62 : (Try.prog.info? 62).map (fun i => (i.zero, i.size, i.bytes)) = some (some (.agg #[(.slice none 0 0), (.int .i64 0)]), 2, 32) := by kernel_rfl
theorem info108 : (Try.prog.info? 108).map (fun i => (i.zero, i.size, i.bytes)) = some (some (.agg #[(.int .i64 0), (.int .i64 0), (.int .i64 0)]), 3, 24) := by kernel_rfl
-- the values' own types
def rd_L1 (xs : List (List Int)) (i : Int) : (List Int) := xs.getD i.toNat ([] : List Int)
theorem at_L1 {w : World} {A : Option Addr} {n : Nat} {xs : List (List Int)} (h : Kd.C (Kd.slice 3 (Kd.int .i64)) w A n xs) (i : Int) (h0 : 0 ≤ i) (h1 : i < n) : ∃ ad A0 c0, A = some ad ∧ w.cell? (ad.add i.toNat) = some (.slice A0 (rd_L1 xs i).length c0) ∧ (rd_L1 xs i).length ≤ c0 ∧ (Kd.int .i64).C w A0 (rd_L1 xs i).length (rd_L1 xs i) := by
  obtain ⟨ad, c, e, _, hK, hc0⟩ := Kd.C_get h ([] : List Int) i h0 h1
  have hc : ∀ j u, c[j]? = some u → w.cell? (ad.add (i.toNat * 1 + j)) = some u := hc0
  obtain ⟨A0, c0, rfl, l0, g0⟩ := hK
  exact ⟨ad, A0, c0, e, by have hq := hc 0 _ rfl; rwa [Nat.mul_one, Nat.add_zero] at hq, l0, g0⟩

/-! #### struct type 74 -/
structure S74 where
  f0 : Int
  f1 : Int
  f2 : Bool
def z74 : S74 := ⟨(0 : Int), (0 : Int), false⟩
def k74 : Kd S74 := Kd.iso (Kd.pair (Kd.int .i64) (Kd.pair (Kd.int .i64) Kd.bool)) (fun x : S74 => (x.f0, x.f1, x.f2))
theorem k74_open {w : World} {x : S74} {cs : List Value} (h : k74.K w x cs) : cs = [.int .i64 x.f0, .int .i64 x.f1, .bool x.f2] := by
  obtain ⟨_, _, rfl, rfl, ⟨_, _, rfl, rfl, rfl⟩⟩ := h
  exact rfl
theorem k74_openM {w : World} {base : Nat} {ok : Nat → Prop} {x : S74} {cs : List Value} (h : k74.M w base ok x cs) : cs = [.int .i64 x.f0, .int .i64 x.f1, .bool x.f2] := by
  obtain ⟨_, _, rfl, rfl, ⟨_, _, rfl, rfl, rfl⟩⟩ := h
  exact rfl
theorem k74_mk (w : World) (x : S74)  : k74.K w x [.int .i64 x.f0, .int .i64 x.f1, .bool x.f2] := ⟨[.int .i64 x.f0], [.int .i64 x.f1, .bool x.f2], rfl, rfl, ⟨[.int .i64 x.f1], [.bool x.f2], rfl, rfl, rfl⟩⟩
theorem k74_mkM (w : World) (base : Nat) (ok : Nat → Prop) (x : S74)  : k74.M w base ok x [.int .i64 x.f0, .int .i64 x.f1, .bool x.f2] := ⟨[.int .i64 x.f0], [.int .i64 x.f1, .bool x.f2], rfl, rfl, ⟨[.int .i64 x.f1], [.bool x.f2], rfl, rfl, rfl⟩⟩
def rd_T74 (xs : List S74) (i : Int) : S74 := xs.getD i.toNat z74
theorem at_T74 {w : World} {A : Option Addr} {n : Nat} {xs : List S74} (h : Kd.C k74 w A n xs) (i : Int) (h0 : 0 ≤ i) (h1 : i < n) : ∃ ad , A = some ad ∧ w.cell? (ad.add (i.toNat * 3)) = some (.int .i64 (rd_T74 xs i).f0) ∧ w.cell? ⟨(ad.add (i.toNat * 3)).block, (ad.add (i.toNat * 3)).off + 1, none⟩ = some (.int .i64 (rd_T74 xs i).f1) ∧ w.cell? ⟨(ad.add (i.toNat * 3)).block, (ad.add (i.toNat * 3)).off + 2, none⟩ = some (.bool (rd_T74 xs i).f2) := by
  obtain ⟨ad, c, e, _, hK, hc0⟩ := Kd.C_get h z74 i h0 h1
  have hc : ∀ j u, c[j]? = some u → w.cell? (ad.add (i.toNat * 3 + j)) = some u := hc0
  obtain rfl := k74_open hK
  exact ⟨ad, e, hc 0 _ rfl, by rw [← add_field _ _ 1 (by omega)]; exact hc 1 _ rfl, by rw [← add_field _ _ 2 (by omega)]; exact hc 2 _ rfl⟩

/-! #### struct type 108 -/
structure S108 where
  f0 : Int
  f1 : Int
  f2 : Int
def z108 : S108 := ⟨(0 : Int), (0 : Int), (0 : Int)⟩
def k108 : Kd S108 := Kd.iso (Kd.pair (Kd.int .i64) (Kd.pair (Kd.int .i64) (Kd.int .i64))) (fun x : S108 => (x.f0, x.f1, x.f2))
theorem k108_open {w : World} {x : S108} {cs : List Value} (h : k108.K w x cs) : cs = [.int .i64 x.f0, .int .i64 x.f1, .int .i64 x.f2] := by
  obtain ⟨_, _, rfl, rfl, ⟨_, _, rfl, rfl, rfl⟩⟩ := h
  exact rfl
theorem k108_openM {w : World} {base : Nat} {ok : Nat → Prop} {x : S108} {cs : List Value} (h : k108.M w base ok x cs) : cs = [.int .i64 x.f0, .int .i64 x.f1, .int .i64 x.f2] := by
  obtain ⟨_, _, rfl, rfl, ⟨_, _, rfl, rfl, rfl⟩⟩ := h
  exact rfl
theorem k108_mk (w : World) (x : S108)  : k108.K w x [.int .i64 x.f0, .int .i64 x.f1, .int .i64 x.f2] := ⟨[.int .i64 x.f0], [.int .i64 x.f1, .int .i64 x.f2], rfl, rfl, ⟨[.int .i64 x.f1], [.int .i64 x.f2], rfl, rfl, rfl⟩⟩
theorem k108_mkM (w : World) (base : Nat) (ok : Nat → Prop) (x : S108)  : k108.M w base ok x [.int .i64 x.f0, .int .i64 x.f1, .int .i64 x.f2] := ⟨[.int .i64 x.f0], [.int .i64 x.f1, .int .i64 x.f2], rfl, rfl, ⟨[.int .i64 x.f1], [.int .i64 x.f2], rfl, rfl, rfl⟩⟩
def rd_T108 (xs : List S108) (i : Int) : S108 := xs.getD i.toNat z108
theorem at_T108 {w : World} {A : Option Addr} {n : Nat} {xs : List S108} (h : Kd.C k108 w A n xs) (i : Int) (h0 : 0 ≤ i) (h1 : i < n) : ∃ ad , A = some ad ∧ w.cell? (ad.add (i.toNat * 3)) = some (.int .i64 (rd_T108 xs i).f0) ∧ w.cell? ⟨(ad.add (i.toNat * 3)).block, (ad.add (i.toNat * 3)).off + 1, none⟩ = some (.int .i64 (rd_T108 xs i).f1) ∧ w.cell? ⟨(ad.add (i.toNat * 3)).block, (ad.add (i.toNat * 3)).off + 2, none⟩ = some (.int .i64 (rd_T108 xs i).f2) := by
  obtain ⟨ad, c, e, _, hK, hc0⟩ := Kd.C_get h z108 i h0 h1
  have hc : ∀ j u, c[j]? = some u → w.cell? (ad.add (i.toNat * 3 + j)) = some u := hc0
  obtain rfl := k108_open hK
  exact ⟨ad, e, hc 0 _ rfl, by rw [← add_field _ _ 1 (by omega)]; exact hc 1 _ rfl, by rw [← add_field _ _ 2 (by omega)]; exact hc 2 _ rfl⟩

/-! #### struct type 62 -/
structure S62 where
  f0 : (List Int)
  f1 : Int
def z62 : S62 := ⟨([] : List Int), (0 : Int)⟩
def k62 : Kd S62 := Kd.iso (Kd.pair (Kd.slice 3 (Kd.int .i64)) (Kd.int .i64)) (fun x : S62 => (x.f0, x.f1))
theorem k62_open {w : World} {x : S62} {cs : List Value} (h : k62.K w x cs) : ∃ A0 c0, cs = [.slice A0 x.f0.length c0, .int .i64 x.f1] ∧ x.f0.length ≤ c0 ∧ (Kd.int .i64).C w A0 x.f0.length x.f0 := by
  obtain ⟨_, _, rfl, ⟨A0, c0, rfl, l0, g0⟩, rfl⟩ := h
  exact ⟨A0, c0, rfl, l0, g0⟩
theorem k62_openM {w : World} {base : Nat} {ok : Nat → Prop} {x : S62} {cs : List Value} (h : k62.M w base ok x cs) : ∃ v0, cs = [v0, .int .i64 x.f1] ∧ (Kd.int .i64).R 3 w base ok v0 x.f0 := by
  obtain ⟨_, _, rfl, ⟨v0, rfl, g0⟩, rfl⟩ := h
  exact ⟨v0, rfl, g0⟩
theorem k62_mk (w : World) (x : S62) {A0 : Option Addr} {c0 : Nat} (l0 : x.f0.length ≤ c0) (g0 : (Kd.int .i64).C w A0 x.f0.length x.f0) : k62.K w x [.slice A0 x.f0.length c0, .int .i64 x.f1] := ⟨[.slice A0 x.f0.length c0], [.int .i64 x.f1], rfl, ⟨A0, c0, rfl, l0, g0⟩, rfl⟩
theorem k62_mkM (w : World) (base : Nat) (ok : Nat → Prop) (x : S62) {v0 : Value} (g0 : (Kd.int .i64).R 3 w base ok v0 x.f0) : k62.M w base ok x [v0, .int .i64 x.f1] := ⟨[v0], [.int .i64 x.f1], rfl, ⟨v0, rfl, g0⟩, rfl⟩
def rd_T62 (xs : List S62) (i : Int) : S62 := xs.getD i.toNat z62
theorem at_T62 {w : World} {A : Option Addr} {n : Nat} {xs : List S62} (h : Kd.C k62 w A n xs) (i : Int) (h0 : 0 ≤ i) (h1 : i < n) : ∃ ad A0 c0, A = some ad ∧ w.cell? (ad.add (i.toNat * 2)) = some (.slice A0 (rd_T62 xs i).f0.length c0) ∧ w.cell? ⟨(ad.add (i.toNat * 2)).block, (ad.add (i.toNat * 2)).off + 1, none⟩ = some (.int .i64 (rd_T62 xs i).f1) ∧ (rd_T62 xs i).f0.length ≤ c0 ∧ (Kd.int .i64).C w A0 (rd_T62 xs i).f0.length (rd_T62 xs i).f0 := by
  obtain ⟨ad, c, e, _, hK, hc0⟩ := Kd.C_get h z62 i h0 h1
  have hc : ∀ j u, c[j]? = some u → w.cell? (ad.add (i.toNat * 2 + j)) = some u := hc0
  obtain ⟨A0, c0, rfl, l0, g0⟩ := k62_open hK
  exact ⟨ad, A0, c0, e, hc 0 _ rfl, by rw [← add_field _ _ 1 (by omega)]; exact hc 1 _ rfl, l0, g0⟩

end Go.Proofs.Ytojehfdioeglgaa.S

namespace Go.Proofs.Ytojehfdioeglgaa.S
open Go.RowKit Go.Proofs.YtojehfdioeglgaaW.PrintWords Go.Proofs.YtojehfdioeglgaaW.PrintLast Go.Proofs.YtojehfdioeglgaaW.PrintMore
attribute [local go_sem] max2_int min2_int max_two min_two max_three min_three max_four min_four   -- for this text's walks alone
set_option linter.unusedVariables false
set_option linter.unusedSimpArgs false

/-! ### spec_l1In: function 53 -/
def spec_l1In.f (a0 : Int) (a1 : Int) (a2 : Int) : Option (Bool) := if a0 ≥ a1 then (some (decide (a0 ≤ a2))) else (some false)
set_option maxHeartbeats 8000000 in
set_option maxRecDepth 100000 in
theorem spec_l1In.calls (a0 : Int) (a1 : Int) (a2 : Int) (r : Bool) (w : World) (h : spec_l1In.f a0 a1 a2 = some r) :
    Calls Try.prog 53 #[.int .i64 a0, .int .i64 a1, .int .i64 a2] w fun e w' => e = .returned (.bool r) ∧ Drawn0 w w' := by
  have H : (if a0 ≥ a1 then (some (decide (a0 ≤ a2))) else (some false)) = some r := h
  clear h
  by_cases c4 : a0 ≥ a1
  · rw [if_pos c4] at H
    have c4b0 : decide (a1 ≤ a0) = true := decide_eq_true c4
    clear c4
    obtain rfl := Option.some.inj H
    go_enter Try.func53, Try.ntmps53
    go_wp2
    go_ret
    exact ⟨by first | rfl | (simp; done) | (simp [*]; done), by repeat (first | exact Drawn0.refl _ | apply Drawn0.step)⟩
  · rw [if_neg c4] at H
    have c4b0 : decide (a1 ≤ a0) = false := decide_eq_false c4
    clear c4
    obtain rfl := Option.some.inj H
    go_enter Try.func53, Try.ntmps53
    go_wp2
    go_ret
    exact ⟨by first | rfl | (simp; done) | (simp [*]; done), by repeat (first | exact Drawn0.refl _ | apply Drawn0.step)⟩

end Go.Proofs.Ytojehfdioeglgaa.S

namespace Go.Proofs.Ytojehfdioeglgaa.S
open Go.RowKit Go.Proofs.YtojehfdioeglgaaW.PrintWords Go.Proofs.YtojehfdioeglgaaW.PrintLast Go.Proofs.YtojehfdioeglgaaW.PrintMore
attribute [local go_sem] max2_int min2_int max_two min_two max_three min_three max_four min_four   -- for this text's walks alone
set_option linter.unusedVariables false
set_option linter.unusedSimpArgs false

/-! ### spec_l3Classes: function 29 -/
def spec_l3Classes.l0 : Nat → List Int → Int → Option (Bool)
  | 0, _, _ => none
  | k + 1, x0, x3 => if x3 < (x0.length : Int) then (if 0 ≤ x3 then ((spec_l1In.f (rd x0 x3) 1 22).bind fun t102 => (if t102 = true then (spec_l3Classes.l0 k x0 (wrap64 (x3 + 1))) else (some false))) else (none)) else (some (decide ((x0.length : Int) ≤ 80)))
def spec_l3Classes.f (k : Nat) (l0 : List Int) : Option (Bool) := spec_l3Classes.l0 k l0 0
theorem spec_l3Classes.mono_l : ∀ k, (∀ y0 y1, LeO (spec_l3Classes.l0 k y0 y1) (spec_l3Classes.l0 (k + 1) y0 y1))
  | 0 => fun _ _ r h => by simp [spec_l3Classes.l0] at h
  | k + 1 => by
    have ih0 := spec_l3Classes.mono_l k
    · intro y0 y1
      unfold spec_l3Classes.l0
      repeat' first
      | (with_reducible exact ih0 _ _)
      | (with_reducible exact LeO.refl _)
      | (with_reducible exact LeO.none _)
      | (with_reducible refine LeO.ite ?_ ?_)
      | (with_reducible refine LeO.bind ?_ (fun _ => ?_))
      | exact ih0 _ _
      | exact LeO.none _
      | refine LeO.ite ?_ ?_
      | refine LeO.bind ?_ (fun _ => ?_)
theorem spec_l3Classes.mono : ∀ a0 k, LeO (spec_l3Classes.f k a0) (spec_l3Classes.f (k + 1) a0) := by
  intro a0 k
  have ih0 := spec_l3Classes.mono_l k
  unfold spec_l3Classes.f
  repeat' first
      | (with_reducible exact ih0 _ _)
      | (with_reducible exact LeO.refl _)
      | (with_reducible exact LeO.none _)
      | (with_reducible refine LeO.ite ?_ ?_)
      | (with_reducible refine LeO.bind ?_ (fun _ => ?_))
      | exact ih0 _ _
      | exact LeO.none _
      | refine LeO.ite ?_ ?_
      | refine LeO.bind ?_ (fun _ => ?_)
set_option maxHeartbeats 8000000 in
set_option maxRecDepth 100000 in
theorem spec_l3Classes.calls (k : Nat) (A0 : Option Addr) (c0 : Nat) (l0 : List Int) (r : Bool) (w : World) (hr0 : Kd.C (Kd.int .i64) w A0 l0.length l0) (hc0 : l0.length ≤ c0) (h : spec_l3Classes.f k l0 = some r) :
    Calls Try.prog 29 #[.slice A0 l0.length c0] w fun e w' => e = .returned (.bool r) ∧ Drawn0 w w' := by
  have HR0 := Aside0.mk hr0
  have HC0 := Aside0.mk hc0
  clear hr0 hc0
  have H : (spec_l3Classes.l0 k l0 0) = some r := h
  clear h
  have H' := Aside0.mk H
  clear H
  go_enter Try.func29, Try.ntmps29
  go_wp2
  go_loopg [3] k (fun kq v3 w' => ∃ (x3_1 : Int), v3 = .int .i64 x3_1 ∧ Aside0 (spec_l3Classes.l0 kq l0 x3_1 = some r) ∧ Aside0 (kq ≤ k) ∧ Drawn0 w w')
  case atStart => exact ⟨(0), (by first | rfl | (simp; done) | (simp [*]; done)), H', ⟨Nat.le_refl _⟩, by repeat (first | exact Drawn0.refl _ | apply Drawn0.step)⟩
  case round =>
    clear H'
    obtain ⟨x3_1, rfl, HA, HK1, ⟨m1, rfl⟩⟩ := hrel
    cases gk with
    | zero => exact absurd HA.out (by simp [spec_l3Classes.l0])
    | succ k1 =>
      have H := HA.out
      clear HA
      simp only [spec_l3Classes.l0] at H
      by_cases c2 : x3_1 < (l0.length : Int)
      · rw [if_pos c2] at H
        have c2b0 : decide (x3_1 < (l0.length : Int)) = true := decide_eq_true c2
        clear c2
        by_cases c3 : 0 ≤ x3_1
        · rw [if_pos c3] at H
          have c3b0 : decide (0 ≤ x3_1) = true := decide_eq_true c3
          clear c3
          replace H := Option.bind_eq_some_iff.mp H
          obtain ⟨t102, A40, H⟩ := H
          replace H : (if t102 = true then (spec_l3Classes.l0 k1 l0 (wrap64 (x3_1 + 1))) else (some false)) = some r := H
          have A4 := Aside0.mk A40
          clear A40
          by_cases c5 : t102 = true
          · subst c5
            have H1 : (spec_l3Classes.l0 k1 l0 (wrap64 (x3_1 + 1))) = some r := by rw [if_pos rfl] at H; exact H
            clear H
            have H := H1
            clear H1
            have H' := Aside0.mk H
            clear H
            have p101 : 0 ≤ (x3_1 : Int) := of_decide_eq_true (by first | (with_reducible assumption) | assumption)
            have q101 : x3_1 < (l0.length : Int) := of_decide_eq_true (by first | (with_reducible assumption) | assumption)
            obtain ⟨ad101, e101, hx101_0⟩ := Kd.at_int HR0.out x3_1 p101 q101
            cases e101
            replace p101 := eq_true p101
            replace q101 := eq_true q101
            go_wp2_with (first | ((with_reducible refine gate_callee (f := 53) rfl ?_); refine goesL_ (some 14) rfl rfl Try.func53 (by kernel_rfl) rfl #[.int .i64 (rd l0 x3_1), .int .i64 1, .int .i64 22] rfl (by (try simp only [List.map_toArray, List.map_cons, List.map_nil]); first | done | rfl | (simp only [List.length_drop, List.length_take]; rfl)) ?_; (with_reducible refine (spec_l1In.calls (rd l0 x3_1) 1 22 true _ A4.out).mono ?_); rintro e w' ⟨rfl, ⟨nd, rfl⟩⟩; refine ⟨_, rfl, ?_⟩))
            go_roundg k1
            case measure => have := HK1.out; omega
            case rel => exact ⟨(wrap64 (x3_1 + 1)), (by first | rfl | (simp; done) | (simp [*]; done)), H', ⟨by have := HK1.out; omega⟩, by repeat (first | exact Drawn0.refl _ | apply Drawn0.step)⟩
          · replace c5 := Bool.eq_false_iff.mpr c5
            subst c5
            have H1 : (some false) = some r := by rw [if_neg (show ¬ (false = true) by decide)] at H; exact H
            clear H
            have H := H1
            clear H1
            obtain rfl := Option.some.inj H
            have p101 : 0 ≤ (x3_1 : Int) := of_decide_eq_true (by first | (with_reducible assumption) | assumption)
            have q101 : x3_1 < (l0.length : Int) := of_decide_eq_true (by first | (with_reducible assumption) | assumption)
            obtain ⟨ad101, e101, hx101_0⟩ := Kd.at_int HR0.out x3_1 p101 q101
            cases e101
            replace p101 := eq_true p101
            replace q101 := eq_true q101
            go_wp2_with (first | ((with_reducible refine gate_callee (f := 53) rfl ?_); refine goesL_ (some 14) rfl rfl Try.func53 (by kernel_rfl) rfl #[.int .i64 (rd l0 x3_1), .int .i64 1, .int .i64 22] rfl (by (try simp only [List.map_toArray, List.map_cons, List.map_nil]); first | done | rfl | (simp only [List.length_drop, List.length_take]; rfl)) ?_; (with_reducible refine (spec_l1In.calls (rd l0 x3_1) 1 22 false _ A4.out).mono ?_); rintro e w' ⟨rfl, ⟨nd, rfl⟩⟩; refine ⟨_, rfl, ?_⟩))
            go_ret
            exact ⟨by first | rfl | (simp; done) | (simp [*]; done), by repeat (first | exact Drawn0.refl _ | apply Drawn0.step)⟩
        · rw [if_neg c3] at H
          exact absurd H (by simp)
      · rw [if_neg c2] at H
        have c2b0 : decide (x3_1 < (l0.length : Int)) = false := decide_eq_false c2
        clear c2
        obtain rfl := Option.some.inj H
        go_wp2
        go_ret
        exact ⟨by first | rfl | (simp; done) | (simp [*]; done), by repeat (first | exact Drawn0.refl _ | apply Drawn0.step)⟩

end Go.Proofs.Ytojehfdioeglgaa.S

namespace Go.Proofs.Ytojehfdioeglgaa.S
open Go.RowKit Go.Proofs.YtojehfdioeglgaaW.PrintWords Go.Proofs.YtojehfdioeglgaaW.PrintLast Go.Proofs.YtojehfdioeglgaaW.PrintMore
attribute [local go_sem] max2_int min2_int max_two min_two max_three min_three max_four min_four   -- for this text's walks alone
set_option linter.unusedVariables false
set_option linter.unusedSimpArgs false

/-! ### spec_l3Side: function 30 -/
def spec_l3Side.f (a0 : Int) : Option (Bool) := if a0 = 1 then (some true) else (some (a0 == 2))
set_option maxHeartbeats 8000000 in
set_option maxRecDepth 100000 in
theorem spec_l3Side.calls (a0 : Int) (r : Bool) (w : World) (h : spec_l3Side.f a0 = some r) :
    Calls Try.prog 30 #[.int .i64 a0] w fun e w' => e = .returned (.bool r) ∧ Drawn0 w w' := by
  have H : (if a0 = 1 then (some true) else (some (a0 == 2))) = some r := h
  clear h
  by_cases c2 : a0 = 1
  · rw [if_pos c2] at H
    have c2b0 : (a0 == 1) = true := beq_iff_eq.mpr c2
    have c2b1 : (a0 != 1) = false := bne_eq_false_iff_eq.mpr c2
    clear c2
    obtain rfl := Option.some.inj H
    go_enter Try.func30, Try.ntmps30
    go_wp2
    go_ret
    exact ⟨by first | rfl | (simp; done) | (simp [*]; done), by repeat (first | exact Drawn0.refl _ | apply Drawn0.step)⟩
  · rw [if_neg c2] at H
    have c2b0 : (a0 == 1) = false := beq_eq_false_iff_ne.mpr c2
    have c2b1 : (a0 != 1) = true := bne_iff_ne.mpr c2
    obtain rfl := Option.some.inj H
    go_enter Try.func30, Try.ntmps30
    go_wp2
    go_ret
    exact ⟨by first | rfl | (simp; done) | (simp [*]; done), by repeat (first | exact Drawn0.refl _ | apply Drawn0.step)⟩

end Go.Proofs.Ytojehfdioeglgaa.S

namespace Go.Proofs.Ytojehfdioeglgaa.S
open Go.RowKit Go.Proofs.YtojehfdioeglgaaW.PrintWords Go.Proofs.YtojehfdioeglgaaW.PrintLast Go.Proofs.YtojehfdioeglgaaW.PrintMore
attribute [local go_sem] max2_int min2_int max_two min_two max_three min_three max_four min_four   -- for this text's walks alone
set_option linter.unusedVariables false
set_option linter.unusedSimpArgs false

/-! ### spec_l3Opens: function 86 -/
def spec_l3Opens.f (a0 : Int) : Option (Bool) := (spec_l1In.f a0 19 21).bind fun t103 => (some t103)
set_option maxHeartbeats 8000000 in
set_option maxRecDepth 100000 in
theorem spec_l3Opens.calls (a0 : Int) (r : Bool) (w : World) (h : spec_l3Opens.f a0 = some r) :
    Calls Try.prog 86 #[.int .i64 a0] w fun e w' => e = .returned (.bool r) ∧ Drawn0 w w' := by
  have H : ((spec_l1In.f a0 19 21).bind fun t103 => (some t103)) = some r := h
  clear h
  replace H := Option.bind_eq_some_iff.mp H
  obtain ⟨t103, A20, H⟩ := H
  replace H : (some t103) = some r := H
  have A2 := Aside0.mk A20
  clear A20
  obtain rfl := Option.some.inj H
  go_enter Try.func86, Try.ntmps86
  go_wp2_with (first | ((with_reducible refine gate_callee (f := 53) rfl ?_); refine goesL_ (some 4) rfl rfl Try.func53 (by kernel_rfl) rfl #[.int .i64 a0, .int .i64 19, .int .i64 21] rfl (by (try simp only [List.map_toArray, List.map_cons, List.map_nil]); first | done | rfl | (simp only [List.length_drop, List.length_take]; rfl)) ?_; (with_reducible refine (spec_l1In.calls a0 19 21 t103 _ A2.out).mono ?_); rintro e w' ⟨rfl, ⟨nd, rfl⟩⟩; refine ⟨_, rfl, ?_⟩))
  go_ret
  exact ⟨by first | rfl | (simp; done) | (simp [*]; done), by repeat (first | exact Drawn0.refl _ | apply Drawn0.step)⟩

end Go.Proofs.Ytojehfdioeglgaa.S

namespace Go.Proofs.Ytojehfdioeglgaa.S
open Go.RowKit Go.Proofs.YtojehfdioeglgaaW.PrintWords Go.Proofs.YtojehfdioeglgaaW.PrintLast Go.Proofs.YtojehfdioeglgaaW.PrintMore
attribute [local go_sem] max2_int min2_int max_two min_two max_three min_three max_four min_four   -- for this text's walks alone
set_option linter.unusedVariables false
set_option linter.unusedSimpArgs false

/-! ### spec_l3Marks: function 57 -/
def spec_l3Marks.l0 : Nat → List Int → Int → Int → Option (List Int)
  | 0, _, _, _ => none
  | k + 1, x0, x1, x4 => if x4 < (x0.length : Int) then (if 0 ≤ x4 then (if (rd x0 x4) = 9 then (if x4 = 0 then (spec_l3Marks.l0 k (x0.set (x4 : Int).toNat x1) x1 (wrap64 (x4 + 1))) else (if 0 ≤ (wrap64 (x4 - 1)) then (if (wrap64 (x4 - 1)) < (x0.length : Int) then ((spec_l3Opens.f (rd x0 (wrap64 (x4 - 1)))).bind fun t107 => (if t107 = true then (spec_l3Marks.l0 k (x0.set (x4 : Int).toNat 13) x1 (wrap64 (x4 + 1))) else (if (rd x0 (wrap64 (x4 - 1))) = 22 then (spec_l3Marks.l0 k (x0.set (x4 : Int).toNat 13) x1 (wrap64 (x4 + 1))) else (spec_l3Marks.l0 k (x0.set (x4 : Int).toNat (rd x0 (wrap64 (x4 - 1)))) x1 (wrap64 (x4 + 1)))))) else (none)) else (none))) else (spec_l3Marks.l0 k x0 x1 (wrap64 (x4 + 1)))) else (none)) else (some x0)
def spec_l3Marks.f (k : Nat) (l0 : List Int) (a1 : Int) : Option (List Int) := spec_l3Marks.l0 k l0 a1 0
theorem spec_l3Marks.mono_l : ∀ k, (∀ y0 y1 y2, LeO (spec_l3Marks.l0 k y0 y1 y2) (spec_l3Marks.l0 (k + 1) y0 y1 y2))
  | 0 => fun _ _ _ r h => by simp [spec_l3Marks.l0] at h
  | k + 1 => by
    have ih0 := spec_l3Marks.mono_l k
    · intro y0 y1 y2
      unfold spec_l3Marks.l0
      repeat' first
      | (with_reducible exact ih0 _ _ _)
      | (with_reducible exact LeO.refl _)
      | (with_reducible exact LeO.none _)
      | (with_reducible refine LeO.ite ?_ ?_)
      | (with_reducible refine LeO.bind ?_ (fun _ => ?_))
      | exact ih0 _ _ _
      | exact LeO.none _
      | refine LeO.ite ?_ ?_
      | refine LeO.bind ?_ (fun _ => ?_)
theorem spec_l3Marks.mono : ∀ a0 a1 k, LeO (spec_l3Marks.f k a0 a1) (spec_l3Marks.f (k + 1) a0 a1) := by
  intro a0 a1 k
  have ih0 := spec_l3Marks.mono_l k
  unfold spec_l3Marks.f
  repeat' first
      | (with_reducible exact ih0 _ _ _)
      | (with_reducible exact LeO.refl _)
      | (with_reducible exact LeO.none _)
      | (with_reducible refine LeO.ite ?_ ?_)
      | (with_reducible refine LeO.bind ?_ (fun _ => ?_))
      | exact ih0 _ _ _
      | exact LeO.none _
      | refine LeO.ite ?_ ?_
      | refine LeO.bind ?_ (fun _ => ?_)
set_option maxHeartbeats 8000000 in
set_option maxRecDepth 100000 in
theorem spec_l3Marks.calls (k : Nat) (P0_ : Nat → Prop) (u9000_ : Value) (l0 : List Int) (a1 : Int) (r : List Int) (w0 w : World) (hB : Below w0.heap.size w0 w) (ho0 : Kd.R (Kd.int .i64) 3 w w0.heap.size P0_ u9000_ l0) (h : spec_l3Marks.f k l0 a1 = some r) :
    Calls Try.prog 57 #[u9000_, .int .i64 a1] w fun e w' => e = .returned (.tuple #[]) ∧ Kd.R (Kd.int .i64) 3 w' w0.heap.size (fun k_ => (P0_ k_ ∨ w.heap.size ≤ k_)) u9000_ r ∧ Below w0.heap.size w0 w' ∧ Kept w w' (fun k_ => P0_ k_) := by
  have HO0 := Aside0.mk (show Kd.R (Kd.int .i64) 3 w w0.heap.size (fun k_ => (P0_ k_ ∨ w.heap.size ≤ k_)) u9000_ l0 from Kd.R_mono ho0 (fun k_ hk => (.inl hk)))
  have HK := Aside0.mk (Kept.refl w (fun k_ => P0_ k_))
  have HW0 := Aside0.mk hB.size
  have HB := Aside0.mk hB
  clear hB
  have H : (spec_l3Marks.l0 k l0 a1 0) = some r := h
  clear h
  have H' := Aside0.mk H
  clear H
  go_enter Try.func57, Try.ntmps57
  go_wp2
  go_loopg [4] k (fun kq v4 w' => ∃ (x0_1 : List Int) (x4_1 : Int), v4 = .int .i64 x4_1 ∧ Aside0 (spec_l3Marks.l0 kq x0_1 a1 x4_1 = some r) ∧ Aside0 (kq ≤ k) ∧ Aside0 (Kd.R (Kd.int .i64) 3 w' w0.heap.size (fun k_ => (P0_ k_ ∨ w.heap.size ≤ k_)) u9000_ x0_1) ∧ Aside0 (Kept w w' (fun k_ => P0_ k_)) ∧ Aside0 (Below w0.heap.size w0 w'))
  case atStart => exact ⟨(l0), (0), (by first | rfl | (simp; done) | (simp [*]; done)), H', ⟨Nat.le_refl _⟩, ⟨by (with_reducible repeat (first | apply Kd.R_alloc | apply Kd.R_drewN | apply Kd.R_drew)); exact HO0.out⟩, ⟨by repeat (first | (with_reducible first | exact HK.out | apply Kept.alloc | apply Kept.drewN | apply Kept.drew) | exact HK.out)⟩, ⟨by repeat (first | (with_reducible first | exact HB.out | apply below_alloc | apply pw_below_drewN | apply below_drew1) | exact HB.out)⟩⟩
  case round =>
    clear H'
    try clear p2
    obtain ⟨x0_1, x4_1, rfl, HA, HK1, HO_0, HK, HB⟩ := hrel
    cases gk with
    | zero => exact absurd HA.out (by simp [spec_l3Marks.l0])
    | succ k1 =>
      have H := HA.out
      clear HA
      simp only [spec_l3Marks.l0] at H
      by_cases c3 : x4_1 < (x0_1.length : Int)
      · rw [if_pos c3] at H
        have c3b0 : decide (x4_1 < (x0_1.length : Int)) = true := decide_eq_true c3
        clear c3
        by_cases c4 : 0 ≤ x4_1
        · rw [if_pos c4] at H
          have c4b0 : decide (0 ≤ x4_1) = true := decide_eq_true c4
          clear c4
          by_cases c5 : (rd x0_1 x4_1) = 9
          · rw [if_pos c5] at H
            have c5b0 : ((rd x0_1 x4_1) == 9) = true := beq_iff_eq.mpr c5
            have c5b1 : ((rd x0_1 x4_1) != 9) = false := bne_eq_false_iff_eq.mpr c5
            clear c5
            by_cases c6 : x4_1 = 0
            · rw [if_pos c6] at H
              have c6b0 : (x4_1 == 0) = true := beq_iff_eq.mpr c6
              have c6b1 : (x4_1 != 0) = false := bne_eq_false_iff_eq.mpr c6
              clear c6
              obtain ⟨y105, hy105⟩ : ∃ y_ : List Int, y_ = (x0_1.set (x4_1 : Int).toNat a1) := ⟨_, rfl⟩
              replace H : (spec_l3Marks.l0 k1 y105 a1 (wrap64 (x4_1 + 1))) = some r := by first | (rw [hy105]; with_reducible exact H) | (have H2_ := (Option.bind_some _ _).symm.trans H; rw [hy105]; with_reducible exact H2_) | (have H2_ := (Option.bind_some _ _).symm.trans H; with_reducible exact H2_) | with_reducible exact H | (rw [hy105]; exact H) | exact H
              have Ny105 := Aside0.mk hy105
              clear hy105
              have H' := Aside0.mk H
              clear H
              obtain ⟨Ao8, co8, eo8⟩ := Kd.R_slice HO_0.out
              subst eo8
              have p104 : 0 ≤ (x4_1 : Int) := of_decide_eq_true (by first | (with_reducible assumption) | assumption)
              have q104 : x4_1 < (x0_1.length : Int) := of_decide_eq_true (by first | (with_reducible assumption) | assumption)
              obtain ⟨ad104, e104, hx104_0⟩ := Kd.at_int (Kd.R_reads' HO_0.out).2.2 x4_1 p104 q104
              cases e104
              replace p104 := eq_true p104
              replace q104 := eq_true q104
              have p7 : 0 ≤ (x4_1 : Int) := of_decide_eq_true (by first | (with_reducible assumption) | assumption)
              have q7 : (x4_1 : Int) < ((x0_1.length : Int) : Int) := of_decide_eq_true (by first | (with_reducible assumption) | assumption)
              obtain ⟨go7, co7, eo7, gb7, gl7, cl7, HG7⟩ := Kd.R_form HO_0.out (by omega)
              (first | cases eo7 | (injection eo7 with ea_ en_ ec_; (first | subst ea_ | (injection ea_ with ea_; subst ea_)); subst ec_; clear en_))
              have GB7 := Aside0.mk gb7
              have GG7 := Aside0.mk HG7
              clear gb7 gl7 HG7
              have HMgo7 := Aside0.mk (show (P0_ go7 ∨ w.heap.size ≤ go7) from (HO_0.out.1 _ rfl))
              (first | simp only [add_plain] at hx104_0 | skip)
              obtain ⟨hx7_0, hf7_0⟩ := Kd.R_celln 0 HO_0.out (x4_1 : Int) p7 q7
              replace p7 := eq_true p7
              replace q7 := eq_true q7
              have HP9 := Kd.R_putg HO_0.out (x4_1 : Int) a1
              go_wp2_with (first | ((with_reducible refine gate_store (t := 3) (p := 30) rfl ?_); refine store_event (t := 3) (p := 30) (v := ?vo_w10) (w1 := (wr.setCell ⟨go7, (x4_1 : Int).toNat, none⟩ (.int .i64 a1))) ?hg ?ho ?hn ?hr ?_; (case ho => rfl); (case hg => rfl); (case hn => rfl); (case hr => first | (go_simp; done) | (go_simp; rfl)); intro w10 hw; have hg : wr.grownBy w10 (some go7) := (by rw [hw]; exact HP9.2); have hp_ : Kd.R (Kd.int .i64) 3 w10 w0.heap.size (fun k_ => (P0_ k_ ∨ w.heap.size ≤ k_)) (.slice (some ⟨go7, 0, none⟩) x0_1.length co8) y105 := (by rw [hw, Ny105.out]; exact HP9.1); clear HP9; have n0_ := Aside0.mk (hp_); have n1_ := Aside0.mk ((by rw [hw]; exact below_set (HB.out) GB7.out : Below w0.heap.size w0 w10)); have n2_ := Aside0.mk (Kept.of_grown (S := (fun k_ => P0_ k_)) hg (by repeat (first | (with_reducible first | exact HK.out | apply Kept.alloc | apply Kept.drewN | apply Kept.drew) | exact HK.out)) (fun k_ e_ => (HO_0.out.1 k_ e_))); clear HO_0; clear HB; clear HK; have HO_0 := n0_; have HB := n1_; have HK := n2_; clear n0_ n1_ n2_; clear hg hw hp_))
              go_roundg k1
              case measure => have := HK1.out; omega
              case rel => exact ⟨(y105), (wrap64 (x4_1 + 1)), (by first | rfl | (simp; done) | (simp [*]; done)), H', ⟨by have := HK1.out; omega⟩, ⟨by (with_reducible repeat (first | apply Kd.R_alloc | apply Kd.R_drewN | apply Kd.R_drew)); exact HO_0.out⟩, ⟨by repeat (first | (with_reducible first | exact HK.out | apply Kept.alloc | apply Kept.drewN | apply Kept.drew) | exact HK.out)⟩, ⟨by repeat (first | (with_reducible first | exact HB.out | apply below_alloc | apply pw_below_drewN | apply below_drew1) | exact HB.out)⟩⟩
            · rw [if_neg c6] at H
              have c6b0 : (x4_1 == 0) = false := beq_eq_false_iff_ne.mpr c6
              have c6b1 : (x4_1 != 0) = true := bne_iff_ne.mpr c6
              obtain ⟨ji11, hji11⟩ : ∃ j_ : Int, (wrap64 (x4_1 - 1)) = j_ := ⟨_, rfl⟩
              replace H : (if 0 ≤ (ji11) then (if (ji11) < (x0_1.length : Int) then ((spec_l3Opens.f (rd x0_1 (ji11))).bind fun t107 => (if t107 = true then (spec_l3Marks.l0 k1 (x0_1.set (x4_1 : Int).toNat 13) a1 (wrap64 (x4_1 + 1))) else (if (rd x0_1 (ji11)) = 22 then (spec_l3Marks.l0 k1 (x0_1.set (x4_1 : Int).toNat 13) a1 (wrap64 (x4_1 + 1))) else (spec_l3Marks.l0 k1 (x0_1.set (x4_1 : Int).toNat (rd x0_1 (ji11))) a1 (wrap64 (x4_1 + 1)))))) else (none)) else (none)) = some r := by first | (rw [hji11] at H; exact H) | (simp only [hji11] at H ⊢; exact H)
              have hji11w : (IntKind.i64.wrap (x4_1 - 1)) = ji11 := (i64_w _).trans hji11
              by_cases c12 : 0 ≤ (ji11)
              · rw [if_pos c12] at H
                have c12b0 : decide (0 ≤ (ji11)) = true := decide_eq_true c12
                clear c12
                by_cases c13 : (ji11) < (x0_1.length : Int)
                · rw [if_pos c13] at H
                  have c13b0 : decide ((ji11) < (x0_1.length : Int)) = true := decide_eq_true c13
                  clear c13
                  replace H := Option.bind_eq_some_iff.mp H
                  obtain ⟨t107, A140, H⟩ := H
                  replace H : (if t107 = true then (spec_l3Marks.l0 k1 (x0_1.set (x4_1 : Int).toNat 13) a1 (wrap64 (x4_1 + 1))) else (if (rd x0_1 (ji11)) = 22 then (spec_l3Marks.l0 k1 (x0_1.set (x4_1 : Int).toNat 13) a1 (wrap64 (x4_1 + 1))) else (spec_l3Marks.l0 k1 (x0_1.set (x4_1 : Int).toNat (rd x0_1 (ji11))) a1 (wrap64 (x4_1 + 1))))) = some r := H
                  have A14 := Aside0.mk A140
                  clear A140
                  by_cases c15 : t107 = true
                  · subst c15
                    have H1 : (spec_l3Marks.l0 k1 (x0_1.set (x4_1 : Int).toNat 13) a1 (wrap64 (x4_1 + 1))) = some r := by rw [if_pos rfl] at H; exact H
                    clear H
                    have H := H1
                    clear H1
                    obtain ⟨y108, hy108⟩ : ∃ y_ : List Int, y_ = (x0_1.set (x4_1 : Int).toNat 13) := ⟨_, rfl⟩
                    replace H : (spec_l3Marks.l0 k1 y108 a1 (wrap64 (x4_1 + 1))) = some r := by first | (rw [hy108]; with_reducible exact H) | (have H2_ := (Option.bind_some _ _).symm.trans H; rw [hy108]; with_reducible exact H2_) | (have H2_ := (Option.bind_some _ _).symm.trans H; with_reducible exact H2_) | with_reducible exact H | (rw [hy108]; exact H) | exact H
                    have Ny108 := Aside0.mk hy108
                    clear hy108
                    have H' := Aside0.mk H
                    clear H
                    obtain ⟨Ao17, co17, eo17⟩ := Kd.R_slice HO_0.out
                    subst eo17
                    have p104 : 0 ≤ (x4_1 : Int) := of_decide_eq_true (by first | (with_reducible assumption) | assumption)
                    have q104 : x4_1 < (x0_1.length : Int) := of_decide_eq_true (by first | (with_reducible assumption) | assumption)
                    obtain ⟨ad104, e104, hx104_0⟩ := Kd.at_int (Kd.R_reads' HO_0.out).2.2 x4_1 p104 q104
                    cases e104
                    replace p104 := eq_true p104
                    replace q104 := eq_true q104
                    have p106 : 0 ≤ ((ji11) : Int) := of_decide_eq_true (by first | (with_reducible assumption) | assumption)
                    have q106 : (ji11) < (x0_1.length : Int) := of_decide_eq_true (by first | (with_reducible assumption) | assumption)
                    obtain ⟨ad106, e106, hx106_0⟩ := Kd.at_int (Kd.R_reads' HO_0.out).2.2 (ji11) p106 q106
                    obtain rfl : ad104 = ad106 := (by injection e106)
                    replace p106 := eq_true p106
                    replace q106 := eq_true q106
                    go_wp2_with (first | ((with_reducible refine gate_callee (f := 86) rfl ?_); refine goesL_ (some 37) rfl rfl Try.func86 (by kernel_rfl) rfl #[.int .i64 (rd x0_1 (ji11))] rfl (by (try simp only [List.map_toArray, List.map_cons, List.map_nil]); first | done | (simp only [hji11]; rfl) | rfl | (simp only [List.length_drop, List.length_take]; rfl)) ?_; (with_reducible refine (spec_l3Opens.calls (rd x0_1 (ji11)) true _ A14.out).mono ?_); rintro e w' ⟨rfl, ⟨nd, rfl⟩⟩; refine ⟨_, rfl, ?_⟩; (try (rw [drewN_self wr]; generalize hq_ : World.drewN wr _ = wr; have n0_ : Aside0 (Kd.R (Kd.int .i64) 3 wr w0.heap.size (fun k_ => (P0_ k_ ∨ w.heap.size ≤ k_)) (.slice (some ad104) x0_1.length co17) x0_1) := ⟨by rw [← hq_]; exact (by (with_reducible repeat (first | apply Kd.R_alloc | apply Kd.R_drewN | apply Kd.R_drew)); exact HO_0.out)⟩; have n1_ : Aside0 (Kept w wr (fun k_ => P0_ k_)) := ⟨by rw [← hq_]; exact (by repeat (first | (with_reducible first | exact HK.out | apply Kept.alloc | apply Kept.drewN | apply Kept.drew) | exact HK.out))⟩; have n2_ : Aside0 (Below w0.heap.size w0 wr) := ⟨by rw [← hq_]; exact (by repeat (first | (with_reducible first | exact HB.out | apply below_alloc | apply pw_below_drewN | apply below_drew1) | exact HB.out))⟩; clear HO_0 HK HB hq_; have HO_0 := n0_; have HK := n1_; have HB := n2_; clear n0_ n1_ n2_)); have p16 : 0 ≤ (x4_1 : Int) := of_decide_eq_true (by first | (with_reducible assumption) | assumption); have q16 : (x4_1 : Int) < ((x0_1.length : Int) : Int) := of_decide_eq_true (by first | (with_reducible assumption) | assumption); obtain ⟨go16, co16, eo16, gb16, gl16, cl16, HG16⟩ := Kd.R_form HO_0.out (by omega); (first | cases eo16 | (injection eo16 with ea_ en_ ec_; (first | subst ea_ | (injection ea_ with ea_; subst ea_)); subst ec_; clear en_)); have GB16 := Aside0.mk gb16; have GG16 := Aside0.mk HG16; clear gb16 gl16 HG16; have HMgo16 := Aside0.mk (show (P0_ go16 ∨ w.heap.size ≤ go16) from (HO_0.out.1 _ rfl)); (first | simp only [add_plain] at hx104_0 | skip); (first | simp only [add_plain] at hx106_0 | skip); obtain ⟨hx16_0, hf16_0⟩ := Kd.R_celln 0 HO_0.out (x4_1 : Int) p16 q16; replace p16 := eq_true p16; replace q16 := eq_true q16; obtain ⟨hy18_, hz18_⟩ := Kd.R_celln 0 HO_0.out (x4_1 : Int) (of_decide_eq_true (by first | (with_reducible assumption) | assumption)) (of_decide_eq_true (by first | (with_reducible assumption) | assumption)); have HP18 := Kd.R_putg HO_0.out (x4_1 : Int) 13) | ((with_reducible refine gate_store (t := 3) (p := 48) rfl ?_); refine store_event (t := 3) (p := 48) (v := ?vo_w19) (w1 := (wr.setCell ⟨go16, (x4_1 : Int).toNat, none⟩ (.int .i64 13))) ?hg ?ho ?hn ?hr ?_; (case ho => rfl); (case hg => rfl); (case hn => rfl); (case hr => first | (go_simp; done) | (go_simp; rfl)); intro w19 hw; have hg : wr.grownBy w19 (some go16) := (by rw [hw]; exact HP18.2); have hp_ : Kd.R (Kd.int .i64) 3 w19 w0.heap.size (fun k_ => (P0_ k_ ∨ w.heap.size ≤ k_)) (.slice (some ⟨go16, 0, none⟩) x0_1.length co17) y108 := (by rw [hw, Ny108.out]; exact HP18.1); clear HP18; have n0_ := Aside0.mk (hp_); have n1_ := Aside0.mk ((by rw [hw]; exact below_set (HB.out) GB16.out : Below w0.heap.size w0 w19)); have n2_ := Aside0.mk (Kept.of_grown (S := (fun k_ => P0_ k_)) hg (by repeat (first | (with_reducible first | exact HK.out | apply Kept.alloc | apply Kept.drewN | apply Kept.drew) | exact HK.out)) (fun k_ e_ => (HO_0.out.1 k_ e_))); clear HO_0; clear HB; clear HK; have HO_0 := n0_; have HB := n1_; have HK := n2_; clear n0_ n1_ n2_; clear hg hw hp_))
                    go_roundg k1
                    case measure => have := HK1.out; omega
                    case rel => exact ⟨(y108), (wrap64 (x4_1 + 1)), (by first | rfl | (simp; done) | (simp [*]; done)), H', ⟨by have := HK1.out; omega⟩, ⟨by (with_reducible repeat (first | apply Kd.R_alloc | apply Kd.R_drewN | apply Kd.R_drew)); exact HO_0.out⟩, ⟨by repeat (first | (with_reducible first | exact HK.out | apply Kept.alloc | apply Kept.drewN | apply Kept.drew) | exact HK.out)⟩, ⟨by repeat (first | (with_reducible first | exact HB.out | apply below_alloc | apply pw_below_drewN | apply below_drew1) | exact HB.out)⟩⟩
                  · replace c15 := Bool.eq_false_iff.mpr c15
                    subst c15
                    have H1 : (if (rd x0_1 (ji11)) = 22 then (spec_l3Marks.l0 k1 (x0_1.set (x4_1 : Int).toNat 13) a1 (wrap64 (x4_1 + 1))) else (spec_l3Marks.l0 k1 (x0_1.set (x4_1 : Int).toNat (rd x0_1 (ji11))) a1 (wrap64 (x4_1 + 1)))) = some r := by rw [if_neg (show ¬ (false = true) by decide)] at H; exact H
                    clear H
                    have H := H1
                    clear H1
                    by_cases c20 : (rd x0_1 (ji11)) = 22
                    · rw [if_pos c20] at H
                      have c20b0 : ((rd x0_1 (ji11)) == 22) = true := beq_iff_eq.mpr c20
                      have c20b1 : ((rd x0_1 (ji11)) != 22) = false := bne_eq_false_iff_eq.mpr c20
                      clear c20
                      obtain ⟨y110, hy110⟩ : ∃ y_ : List Int, y_ = (x0_1.set (x4_1 : Int).toNat 13) := ⟨_, rfl⟩
                      replace H : (spec_l3Marks.l0 k1 y110 a1 (wrap64 (x4_1 + 1))) = some r := by first | (rw [hy110]; with_reducible exact H) | (have H2_ := (Option.bind_some _ _).symm.trans H; rw [hy110]; with_reducible exact H2_) | (have H2_ := (Option.bind_some _ _).symm.trans H; with_reducible exact H2_) | with_reducible exact H | (rw [hy110]; exact H) | exact H
                      have Ny110 := Aside0.mk hy110
                      clear hy110
                      have H' := Aside0.mk H
                      clear H
                      obtain ⟨Ao22, co22, eo22⟩ := Kd.R_slice HO_0.out
                      subst eo22
                      have p104 : 0 ≤ (x4_1 : Int) := of_decide_eq_true (by first | (with_reducible assumption) | assumption)
                      have q104 : x4_1 < (x0_1.length : Int) := of_decide_eq_true (by first | (with_reducible assumption) | assumption)
                      obtain ⟨ad104, e104, hx104_0⟩ := Kd.at_int (Kd.R_reads' HO_0.out).2.2 x4_1 p104 q104
                      cases e104
                      replace p104 := eq_true p104
                      replace q104 := eq_true q104
                      have p106 : 0 ≤ ((ji11) : Int) := of_decide_eq_true (by first | (with_reducible assumption) | assumption)
                      have q106 : (ji11) < (x0_1.length : Int) := of_decide_eq_true (by first | (with_reducible assumption) | assumption)
                      obtain ⟨ad106, e106, hx106_0⟩ := Kd.at_int (Kd.R_reads' HO_0.out).2.2 (ji11) p106 q106
                      obtain rfl : ad104 = ad106 := (by injection e106)
                      replace p106 := eq_true p106
                      replace q106 := eq_true q106
                      go_wp2_with (first | ((with_reducible refine gate_callee (f := 86) rfl ?_); refine goesL_ (some 37) rfl rfl Try.func86 (by kernel_rfl) rfl #[.int .i64 (rd x0_1 (ji11))] rfl (by (try simp only [List.map_toArray, List.map_cons, List.map_nil]); first | done | (simp only [hji11]; rfl) | rfl | (simp only [List.length_drop, List.length_take]; rfl)) ?_; (with_reducible refine (spec_l3Opens.calls (rd x0_1 (ji11)) false _ A14.out).mono ?_); rintro e w' ⟨rfl, ⟨nd, rfl⟩⟩; refine ⟨_, rfl, ?_⟩; (try (rw [drewN_self wr]; generalize hq_ : World.drewN wr _ = wr; have n0_ : Aside0 (Kd.R (Kd.int .i64) 3 wr w0.heap.size (fun k_ => (P0_ k_ ∨ w.heap.size ≤ k_)) (.slice (some ad104) x0_1.length co22) x0_1) := ⟨by rw [← hq_]; exact (by (with_reducible repeat (first | apply Kd.R_alloc | apply Kd.R_drewN | apply Kd.R_drew)); exact HO_0.out)⟩; have n1_ : Aside0 (Kept w wr (fun k_ => P0_ k_)) := ⟨by rw [← hq_]; exact (by repeat (first | (with_reducible first | exact HK.out | apply Kept.alloc | apply Kept.drewN | apply Kept.drew) | exact HK.out))⟩; have n2_ : Aside0 (Below w0.heap.size w0 wr) := ⟨by rw [← hq_]; exact (by repeat (first | (with_reducible first | exact HB.out | apply below_alloc | apply pw_below_drewN | apply below_drew1) | exact HB.out))⟩; clear HO_0 HK HB hq_; have HO_0 := n0_; have HK := n1_; have HB := n2_; clear n0_ n1_ n2_)); have p109 : 0 ≤ ((ji11) : Int) := of_decide_eq_true (by first | (with_reducible assumption) | assumption); have q109 : (ji11) < (x0_1.length : Int) := of_decide_eq_true (by first | (with_reducible assumption) | assumption); obtain ⟨ad109, e109, hx109_0⟩ := Kd.at_int (Kd.R_reads' HO_0.out).2.2 (ji11) p109 q109; obtain rfl : ad104 = ad109 := (by injection e109); replace p109 := eq_true p109; replace q109 := eq_true q109; have p21 : 0 ≤ (x4_1 : Int) := of_decide_eq_true (by first | (with_reducible assumption) | assumption); have q21 : (x4_1 : Int) < ((x0_1.length : Int) : Int) := of_decide_eq_true (by first | (with_reducible assumption) | assumption); obtain ⟨go21, co21, eo21, gb21, gl21, cl21, HG21⟩ := Kd.R_form HO_0.out (by omega); (first | cases eo21 | (injection eo21 with ea_ en_ ec_; (first | subst ea_ | (injection ea_ with ea_; subst ea_)); subst ec_; clear en_)); have GB21 := Aside0.mk gb21; have GG21 := Aside0.mk HG21; clear gb21 gl21 HG21; have HMgo21 := Aside0.mk (show (P0_ go21 ∨ w.heap.size ≤ go21) from (HO_0.out.1 _ rfl)); (first | simp only [add_plain] at hx104_0 | skip); (first | simp only [add_plain] at hx106_0 | skip); (first | simp only [add_plain] at hx109_0 | skip); obtain ⟨hx21_0, hf21_0⟩ := Kd.R_celln 0 HO_0.out (x4_1 : Int) p21 q21; replace p21 := eq_true p21; replace q21 := eq_true q21; obtain ⟨hy23_, hz23_⟩ := Kd.R_celln 0 HO_0.out (x4_1 : Int) (of_decide_eq_true (by first | (with_reducible assumption) | assumption)) (of_decide_eq_true (by first | (with_reducible assumption) | assumption)); have HP23 := Kd.R_putg HO_0.out (x4_1 : Int) 13) | ((with_reducible refine gate_store (t := 3) (p := 48) rfl ?_); refine store_event (t := 3) (p := 48) (v := ?vo_w24) (w1 := (wr.setCell ⟨go21, (x4_1 : Int).toNat, none⟩ (.int .i64 13))) ?hg ?ho ?hn ?hr ?_; (case ho => rfl); (case hg => rfl); (case hn => rfl); (case hr => first | (go_simp; done) | (go_simp; rfl)); intro w24 hw; have hg : wr.grownBy w24 (some go21) := (by rw [hw]; exact HP23.2); have hp_ : Kd.R (Kd.int .i64) 3 w24 w0.heap.size (fun k_ => (P0_ k_ ∨ w.heap.size ≤ k_)) (.slice (some ⟨go21, 0, none⟩) x0_1.length co22) y110 := (by rw [hw, Ny110.out]; exact HP23.1); clear HP23; have n0_ := Aside0.mk (hp_); have n1_ := Aside0.mk ((by rw [hw]; exact below_set (HB.out) GB21.out : Below w0.heap.size w0 w24)); have n2_ := Aside0.mk (Kept.of_grown (S := (fun k_ => P0_ k_)) hg (by repeat (first | (with_reducible first | exact HK.out | apply Kept.alloc | apply Kept.drewN | apply Kept.drew) | exact HK.out)) (fun k_ e_ => (HO_0.out.1 k_ e_))); clear HO_0; clear HB; clear HK; have HO_0 := n0_; have HB := n1_; have HK := n2_; clear n0_ n1_ n2_; clear hg hw hp_))
                      go_roundg k1
                      case measure => have := HK1.out; omega
                      case rel => exact ⟨(y110), (wrap64 (x4_1 + 1)), (by first | rfl | (simp; done) | (simp [*]; done)), H', ⟨by have := HK1.out; omega⟩, ⟨by (with_reducible repeat (first | apply Kd.R_alloc | apply Kd.R_drewN | apply Kd.R_drew)); exact HO_0.out⟩, ⟨by repeat (first | (with_reducible first | exact HK.out | apply Kept.alloc | apply Kept.drewN | apply Kept.drew) | exact HK.out)⟩, ⟨by repeat (first | (with_reducible first | exact HB.out | apply below_alloc | apply pw_below_drewN | apply below_drew1) | exact HB.out)⟩⟩
                    · rw [if_neg c20] at H
                      have c20b0 : ((rd x0_1 (ji11)) == 22) = false := beq_eq_false_iff_ne.mpr c20
                      have c20b1 : ((rd x0_1 (ji11)) != 22) = true := bne_iff_ne.mpr c20
                      obtain ⟨y112, hy112⟩ : ∃ y_ : List Int, y_ = (x0_1.set (x4_1 : Int).toNat (rd x0_1 (ji11))) := ⟨_, rfl⟩
                      replace H : (spec_l3Marks.l0 k1 y112 a1 (wrap64 (x4_1 + 1))) = some r := by first | (rw [hy112]; with_reducible exact H) | (have H2_ := (Option.bind_some _ _).symm.trans H; rw [hy112]; with_reducible exact H2_) | (have H2_ := (Option.bind_some _ _).symm.trans H; with_reducible exact H2_) | with_reducible exact H | (rw [hy112]; exact H) | exact H
                      have Ny112 := Aside0.mk hy112
                      clear hy112
                      have H' := Aside0.mk H
                      clear H
                      obtain ⟨Ao26, co26, eo26⟩ := Kd.R_slice HO_0.out
                      subst eo26
                      have p104 : 0 ≤ (x4_1 : Int) := of_decide_eq_true (by first | (with_reducible assumption) | assumption)
                      have q104 : x4_1 < (x0_1.length : Int) := of_decide_eq_true (by first | (with_reducible assumption) | assumption)
                      obtain ⟨ad104, e104, hx104_0⟩ := Kd.at_int (Kd.R_reads' HO_0.out).2.2 x4_1 p104 q104
                      cases e104
                      replace p104 := eq_true p104
                      replace q104 := eq_true q104
                      have p106 : 0 ≤ ((ji11) : Int) := of_decide_eq_true (by first | (with_reducible assumption) | assumption)
                      have q106 : (ji11) < (x0_1.length : Int) := of_decide_eq_true (by first | (with_reducible assumption) | assumption)
                      obtain ⟨ad106, e106, hx106_0⟩ := Kd.at_int (Kd.R_reads' HO_0.out).2.2 (ji11) p106 q106
                      obtain rfl : ad104 = ad106 := (by injection e106)
                      replace p106 := eq_true p106
                      replace q106 := eq_true q106
                      go_wp2_with (first | ((with_reducible refine gate_callee (f := 86) rfl ?_); refine goesL_ (some 37) rfl rfl Try.func86 (by kernel_rfl) rfl #[.int .i64 (rd x0_1 (ji11))] rfl (by (try simp only [List.map_toArray, List.map_cons, List.map_nil]); first | done | (simp only [hji11]; rfl) | rfl | (simp only [List.length_drop, List.length_take]; rfl)) ?_; (with_reducible refine (spec_l3Opens.calls (rd x0_1 (ji11)) false _ A14.out).mono ?_); rintro e w' ⟨rfl, ⟨nd, rfl⟩⟩; refine ⟨_, rfl, ?_⟩; (try (rw [drewN_self wr]; generalize hq_ : World.drewN wr _ = wr; have n0_ : Aside0 (Kd.R (Kd.int .i64) 3 wr w0.heap.size (fun k_ => (P0_ k_ ∨ w.heap.size ≤ k_)) (.slice (some ad104) x0_1.length co26) x0_1) := ⟨by rw [← hq_]; exact (by (with_reducible repeat (first | apply Kd.R_alloc | apply Kd.R_drewN | apply Kd.R_drew)); exact HO_0.out)⟩; have n1_ : Aside0 (Kept w wr (fun k_ => P0_ k_)) := ⟨by rw [← hq_]; exact (by repeat (first | (with_reducible first | exact HK.out | apply Kept.alloc | apply Kept.drewN | apply Kept.drew) | exact HK.out))⟩; have n2_ : Aside0 (Below w0.heap.size w0 wr) := ⟨by rw [← hq_]; exact (by repeat (first | (with_reducible first | exact HB.out | apply below_alloc | apply pw_below_drewN | apply below_drew1) | exact HB.out))⟩; clear HO_0 HK HB hq_; have HO_0 := n0_; have HK := n1_; have HB := n2_; clear n0_ n1_ n2_)); have p109 : 0 ≤ ((ji11) : Int) := of_decide_eq_true (by first | (with_reducible assumption) | assumption); have q109 : (ji11) < (x0_1.length : Int) := of_decide_eq_true (by first | (with_reducible assumption) | assumption); obtain ⟨ad109, e109, hx109_0⟩ := Kd.at_int (Kd.R_reads' HO_0.out).2.2 (ji11) p109 q109; obtain rfl : ad104 = ad109 := (by injection e109); replace p109 := eq_true p109; replace q109 := eq_true q109; have p111 : 0 ≤ ((ji11) : Int) := of_decide_eq_true (by first | (with_reducible assumption) | assumption); have q111 : (ji11) < (x0_1.length : Int) := of_decide_eq_true (by first | (with_reducible assumption) | assumption); obtain ⟨ad111, e111, hx111_0⟩ := Kd.at_int (Kd.R_reads' HO_0.out).2.2 (ji11) p111 q111; obtain rfl : ad104 = ad111 := (by injection e111); replace p111 := eq_true p111; replace q111 := eq_true q111; have p25 : 0 ≤ (x4_1 : Int) := of_decide_eq_true (by first | (with_reducible assumption) | assumption); have q25 : (x4_1 : Int) < ((x0_1.length : Int) : Int) := of_decide_eq_true (by first | (with_reducible assumption) | assumption); obtain ⟨go25, co25, eo25, gb25, gl25, cl25, HG25⟩ := Kd.R_form HO_0.out (by omega); (first | cases eo25 | (injection eo25 with ea_ en_ ec_; (first | subst ea_ | (injection ea_ with ea_; subst ea_)); subst ec_; clear en_)); have GB25 := Aside0.mk gb25; have GG25 := Aside0.mk HG25; clear gb25 gl25 HG25; have HMgo25 := Aside0.mk (show (P0_ go25 ∨ w.heap.size ≤ go25) from (HO_0.out.1 _ rfl)); (first | simp only [add_plain] at hx104_0 | skip); (first | simp only [add_plain] at hx106_0 | skip); (first | simp only [add_plain] at hx109_0 | skip); (first | simp only [add_plain] at hx111_0 | skip); obtain ⟨hx25_0, hf25_0⟩ := Kd.R_celln 0 HO_0.out (x4_1 : Int) p25 q25; replace p25 := eq_true p25; replace q25 := eq_true q25; obtain ⟨hy27_, hz27_⟩ := Kd.R_celln 0 HO_0.out (x4_1 : Int) (of_decide_eq_true (by first | (with_reducible assumption) | assumption)) (of_decide_eq_true (by first | (with_reducible assumption) | assumption)); have HP27 := Kd.R_putg HO_0.out (x4_1 : Int) (rd x0_1 (ji11))) | ((with_reducible refine gate_store (t := 3) (p := 23) rfl ?_); refine store_event (t := 3) (p := 23) (v := ?vo_w28) (w1 := (wr.setCell ⟨go25, (x4_1 : Int).toNat, none⟩ (.int .i64 (rd x0_1 (ji11))))) ?hg ?ho ?hn ?hr ?_; (case ho => rfl); (case hg => rfl); (case hn => rfl); (case hr => first | (go_simp; done) | (go_simp; rfl)); intro w28 hw; have hg : wr.grownBy w28 (some go25) := (by rw [hw]; exact HP27.2); have hp_ : Kd.R (Kd.int .i64) 3 w28 w0.heap.size (fun k_ => (P0_ k_ ∨ w.heap.size ≤ k_)) (.slice (some ⟨go25, 0, none⟩) x0_1.length co26) y112 := (by rw [hw, Ny112.out]; exact HP27.1); clear HP27; have n0_ := Aside0.mk (hp_); have n1_ := Aside0.mk ((by rw [hw]; exact below_set (HB.out) GB25.out : Below w0.heap.size w0 w28)); have n2_ := Aside0.mk (Kept.of_grown (S := (fun k_ => P0_ k_)) hg (by repeat (first | (with_reducible first | exact HK.out | apply Kept.alloc | apply Kept.drewN | apply Kept.drew) | exact HK.out)) (fun k_ e_ => (HO_0.out.1 k_ e_))); clear HO_0; clear HB; clear HK; have HO_0 := n0_; have HB := n1_; have HK := n2_; clear n0_ n1_ n2_; clear hg hw hp_))
                      go_roundg k1
                      case measure => have := HK1.out; omega
                      case rel => exact ⟨(y112), (wrap64 (x4_1 + 1)), (by first | rfl | (simp; done) | (simp [*]; done)), H', ⟨by have := HK1.out; omega⟩, ⟨by (with_reducible repeat (first | apply Kd.R_alloc | apply Kd.R_drewN | apply Kd.R_drew)); exact HO_0.out⟩, ⟨by repeat (first | (with_reducible first | exact HK.out | apply Kept.alloc | apply Kept.drewN | apply Kept.drew) | exact HK.out)⟩, ⟨by repeat (first | (with_reducible first | exact HB.out | apply below_alloc | apply pw_below_drewN | apply below_drew1) | exact HB.out)⟩⟩
                · rw [if_neg c13] at H
                  exact absurd H (by simp)
              · rw [if_neg c12] at H
                exact absurd H (by simp)
          · rw [if_neg c5] at H
            have c5b0 : ((rd x0_1 x4_1) == 9) = false := beq_eq_false_iff_ne.mpr c5
            have c5b1 : ((rd x0_1 x4_1) != 9) = true := bne_iff_ne.mpr c5
            have H' := Aside0.mk H
            clear H
            obtain ⟨Ao29, co29, eo29⟩ := Kd.R_slice HO_0.out
            subst eo29
            have p104 : 0 ≤ (x4_1 : Int) := of_decide_eq_true (by first | (with_reducible assumption) | assumption)
            have q104 : x4_1 < (x0_1.length : Int) := of_decide_eq_true (by first | (with_reducible assumption) | assumption)
            obtain ⟨ad104, e104, hx104_0⟩ := Kd.at_int (Kd.R_reads' HO_0.out).2.2 x4_1 p104 q104
            cases e104
            replace p104 := eq_true p104
            replace q104 := eq_true q104
            go_wp2
            go_roundg k1
            case measure => have := HK1.out; omega
            case rel => exact ⟨(x0_1), (wrap64 (x4_1 + 1)), (by first | rfl | (simp; done) | (simp [*]; done)), H', ⟨by have := HK1.out; omega⟩, ⟨by (with_reducible repeat (first | apply Kd.R_alloc | apply Kd.R_drewN | apply Kd.R_drew)); exact HO_0.out⟩, ⟨by repeat (first | (with_reducible first | exact HK.out | apply Kept.alloc | apply Kept.drewN | apply Kept.drew) | exact HK.out)⟩, ⟨by repeat (first | (with_reducible first | exact HB.out | apply below_alloc | apply pw_below_drewN | apply below_drew1) | exact HB.out)⟩⟩
        · rw [if_neg c4] at H
          exact absurd H (by simp)
      · rw [if_neg c3] at H
        have c3b0 : decide (x4_1 < (x0_1.length : Int)) = false := decide_eq_false c3
        clear c3
        obtain rfl := Option.some.inj H
        obtain ⟨Ao30, co30, eo30⟩ := Kd.R_slice HO_0.out
        subst eo30
        go_wp2
        first | go_end0 | ((try simp only [Exit.inBlock, Exit.then]); refine bodyPost_ret (results_none rfl _ _ _) rfl ?_)
        exact ⟨by first | rfl | (simp [errW_none, errW_some] <;> rfl) | (simp [*, errW_none, errW_some] <;> rfl), by (with_reducible repeat (first | apply Kd.R_alloc | apply Kd.R_drewN | apply Kd.R_drew)); exact HO_0.out, by repeat (first | (with_reducible first | exact HB.out | apply below_alloc | apply pw_below_drewN | apply below_drew1) | exact HB.out), by repeat (first | (with_reducible first | exact HK.out | apply Kept.alloc | apply Kept.drewN | apply Kept.drew) | exact HK.out)⟩

end Go.Proofs.Ytojehfdioeglgaa.S

namespace Go.Proofs.Ytojehfdioeglgaa.S
open Go.RowKit Go.Proofs.YtojehfdioeglgaaW.PrintWords Go.Proofs.YtojehfdioeglgaaW.PrintLast Go.Proofs.YtojehfdioeglgaaW.PrintMore
attribute [local go_sem] max2_int min2_int max_two min_two max_three min_three max_four min_four   -- for this text's walks alone
set_option linter.unusedVariables false
set_option linter.unusedSimpArgs false

/-! ### spec_l3Strong: function 58 -/
def spec_l3Strong.l0 : Nat → List Int → Int → Int → Option (Int)
  | 0, _, _, _ => none
  | k + 1, x0, x2, x7 => if x7 ≥ 0 then (if 0 ≤ x7 then (if x7 < (x0.length : Int) then (if (rd x0 x7) = 1 then (some (rd x0 x7)) else (if (rd x0 x7) = 2 then (some (rd x0 x7)) else (if (rd x0 x7) = 3 then (some (rd x0 x7)) else (spec_l3Strong.l0 k x0 x2 (wrap64 (x7 - 1)))))) else (none)) else (none)) else (some x2)
def spec_l3Strong.f (k : Nat) (l0 : List Int) (a1 : Int) (a2 : Int) : Option (Int) := spec_l3Strong.l0 k l0 a2 a1
theorem spec_l3Strong.mono_l : ∀ k, (∀ y0 y1 y2, LeO (spec_l3Strong.l0 k y0 y1 y2) (spec_l3Strong.l0 (k + 1) y0 y1 y2))
  | 0 => fun _ _ _ r h => by simp [spec_l3Strong.l0] at h
  | k + 1 => by
    have ih0 := spec_l3Strong.mono_l k
    · intro y0 y1 y2
      unfold spec_l3Strong.l0
      repeat' first
      | (with_reducible exact ih0 _ _ _)
      | (with_reducible exact LeO.refl _)
      | (with_reducible exact LeO.none _)
      | (with_reducible refine LeO.ite ?_ ?_)
      | (with_reducible refine LeO.bind ?_ (fun _ => ?_))
      | exact ih0 _ _ _
      | exact LeO.none _
      | refine LeO.ite ?_ ?_
      | refine LeO.bind ?_ (fun _ => ?_)
theorem spec_l3Strong.mono : ∀ a0 a1 a2 k, LeO (spec_l3Strong.f k a0 a1 a2) (spec_l3Strong.f (k + 1) a0 a1 a2) := by
  intro a0 a1 a2 k
  have ih0 := spec_l3Strong.mono_l k
  unfold spec_l3Strong.f
  repeat' first
      | (with_reducible exact ih0 _ _ _)
      | (with_reducible exact LeO.refl _)
      | (with_reducible exact LeO.none _)
      | (with_reducible refine LeO.ite ?_ ?_)
      | (with_reducible refine LeO.bind ?_ (fun _ => ?_))
      | exact ih0 _ _ _
      | exact LeO.none _
      | refine LeO.ite ?_ ?_
      | refine LeO.bind ?_ (fun _ => ?_)
set_option maxHeartbeats 8000000 in
set_option maxRecDepth 100000 in
theorem spec_l3Strong.calls (k : Nat) (A0 : Option Addr) (c0 : Nat) (l0 : List Int) (a1 : Int) (a2 : Int) (r : Int) (w : World) (hr0 : Kd.C (Kd.int .i64) w A0 l0.length l0) (hc0 : l0.length ≤ c0) (h : spec_l3Strong.f k l0 a1 a2 = some r) :
    Calls Try.prog 58 #[.slice A0 l0.length c0, .int .i64 a1, .int .i64 a2] w fun e w' => e = .returned (.int .i64 r) ∧ Drawn0 w w' := by
  have HR0 := Aside0.mk hr0
  have HC0 := Aside0.mk hc0
  clear hr0 hc0
  have H : (spec_l3Strong.l0 k l0 a2 a1) = some r := h
  clear h
  have H' := Aside0.mk H
  clear H
  go_enter Try.func58, Try.ntmps58
  go_wp2
  go_loopg [7] k (fun kq v7 w' => ∃ (x7_1 : Int), v7 = .int .i64 x7_1 ∧ Aside0 (spec_l3Strong.l0 kq l0 a2 x7_1 = some r) ∧ Aside0 (kq ≤ k) ∧ Drawn0 w w')
  case atStart => exact ⟨(a1), (by first | rfl | (simp; done) | (simp [*]; done)), H', ⟨Nat.le_refl _⟩, by repeat (first | exact Drawn0.refl _ | apply Drawn0.step)⟩
  case round =>
    clear H'
    try clear p2
    obtain ⟨x7_1, rfl, HA, HK1, ⟨m1, rfl⟩⟩ := hrel
    cases gk with
    | zero => exact absurd HA.out (by simp [spec_l3Strong.l0])
    | succ k1 =>
      have H := HA.out
      clear HA
      simp only [spec_l3Strong.l0] at H
      by_cases c4 : x7_1 ≥ 0
      · rw [if_pos c4] at H
        have c4b0 : decide (0 ≤ x7_1) = true := decide_eq_true c4
        clear c4
        by_cases c5 : 0 ≤ x7_1
        · rw [if_pos c5] at H
          have c5b0 : decide (0 ≤ x7_1) = true := decide_eq_true c5
          clear c5
          by_cases c6 : x7_1 < (l0.length : Int)
          · rw [if_pos c6] at H
            have c6b0 : decide (x7_1 < (l0.length : Int)) = true := decide_eq_true c6
            clear c6
            by_cases c7 : (rd l0 x7_1) = 1
            · rw [if_pos c7] at H
              have c7b0 : ((rd l0 x7_1) == 1) = true := beq_iff_eq.mpr c7
              have c7b1 : ((rd l0 x7_1) != 1) = false := bne_eq_false_iff_eq.mpr c7
              clear c7
              obtain rfl := Option.some.inj H
              have p113 : 0 ≤ (x7_1 : Int) := of_decide_eq_true (by first | (with_reducible assumption) | assumption)
              have q113 : x7_1 < (l0.length : Int) := of_decide_eq_true (by first | (with_reducible assumption) | assumption)
              obtain ⟨ad113, e113, hx113_0⟩ := Kd.at_int HR0.out x7_1 p113 q113
              cases e113
              replace p113 := eq_true p113
              replace q113 := eq_true q113
              have p114 : 0 ≤ (x7_1 : Int) := of_decide_eq_true (by first | (with_reducible assumption) | assumption)
              have q114 : x7_1 < (l0.length : Int) := of_decide_eq_true (by first | (with_reducible assumption) | assumption)
              obtain ⟨ad114, e114, hx114_0⟩ := Kd.at_int HR0.out x7_1 p114 q114
              obtain rfl : ad113 = ad114 := (by injection e114)
              replace p114 := eq_true p114
              replace q114 := eq_true q114
              go_wp2
              go_ret
              exact ⟨by first | rfl | (simp; done) | (simp [*]; done), by repeat (first | exact Drawn0.refl _ | apply Drawn0.step)⟩
            · rw [if_neg c7] at H
              have c7b0 : ((rd l0 x7_1) == 1) = false := beq_eq_false_iff_ne.mpr c7
              have c7b1 : ((rd l0 x7_1) != 1) = true := bne_iff_ne.mpr c7
              by_cases c8 : (rd l0 x7_1) = 2
              · rw [if_pos c8] at H
                have c8b0 : ((rd l0 x7_1) == 2) = true := beq_iff_eq.mpr c8
                have c8b1 : ((rd l0 x7_1) != 2) = false := bne_eq_false_iff_eq.mpr c8
                clear c8
                obtain rfl := Option.some.inj H
                have p113 : 0 ≤ (x7_1 : Int) := of_decide_eq_true (by first | (with_reducible assumption) | assumption)
                have q113 : x7_1 < (l0.length : Int) := of_decide_eq_true (by first | (with_reducible assumption) | assumption)
                obtain ⟨ad113, e113, hx113_0⟩ := Kd.at_int HR0.out x7_1 p113 q113
                cases e113
                replace p113 := eq_true p113
                replace q113 := eq_true q113
                have p115 : 0 ≤ (x7_1 : Int) := of_decide_eq_true (by first | (with_reducible assumption) | assumption)
                have q115 : x7_1 < (l0.length : Int) := of_decide_eq_true (by first | (with_reducible assumption) | assumption)
                obtain ⟨ad115, e115, hx115_0⟩ := Kd.at_int HR0.out x7_1 p115 q115
                obtain rfl : ad113 = ad115 := (by injection e115)
                replace p115 := eq_true p115
                replace q115 := eq_true q115
                have p116 : 0 ≤ (x7_1 : Int) := of_decide_eq_true (by first | (with_reducible assumption) | assumption)
                have q116 : x7_1 < (l0.length : Int) := of_decide_eq_true (by first | (with_reducible assumption) | assumption)
                obtain ⟨ad116, e116, hx116_0⟩ := Kd.at_int HR0.out x7_1 p116 q116
                obtain rfl : ad113 = ad116 := (by injection e116)
                replace p116 := eq_true p116
                replace q116 := eq_true q116
                go_wp2
                go_ret
                exact ⟨by first | rfl | (simp; done) | (simp [*]; done), by repeat (first | exact Drawn0.refl _ | apply Drawn0.step)⟩
              · rw [if_neg c8] at H
                have c8b0 : ((rd l0 x7_1) == 2) = false := beq_eq_false_iff_ne.mpr c8
                have c8b1 : ((rd l0 x7_1) != 2) = true := bne_iff_ne.mpr c8
                by_cases c9 : (rd l0 x7_1) = 3
                · rw [if_pos c9] at H
                  have c9b0 : ((rd l0 x7_1) == 3) = true := beq_iff_eq.mpr c9
                  have c9b1 : ((rd l0 x7_1) != 3) = false := bne_eq_false_iff_eq.mpr c9
                  clear c9
                  obtain rfl := Option.some.inj H
                  have p113 : 0 ≤ (x7_1 : Int) := of_decide_eq_true (by first | (with_reducible assumption) | assumption)
                  have q113 : x7_1 < (l0.length : Int) := of_decide_eq_true (by first | (with_reducible assumption) | assumption)
                  obtain ⟨ad113, e113, hx113_0⟩ := Kd.at_int HR0.out x7_1 p113 q113
                  cases e113
                  replace p113 := eq_true p113
                  replace q113 := eq_true q113
                  have p115 : 0 ≤ (x7_1 : Int) := of_decide_eq_true (by first | (with_reducible assumption) | assumption)
                  have q115 : x7_1 < (l0.length : Int) := of_decide_eq_true (by first | (with_reducible assumption) | assumption)
                  obtain ⟨ad115, e115, hx115_0⟩ := Kd.at_int HR0.out x7_1 p115 q115
                  obtain rfl : ad113 = ad115 := (by injection e115)
                  replace p115 := eq_true p115
                  replace q115 := eq_true q115
                  have p117 : 0 ≤ (x7_1 : Int) := of_decide_eq_true (by first | (with_reducible assumption) | assumption)
                  have q117 : x7_1 < (l0.length : Int) := of_decide_eq_true (by first | (with_reducible assumption) | assumption)
                  obtain ⟨ad117, e117, hx117_0⟩ := Kd.at_int HR0.out x7_1 p117 q117
                  obtain rfl : ad113 = ad117 := (by injection e117)
                  replace p117 := eq_true p117
                  replace q117 := eq_true q117
                  have p118 : 0 ≤ (x7_1 : Int) := of_decide_eq_true (by first | (with_reducible assumption) | assumption)
                  have q118 : x7_1 < (l0.length : Int) := of_decide_eq_true (by first | (with_reducible assumption) | assumption)
                  obtain ⟨ad118, e118, hx118_0⟩ := Kd.at_int HR0.out x7_1 p118 q118
                  obtain rfl : ad113 = ad118 := (by injection e118)
                  replace p118 := eq_true p118
                  replace q118 := eq_true q118
                  go_wp2
                  go_ret
                  exact ⟨by first | rfl | (simp; done) | (simp [*]; done), by repeat (first | exact Drawn0.refl _ | apply Drawn0.step)⟩
                · rw [if_neg c9] at H
                  have c9b0 : ((rd l0 x7_1) == 3) = false := beq_eq_false_iff_ne.mpr c9
                  have c9b1 : ((rd l0 x7_1) != 3) = true := bne_iff_ne.mpr c9
                  have H' := Aside0.mk H
                  clear H
                  have p113 : 0 ≤ (x7_1 : Int) := of_decide_eq_true (by first | (with_reducible assumption) | assumption)
                  have q113 : x7_1 < (l0.length : Int) := of_decide_eq_true (by first | (with_reducible assumption) | assumption)
                  obtain ⟨ad113, e113, hx113_0⟩ := Kd.at_int HR0.out x7_1 p113 q113
                  cases e113
                  replace p113 := eq_true p113
                  replace q113 := eq_true q113
                  have p115 : 0 ≤ (x7_1 : Int) := of_decide_eq_true (by first | (with_reducible assumption) | assumption)
                  have q115 : x7_1 < (l0.length : Int) := of_decide_eq_true (by first | (with_reducible assumption) | assumption)
                  obtain ⟨ad115, e115, hx115_0⟩ := Kd.at_int HR0.out x7_1 p115 q115
                  obtain rfl : ad113 = ad115 := (by injection e115)
                  replace p115 := eq_true p115
                  replace q115 := eq_true q115
                  have p117 : 0 ≤ (x7_1 : Int) := of_decide_eq_true (by first | (with_reducible assumption) | assumption)
                  have q117 : x7_1 < (l0.length : Int) := of_decide_eq_true (by first | (with_reducible assumption) | assumption)
                  obtain ⟨ad117, e117, hx117_0⟩ := Kd.at_int HR0.out x7_1 p117 q117
                  obtain rfl : ad113 = ad117 := (by injection e117)
                  replace p117 := eq_true p117
                  replace q117 := eq_true q117
                  go_wp2
                  go_roundg k1
                  case measure => have := HK1.out; omega
                  case rel => exact ⟨(wrap64 (x7_1 - 1)), (by first | rfl | (simp; done) | (simp [*]; done)), H', ⟨by have := HK1.out; omega⟩, by repeat (first | exact Drawn0.refl _ | apply Drawn0.step)⟩
          · rw [if_neg c6] at H
            exact absurd H (by simp)
        · rw [if_neg c5] at H
          exact absurd H (by simp)
      · rw [if_neg c4] at H
        have c4b0 : decide (0 ≤ x7_1) = false := decide_eq_false c4
        clear c4
        obtain rfl := Option.some.inj H
        go_wp2
        go_ret
        exact ⟨by first | rfl | (simp; done) | (simp [*]; done), by repeat (first | exact Drawn0.refl _ | apply Drawn0.step)⟩

end Go.Proofs.Ytojehfdioeglgaa.S

namespace Go.Proofs.Ytojehfdioeglgaa.S
open Go.RowKit Go.Proofs.YtojehfdioeglgaaW.PrintWords Go.Proofs.YtojehfdioeglgaaW.PrintLast Go.Proofs.YtojehfdioeglgaaW.PrintMore
attribute [local go_sem] max2_int min2_int max_two min_two max_three min_three max_four min_four   -- for this text's walks alone
set_option linter.unusedVariables false
set_option linter.unusedSimpArgs false

/-! ### spec_l3Between: function 59 -/
def spec_l3Between.l0 : Nat → List Int → Int → Option (List Int)
  | 0, _, _ => none
  | k + 1, x0, x2 => if (wrap64 (x2 + 1)) < (x0.length : Int) then (if 0 ≤ (wrap64 (x2 - 1)) then (if (wrap64 (x2 - 1)) < (x0.length : Int) then (if 0 ≤ (wrap64 (x2 + 1)) then (if (rd x0 (wrap64 (x2 - 1))) = (rd x0 (wrap64 (x2 + 1))) then (if (rd x0 (wrap64 (x2 - 1))) = 4 then (if 0 ≤ x2 then (if x2 < (x0.length : Int) then (if (rd x0 x2) = 5 then (spec_l3Between.l0 k (x0.set (x2 : Int).toNat (rd x0 (wrap64 (x2 - 1)))) (wrap64 (x2 + 1))) else (if (rd x0 x2) = 8 then (spec_l3Between.l0 k (x0.set (x2 : Int).toNat (rd x0 (wrap64 (x2 - 1)))) (wrap64 (x2 + 1))) else (if (rd x0 (wrap64 (x2 - 1))) = 7 then (spec_l3Between.l0 k x0 (wrap64 (x2 + 1))) else (spec_l3Between.l0 k x0 (wrap64 (x2 + 1)))))) else (none)) else (none)) else (if (rd x0 (wrap64 (x2 - 1))) = 7 then (if 0 ≤ x2 then (if x2 < (x0.length : Int) then (if (rd x0 x2) = 8 then (spec_l3Between.l0 k (x0.set (x2 : Int).toNat (rd x0 (wrap64 (x2 - 1)))) (wrap64 (x2 + 1))) else (spec_l3Between.l0 k x0 (wrap64 (x2 + 1)))) else (none)) else (none)) else (spec_l3Between.l0 k x0 (wrap64 (x2 + 1))))) else (spec_l3Between.l0 k x0 (wrap64 (x2 + 1)))) else (none)) else (none)) else (none)) else (some x0)
def spec_l3Between.f (k : Nat) (l0 : List Int) : Option (List Int) := spec_l3Between.l0 k l0 1
theorem spec_l3Between.mono_l : ∀ k, (∀ y0 y1, LeO (spec_l3Between.l0 k y0 y1) (spec_l3Between.l0 (k + 1) y0 y1))
  | 0 => fun _ _ r h => by simp [spec_l3Between.l0] at h
  | k + 1 => by
    have ih0 := spec_l3Between.mono_l k
    · intro y0 y1
      unfold spec_l3Between.l0
      repeat' first
      | (with_reducible exact ih0 _ _)
      | (with_reducible exact LeO.refl _)
      | (with_reducible exact LeO.none _)
      | (with_reducible refine LeO.ite ?_ ?_)
      | (with_reducible refine LeO.bind ?_ (fun _ => ?_))
      | exact ih0 _ _
      | exact LeO.none _
      | refine LeO.ite ?_ ?_
      | refine LeO.bind ?_ (fun _ => ?_)
theorem spec_l3Between.mono : ∀ a0 k, LeO (spec_l3Between.f k a0) (spec_l3Between.f (k + 1) a0) := by
  intro a0 k
  have ih0 := spec_l3Between.mono_l k
  unfold spec_l3Between.f
  repeat' first
      | (with_reducible exact ih0 _ _)
      | (with_reducible exact LeO.refl _)
      | (with_reducible exact LeO.none _)
      | (with_reducible refine LeO.ite ?_ ?_)
      | (with_reducible refine LeO.bind ?_ (fun _ => ?_))
      | exact ih0 _ _
      | exact LeO.none _
      | refine LeO.ite ?_ ?_
      | refine LeO.bind ?_ (fun _ => ?_)
set_option maxHeartbeats 8000000 in
set_option maxRecDepth 100000 in
theorem spec_l3Between.calls (k : Nat) (P0_ : Nat → Prop) (u9000_ : Value) (l0 : List Int) (r : List Int) (w0 w : World) (hB : Below w0.heap.size w0 w) (ho0 : Kd.R (Kd.int .i64) 3 w w0.heap.size P0_ u9000_ l0) (h : spec_l3Between.f k l0 = some r) :
    Calls Try.prog 59 #[u9000_] w fun e w' => e = .returned (.tuple #[]) ∧ Kd.R (Kd.int .i64) 3 w' w0.heap.size (fun k_ => (P0_ k_ ∨ w.heap.size ≤ k_)) u9000_ r ∧ Below w0.heap.size w0 w' ∧ Kept w w' (fun k_ => P0_ k_) := by
  have HO0 := Aside0.mk (show Kd.R (Kd.int .i64) 3 w w0.heap.size (fun k_ => (P0_ k_ ∨ w.heap.size ≤ k_)) u9000_ l0 from Kd.R_mono ho0 (fun k_ hk => (.inl hk)))
  have HK := Aside0.mk (Kept.refl w (fun k_ => P0_ k_))
  have HW0 := Aside0.mk hB.size
  have HB := Aside0.mk hB
  clear hB
  have H : (spec_l3Between.l0 k l0 1) = some r := h
  clear h
  have H' := Aside0.mk H
  clear H
  go_enter Try.func59, Try.ntmps59
  go_wp2
  go_loopg [2] k (fun kq v2 w' => ∃ (x0_1 : List Int) (x2_1 : Int), v2 = .int .i64 x2_1 ∧ Aside0 (spec_l3Between.l0 kq x0_1 x2_1 = some r) ∧ Aside0 (kq ≤ k) ∧ Aside0 (Kd.R (Kd.int .i64) 3 w' w0.heap.size (fun k_ => (P0_ k_ ∨ w.heap.size ≤ k_)) u9000_ x0_1) ∧ Aside0 (Kept w w' (fun k_ => P0_ k_)) ∧ Aside0 (Below w0.heap.size w0 w'))
  case atStart => exact ⟨(l0), (1), (by first | rfl | (simp; done) | (simp [*]; done)), H', ⟨Nat.le_refl _⟩, ⟨by (with_reducible repeat (first | apply Kd.R_alloc | apply Kd.R_drewN | apply Kd.R_drew)); exact HO0.out⟩, ⟨by repeat (first | (with_reducible first | exact HK.out | apply Kept.alloc | apply Kept.drewN | apply Kept.drew) | exact HK.out)⟩, ⟨by repeat (first | (with_reducible first | exact HB.out | apply below_alloc | apply pw_below_drewN | apply below_drew1) | exact HB.out)⟩⟩
  case round =>
    clear H'
    obtain ⟨x0_1, x2_1, rfl, HA, HK1, HO_0, HK, HB⟩ := hrel
    cases gk with
    | zero => exact absurd HA.out (by simp [spec_l3Between.l0])
    | succ k1 =>
      have H := HA.out
      clear HA
      simp only [spec_l3Between.l0] at H
      by_cases c2 : (wrap64 (x2_1 + 1)) < (x0_1.length : Int)
      · rw [if_pos c2] at H
        have c2b0 : decide ((wrap64 (x2_1 + 1)) < (x0_1.length : Int)) = true := decide_eq_true c2
        clear c2
        obtain ⟨ji3, hji3⟩ : ∃ j_ : Int, (wrap64 (x2_1 - 1)) = j_ := ⟨_, rfl⟩
        replace H : (if 0 ≤ (ji3) then (if (ji3) < (x0_1.length : Int) then (if 0 ≤ (wrap64 (x2_1 + 1)) then (if (rd x0_1 (ji3)) = (rd x0_1 (wrap64 (x2_1 + 1))) then (if (rd x0_1 (ji3)) = 4 then (if 0 ≤ x2_1 then (if x2_1 < (x0_1.length : Int) then (if (rd x0_1 x2_1) = 5 then (spec_l3Between.l0 k1 (x0_1.set (x2_1 : Int).toNat (rd x0_1 (ji3))) (wrap64 (x2_1 + 1))) else (if (rd x0_1 x2_1) = 8 then (spec_l3Between.l0 k1 (x0_1.set (x2_1 : Int).toNat (rd x0_1 (ji3))) (wrap64 (x2_1 + 1))) else (if (rd x0_1 (ji3)) = 7 then (spec_l3Between.l0 k1 x0_1 (wrap64 (x2_1 + 1))) else (spec_l3Between.l0 k1 x0_1 (wrap64 (x2_1 + 1)))))) else (none)) else (none)) else (if (rd x0_1 (ji3)) = 7 then (if 0 ≤ x2_1 then (if x2_1 < (x0_1.length : Int) then (if (rd x0_1 x2_1) = 8 then (spec_l3Between.l0 k1 (x0_1.set (x2_1 : Int).toNat (rd x0_1 (ji3))) (wrap64 (x2_1 + 1))) else (spec_l3Between.l0 k1 x0_1 (wrap64 (x2_1 + 1)))) else (none)) else (none)) else (spec_l3Between.l0 k1 x0_1 (wrap64 (x2_1 + 1))))) else (spec_l3Between.l0 k1 x0_1 (wrap64 (x2_1 + 1)))) else (none)) else (none)) else (none)) = some r := by first | (rw [hji3] at H; exact H) | (simp only [hji3] at H ⊢; exact H)
        have hji3w : (IntKind.i64.wrap (x2_1 - 1)) = ji3 := (i64_w _).trans hji3
        by_cases c4 : 0 ≤ (ji3)
        · rw [if_pos c4] at H
          have c4b0 : decide (0 ≤ (ji3)) = true := decide_eq_true c4
          clear c4
          by_cases c5 : (ji3) < (x0_1.length : Int)
          · rw [if_pos c5] at H
            have c5b0 : decide ((ji3) < (x0_1.length : Int)) = true := decide_eq_true c5
            clear c5
            obtain ⟨ji6, hji6⟩ : ∃ j_ : Int, (wrap64 (x2_1 + 1)) = j_ := ⟨_, rfl⟩
            replace H : (if 0 ≤ (ji6) then (if (rd x0_1 (ji3)) = (rd x0_1 (ji6)) then (if (rd x0_1 (ji3)) = 4 then (if 0 ≤ x2_1 then (if x2_1 < (x0_1.length : Int) then (if (rd x0_1 x2_1) = 5 then (spec_l3Between.l0 k1 (x0_1.set (x2_1 : Int).toNat (rd x0_1 (ji3))) ji6) else (if (rd x0_1 x2_1) = 8 then (spec_l3Between.l0 k1 (x0_1.set (x2_1 : Int).toNat (rd x0_1 (ji3))) ji6) else (if (rd x0_1 (ji3)) = 7 then (spec_l3Between.l0 k1 x0_1 ji6) else (spec_l3Between.l0 k1 x0_1 ji6)))) else (none)) else (none)) else (if (rd x0_1 (ji3)) = 7 then (if 0 ≤ x2_1 then (if x2_1 < (x0_1.length : Int) then (if (rd x0_1 x2_1) = 8 then (spec_l3Between.l0 k1 (x0_1.set (x2_1 : Int).toNat (rd x0_1 (ji3))) ji6) else (spec_l3Between.l0 k1 x0_1 ji6)) else (none)) else (none)) else (spec_l3Between.l0 k1 x0_1 ji6))) else (spec_l3Between.l0 k1 x0_1 ji6)) else (none)) = some r := by first | (rw [hji6] at H; exact H) | (simp only [hji6] at H ⊢; exact H)
            (try rw [hji6] at c2b0)
            have hji6w : (IntKind.i64.wrap (x2_1 + 1)) = ji6 := (i64_w _).trans hji6
            by_cases c7 : 0 ≤ (ji6)
            · rw [if_pos c7] at H
              have c7b0 : decide (0 ≤ (ji6)) = true := decide_eq_true c7
              clear c7
              by_cases c8 : (rd x0_1 (ji3)) = (rd x0_1 (ji6))
              · rw [if_pos c8] at H
                have c8b0 : ((rd x0_1 (ji3)) == (rd x0_1 (ji6))) = true := beq_iff_eq.mpr c8
                have c8b1 : ((rd x0_1 (ji3)) != (rd x0_1 (ji6))) = false := bne_eq_false_iff_eq.mpr c8
                clear c8
                by_cases c9 : (rd x0_1 (ji3)) = 4
                · rw [if_pos c9] at H
                  have c9b0 : ((rd x0_1 (ji3)) == 4) = true := beq_iff_eq.mpr c9
                  have c9b1 : ((rd x0_1 (ji3)) != 4) = false := bne_eq_false_iff_eq.mpr c9
                  clear c9
                  by_cases c10 : 0 ≤ x2_1
                  · rw [if_pos c10] at H
                    have c10b0 : decide (0 ≤ x2_1) = true := decide_eq_true c10
                    clear c10
                    by_cases c11 : x2_1 < (x0_1.length : Int)
                    · rw [if_pos c11] at H
                      have c11b0 : decide (x2_1 < (x0_1.length : Int)) = true := decide_eq_true c11
                      clear c11
                      by_cases c12 : (rd x0_1 x2_1) = 5
                      · rw [if_pos c12] at H
                        have c12b0 : ((rd x0_1 x2_1) == 5) = true := beq_iff_eq.mpr c12
                        have c12b1 : ((rd x0_1 x2_1) != 5) = false := bne_eq_false_iff_eq.mpr c12
                        clear c12
                        obtain ⟨y122, hy122⟩ : ∃ y_ : List Int, y_ = (x0_1.set (x2_1 : Int).toNat (rd x0_1 (ji3))) := ⟨_, rfl⟩
                        replace H : (spec_l3Between.l0 k1 y122 ji6) = some r := by first | (rw [hy122]; with_reducible exact H) | (have H2_ := (Option.bind_some _ _).symm.trans H; rw [hy122]; with_reducible exact H2_) | (have H2_ := (Option.bind_some _ _).symm.trans H; with_reducible exact H2_) | with_reducible exact H | (rw [hy122]; exact H) | exact H
                        have Ny122 := Aside0.mk hy122
                        clear hy122
                        have H' := Aside0.mk H
                        clear H
                        obtain ⟨Ao14, co14, eo14⟩ := Kd.R_slice HO_0.out
                        subst eo14
                        have p119 : 0 ≤ ((ji3) : Int) := of_decide_eq_true (by first | (with_reducible assumption) | assumption)
                        have q119 : (ji3) < (x0_1.length : Int) := of_decide_eq_true (by first | (with_reducible assumption) | assumption)
                        obtain ⟨ad119, e119, hx119_0⟩ := Kd.at_int (Kd.R_reads' HO_0.out).2.2 (ji3) p119 q119
                        cases e119
                        replace p119 := eq_true p119
                        replace q119 := eq_true q119
                        have p120 : 0 ≤ ((ji6) : Int) := of_decide_eq_true (by first | (with_reducible assumption) | assumption)
                        have q120 : (ji6) < (x0_1.length : Int) := of_decide_eq_true (by first | (with_reducible assumption) | assumption)
                        obtain ⟨ad120, e120, hx120_0⟩ := Kd.at_int (Kd.R_reads' HO_0.out).2.2 (ji6) p120 q120
                        obtain rfl : ad119 = ad120 := (by injection e120)
                        replace p120 := eq_true p120
                        replace q120 := eq_true q120
                        have p121 : 0 ≤ (x2_1 : Int) := of_decide_eq_true (by first | (with_reducible assumption) | assumption)
                        have q121 : x2_1 < (x0_1.length : Int) := of_decide_eq_true (by first | (with_reducible assumption) | assumption)
                        obtain ⟨ad121, e121, hx121_0⟩ := Kd.at_int (Kd.R_reads' HO_0.out).2.2 x2_1 p121 q121
                        obtain rfl : ad119 = ad121 := (by injection e121)
                        replace p121 := eq_true p121
                        replace q121 := eq_true q121
                        have p13 : 0 ≤ (x2_1 : Int) := of_decide_eq_true (by first | (with_reducible assumption) | assumption)
                        have q13 : (x2_1 : Int) < ((x0_1.length : Int) : Int) := of_decide_eq_true (by first | (with_reducible assumption) | assumption)
                        obtain ⟨go13, co13, eo13, gb13, gl13, cl13, HG13⟩ := Kd.R_form HO_0.out (by omega)
                        (first | cases eo13 | (injection eo13 with ea_ en_ ec_; (first | subst ea_ | (injection ea_ with ea_; subst ea_)); subst ec_; clear en_))
                        have GB13 := Aside0.mk gb13
                        have GG13 := Aside0.mk HG13
                        clear gb13 gl13 HG13
                        have HMgo13 := Aside0.mk (show (P0_ go13 ∨ w.heap.size ≤ go13) from (HO_0.out.1 _ rfl))
                        (first | simp only [add_plain] at hx119_0 | skip)
                        (first | simp only [add_plain] at hx120_0 | skip)
                        (first | simp only [add_plain] at hx121_0 | skip)
                        obtain ⟨hx13_0, hf13_0⟩ := Kd.R_celln 0 HO_0.out (x2_1 : Int) p13 q13
                        replace p13 := eq_true p13
                        replace q13 := eq_true q13
                        have HP15 := Kd.R_putg HO_0.out (x2_1 : Int) (rd x0_1 (ji3))
                        go_wp2_with (first | ((with_reducible refine gate_store (t := 3) (p := 53) rfl ?_); refine store_event (t := 3) (p := 53) (v := ?vo_w16) (w1 := (wr.setCell ⟨go13, (x2_1 : Int).toNat, none⟩ (.int .i64 (rd x0_1 (ji3))))) ?hg ?ho ?hn ?hr ?_; (case ho => rfl); (case hg => rfl); (case hn => rfl); (case hr => first | (go_simp; done) | (go_simp; rfl)); intro w16 hw; have hg : wr.grownBy w16 (some go13) := (by rw [hw]; exact HP15.2); have hp_ : Kd.R (Kd.int .i64) 3 w16 w0.heap.size (fun k_ => (P0_ k_ ∨ w.heap.size ≤ k_)) (.slice (some ⟨go13, 0, none⟩) x0_1.length co14) y122 := (by rw [hw, Ny122.out]; exact HP15.1); clear HP15; have n0_ := Aside0.mk (hp_); have n1_ := Aside0.mk ((by rw [hw]; exact below_set (HB.out) GB13.out : Below w0.heap.size w0 w16)); have n2_ := Aside0.mk (Kept.of_grown (S := (fun k_ => P0_ k_)) hg (by repeat (first | (with_reducible first | exact HK.out | apply Kept.alloc | apply Kept.drewN | apply Kept.drew) | exact HK.out)) (fun k_ e_ => (HO_0.out.1 k_ e_))); clear HO_0; clear HB; clear HK; have HO_0 := n0_; have HB := n1_; have HK := n2_; clear n0_ n1_ n2_; clear hg hw hp_))
                        go_roundg k1
                        case measure => have := HK1.out; omega
                        case rel => exact ⟨(y122), (ji6), (by first | rfl | (simp; done) | (simp only [← hji6] <;> (first | rfl | simp)) | (simp [*]; done)), H', ⟨by have := HK1.out; omega⟩, ⟨by (with_reducible repeat (first | apply Kd.R_alloc | apply Kd.R_drewN | apply Kd.R_drew)); exact HO_0.out⟩, ⟨by repeat (first | (with_reducible first | exact HK.out | apply Kept.alloc | apply Kept.drewN | apply Kept.drew) | exact HK.out)⟩, ⟨by repeat (first | (with_reducible first | exact HB.out | apply below_alloc | apply pw_below_drewN | apply below_drew1) | exact HB.out)⟩⟩
                      · rw [if_neg c12] at H
                        have c12b0 : ((rd x0_1 x2_1) == 5) = false := beq_eq_false_iff_ne.mpr c12
                        have c12b1 : ((rd x0_1 x2_1) != 5) = true := bne_iff_ne.mpr c12
                        by_cases c17 : (rd x0_1 x2_1) = 8
                        · rw [if_pos c17] at H
                          have c17b0 : ((rd x0_1 x2_1) == 8) = true := beq_iff_eq.mpr c17
                          have c17b1 : ((rd x0_1 x2_1) != 8) = false := bne_eq_false_iff_eq.mpr c17
                          clear c17
                          obtain ⟨y124, hy124⟩ : ∃ y_ : List Int, y_ = (x0_1.set (x2_1 : Int).toNat (rd x0_1 (ji3))) := ⟨_, rfl⟩
                          replace H : (spec_l3Between.l0 k1 y124 ji6) = some r := by first | (rw [hy124]; with_reducible exact H) | (have H2_ := (Option.bind_some _ _).symm.trans H; rw [hy124]; with_reducible exact H2_) | (have H2_ := (Option.bind_some _ _).symm.trans H; with_reducible exact H2_) | with_reducible exact H | (rw [hy124]; exact H) | exact H
                          have Ny124 := Aside0.mk hy124
                          clear hy124
                          have H' := Aside0.mk H
                          clear H
                          obtain ⟨Ao19, co19, eo19⟩ := Kd.R_slice HO_0.out
                          subst eo19
                          have p119 : 0 ≤ ((ji3) : Int) := of_decide_eq_true (by first | (with_reducible assumption) | assumption)
                          have q119 : (ji3) < (x0_1.length : Int) := of_decide_eq_true (by first | (with_reducible assumption) | assumption)
                          obtain ⟨ad119, e119, hx119_0⟩ := Kd.at_int (Kd.R_reads' HO_0.out).2.2 (ji3) p119 q119
                          cases e119
                          replace p119 := eq_true p119
                          replace q119 := eq_true q119
                          have p120 : 0 ≤ ((ji6) : Int) := of_decide_eq_true (by first | (with_reducible assumption) | assumption)
                          have q120 : (ji6) < (x0_1.length : Int) := of_decide_eq_true (by first | (with_reducible assumption) | assumption)
                          obtain ⟨ad120, e120, hx120_0⟩ := Kd.at_int (Kd.R_reads' HO_0.out).2.2 (ji6) p120 q120
                          obtain rfl : ad119 = ad120 := (by injection e120)
                          replace p120 := eq_true p120
                          replace q120 := eq_true q120
                          have p121 : 0 ≤ (x2_1 : Int) := of_decide_eq_true (by first | (with_reducible assumption) | assumption)
                          have q121 : x2_1 < (x0_1.length : Int) := of_decide_eq_true (by first | (with_reducible assumption) | assumption)
                          obtain ⟨ad121, e121, hx121_0⟩ := Kd.at_int (Kd.R_reads' HO_0.out).2.2 x2_1 p121 q121
                          obtain rfl : ad119 = ad121 := (by injection e121)
                          replace p121 := eq_true p121
                          replace q121 := eq_true q121
                          have p123 : 0 ≤ (x2_1 : Int) := of_decide_eq_true (by first | (with_reducible assumption) | assumption)
                          have q123 : x2_1 < (x0_1.length : Int) := of_decide_eq_true (by first | (with_reducible assumption) | assumption)
                          obtain ⟨ad123, e123, hx123_0⟩ := Kd.at_int (Kd.R_reads' HO_0.out).2.2 x2_1 p123 q123
                          obtain rfl : ad119 = ad123 := (by injection e123)
                          replace p123 := eq_true p123
                          replace q123 := eq_true q123
                          have p18 : 0 ≤ (x2_1 : Int) := of_decide_eq_true (by first | (with_reducible assumption) | assumption)
                          have q18 : (x2_1 : Int) < ((x0_1.length : Int) : Int) := of_decide_eq_true (by first | (with_reducible assumption) | assumption)
                          obtain ⟨go18, co18, eo18, gb18, gl18, cl18, HG18⟩ := Kd.R_form HO_0.out (by omega)
                          (first | cases eo18 | (injection eo18 with ea_ en_ ec_; (first | subst ea_ | (injection ea_ with ea_; subst ea_)); subst ec_; clear en_))
                          have GB18 := Aside0.mk gb18
                          have GG18 := Aside0.mk HG18
                          clear gb18 gl18 HG18
                          have HMgo18 := Aside0.mk (show (P0_ go18 ∨ w.heap.size ≤ go18) from (HO_0.out.1 _ rfl))
                          (first | simp only [add_plain] at hx119_0 | skip)
                          (first | simp only [add_plain] at hx120_0 | skip)
                          (first | simp only [add_plain] at hx121_0 | skip)
                          (first | simp only [add_plain] at hx123_0 | skip)
                          obtain ⟨hx18_0, hf18_0⟩ := Kd.R_celln 0 HO_0.out (x2_1 : Int) p18 q18
                          replace p18 := eq_true p18
                          replace q18 := eq_true q18
                          have HP20 := Kd.R_putg HO_0.out (x2_1 : Int) (rd x0_1 (ji3))
                          go_wp2_with (first | ((with_reducible refine gate_store (t := 3) (p := 53) rfl ?_); refine store_event (t := 3) (p := 53) (v := ?vo_w21) (w1 := (wr.setCell ⟨go18, (x2_1 : Int).toNat, none⟩ (.int .i64 (rd x0_1 (ji3))))) ?hg ?ho ?hn ?hr ?_; (case ho => rfl); (case hg => rfl); (case hn => rfl); (case hr => first | (go_simp; done) | (go_simp; rfl)); intro w21 hw; have hg : wr.grownBy w21 (some go18) := (by rw [hw]; exact HP20.2); have hp_ : Kd.R (Kd.int .i64) 3 w21 w0.heap.size (fun k_ => (P0_ k_ ∨ w.heap.size ≤ k_)) (.slice (some ⟨go18, 0, none⟩) x0_1.length co19) y124 := (by rw [hw, Ny124.out]; exact HP20.1); clear HP20; have n0_ := Aside0.mk (hp_); have n1_ := Aside0.mk ((by rw [hw]; exact below_set (HB.out) GB18.out : Below w0.heap.size w0 w21)); have n2_ := Aside0.mk (Kept.of_grown (S := (fun k_ => P0_ k_)) hg (by repeat (first | (with_reducible first | exact HK.out | apply Kept.alloc | apply Kept.drewN | apply Kept.drew) | exact HK.out)) (fun k_ e_ => (HO_0.out.1 k_ e_))); clear HO_0; clear HB; clear HK; have HO_0 := n0_; have HB := n1_; have HK := n2_; clear n0_ n1_ n2_; clear hg hw hp_))
                          go_roundg k1
                          case measure => have := HK1.out; omega
                          case rel => exact ⟨(y124), (ji6), (by first | rfl | (simp; done) | (simp only [← hji6] <;> (first | rfl | simp)) | (simp [*]; done)), H', ⟨by have := HK1.out; omega⟩, ⟨by (with_reducible repeat (first | apply Kd.R_alloc | apply Kd.R_drewN | apply Kd.R_drew)); exact HO_0.out⟩, ⟨by repeat (first | (with_reducible first | exact HK.out | apply Kept.alloc | apply Kept.drewN | apply Kept.drew) | exact HK.out)⟩, ⟨by repeat (first | (with_reducible first | exact HB.out | apply below_alloc | apply pw_below_drewN | apply below_drew1) | exact HB.out)⟩⟩
                        · rw [if_neg c17] at H
                          have c17b0 : ((rd x0_1 x2_1) == 8) = false := beq_eq_false_iff_ne.mpr c17
                          have c17b1 : ((rd x0_1 x2_1) != 8) = true := bne_iff_ne.mpr c17
                          by_cases c22 : (rd x0_1 (ji3)) = 7
                          · rw [if_pos c22] at H
                            have c22b0 : ((rd x0_1 (ji3)) == 7) = true := beq_iff_eq.mpr c22
                            have c22b1 : ((rd x0_1 (ji3)) != 7) = false := bne_eq_false_iff_eq.mpr c22
                            clear c22
                            have H' := Aside0.mk H
                            clear H
                            obtain ⟨Ao23, co23, eo23⟩ := Kd.R_slice HO_0.out
                            subst eo23
                            have p119 : 0 ≤ ((ji3) : Int) := of_decide_eq_true (by first | (with_reducible assumption) | assumption)
                            have q119 : (ji3) < (x0_1.length : Int) := of_decide_eq_true (by first | (with_reducible assumption) | assumption)
                            obtain ⟨ad119, e119, hx119_0⟩ := Kd.at_int (Kd.R_reads' HO_0.out).2.2 (ji3) p119 q119
                            cases e119
                            replace p119 := eq_true p119
                            replace q119 := eq_true q119
                            have p120 : 0 ≤ ((ji6) : Int) := of_decide_eq_true (by first | (with_reducible assumption) | assumption)
                            have q120 : (ji6) < (x0_1.length : Int) := of_decide_eq_true (by first | (with_reducible assumption) | assumption)
                            obtain ⟨ad120, e120, hx120_0⟩ := Kd.at_int (Kd.R_reads' HO_0.out).2.2 (ji6) p120 q120
                            obtain rfl : ad119 = ad120 := (by injection e120)
                            replace p120 := eq_true p120
                            replace q120 := eq_true q120
                            have p121 : 0 ≤ (x2_1 : Int) := of_decide_eq_true (by first | (with_reducible assumption) | assumption)
                            have q121 : x2_1 < (x0_1.length : Int) := of_decide_eq_true (by first | (with_reducible assumption) | assumption)
                            obtain ⟨ad121, e121, hx121_0⟩ := Kd.at_int (Kd.R_reads' HO_0.out).2.2 x2_1 p121 q121
                            obtain rfl : ad119 = ad121 := (by injection e121)
                            replace p121 := eq_true p121
                            replace q121 := eq_true q121
                            have p123 : 0 ≤ (x2_1 : Int) := of_decide_eq_true (by first | (with_reducible assumption) | assumption)
                            have q123 : x2_1 < (x0_1.length : Int) := of_decide_eq_true (by first | (with_reducible assumption) | assumption)
                            obtain ⟨ad123, e123, hx123_0⟩ := Kd.at_int (Kd.R_reads' HO_0.out).2.2 x2_1 p123 q123
                            obtain rfl : ad119 = ad123 := (by injection e123)
                            replace p123 := eq_true p123
                            replace q123 := eq_true q123
                            have p125 : 0 ≤ (x2_1 : Int) := of_decide_eq_true (by first | (with_reducible assumption) | assumption)
                            have q125 : x2_1 < (x0_1.length : Int) := of_decide_eq_true (by first | (with_reducible assumption) | assumption)
                            obtain ⟨ad125, e125, hx125_0⟩ := Kd.at_int (Kd.R_reads' HO_0.out).2.2 x2_1 p125 q125
                            obtain rfl : ad119 = ad125 := (by injection e125)
                            replace p125 := eq_true p125
                            replace q125 := eq_true q125
                            go_wp2
                            go_roundg k1
                            case measure => have := HK1.out; omega
                            case rel => exact ⟨(x0_1), (ji6), (by first | rfl | (simp; done) | (simp only [← hji6] <;> (first | rfl | simp)) | (simp [*]; done)), H', ⟨by have := HK1.out; omega⟩, ⟨by (with_reducible repeat (first | apply Kd.R_alloc | apply Kd.R_drewN | apply Kd.R_drew)); exact HO_0.out⟩, ⟨by repeat (first | (with_reducible first | exact HK.out | apply Kept.alloc | apply Kept.drewN | apply Kept.drew) | exact HK.out)⟩, ⟨by repeat (first | (with_reducible first | exact HB.out | apply below_alloc | apply pw_below_drewN | apply below_drew1) | exact HB.out)⟩⟩
                          · rw [if_neg c22] at H
                            have c22b0 : ((rd x0_1 (ji3)) == 7) = false := beq_eq_false_iff_ne.mpr c22
                            have c22b1 : ((rd x0_1 (ji3)) != 7) = true := bne_iff_ne.mpr c22
                            have H' := Aside0.mk H
                            clear H
                            obtain ⟨Ao24, co24, eo24⟩ := Kd.R_slice HO_0.out
                            subst eo24
                            have p119 : 0 ≤ ((ji3) : Int) := of_decide_eq_true (by first | (with_reducible assumption) | assumption)
                            have q119 : (ji3) < (x0_1.length : Int) := of_decide_eq_true (by first | (with_reducible assumption) | assumption)
                            obtain ⟨ad119, e119, hx119_0⟩ := Kd.at_int (Kd.R_reads' HO_0.out).2.2 (ji3) p119 q119
                            cases e119
                            replace p119 := eq_true p119
                            replace q119 := eq_true q119
                            have p120 : 0 ≤ ((ji6) : Int) := of_decide_eq_true (by first | (with_reducible assumption) | assumption)
                            have q120 : (ji6) < (x0_1.length : Int) := of_decide_eq_true (by first | (with_reducible assumption) | assumption)
                            obtain ⟨ad120, e120, hx120_0⟩ := Kd.at_int (Kd.R_reads' HO_0.out).2.2 (ji6) p120 q120
                            obtain rfl : ad119 = ad120 := (by injection e120)
                            replace p120 := eq_true p120
                            replace q120 := eq_true q120
                            have p121 : 0 ≤ (x2_1 : Int) := of_decide_eq_true (by first | (with_reducible assumption) | assumption)
                            have q121 : x2_1 < (x0_1.length : Int) := of_decide_eq_true (by first | (with_reducible assumption) | assumption)
                            obtain ⟨ad121, e121, hx121_0⟩ := Kd.at_int (Kd.R_reads' HO_0.out).2.2 x2_1 p121 q121
                            obtain rfl : ad119 = ad121 := (by injection e121)
                            replace p121 := eq_true p121
                            replace q121 := eq_true q121
                            have p123 : 0 ≤ (x2_1 : Int) := of_decide_eq_true (by first | (with_reducible assumption) | assumption)
                            have q123 : x2_1 < (x0_1.length : Int) := of_decide_eq_true (by first | (with_reducible assumption) | assumption)
                            obtain ⟨ad123, e123, hx123_0⟩ := Kd.at_int (Kd.R_reads' HO_0.out).2.2 x2_1 p123 q123
                            obtain rfl : ad119 = ad123 := (by injection e123)
                            replace p123 := eq_true p123
                            replace q123 := eq_true q123
                            go_wp2
                            go_roundg k1
                            case measure => have := HK1.out; omega
                            case rel => exact ⟨(x0_1), (ji6), (by first | rfl | (simp; done) | (simp only [← hji6] <;> (first | rfl | simp)) | (simp [*]; done)), H', ⟨by have := HK1.out; omega⟩, ⟨by (with_reducible repeat (first | apply Kd.R_alloc | apply Kd.R_drewN | apply Kd.R_drew)); exact HO_0.out⟩, ⟨by repeat (first | (with_reducible first | exact HK.out | apply Kept.alloc | apply Kept.drewN | apply Kept.drew) | exact HK.out)⟩, ⟨by repeat (first | (with_reducible first | exact HB.out | apply below_alloc | apply pw_below_drewN | apply below_drew1) | exact HB.out)⟩⟩
                    · rw [if_neg c11] at H
                      exact absurd H (by simp)
                  · rw [if_neg c10] at H
                    exact absurd H (by simp)
                · rw [if_neg c9] at H
                  have c9b0 : ((rd x0_1 (ji3)) == 4) = false := beq_eq_false_iff_ne.mpr c9
                  have c9b1 : ((rd x0_1 (ji3)) != 4) = true := bne_iff_ne.mpr c9
                  by_cases c25 : (rd x0_1 (ji3)) = 7
                  · rw [if_pos c25] at H
                    have c25b0 : ((rd x0_1 (ji3)) == 7) = true := beq_iff_eq.mpr c25
                    have c25b1 : ((rd x0_1 (ji3)) != 7) = false := bne_eq_false_iff_eq.mpr c25
                    clear c25
                    by_cases c26 : 0 ≤ x2_1
                    · rw [if_pos c26] at H
                      have c26b0 : decide (0 ≤ x2_1) = true := decide_eq_true c26
                      clear c26
                      by_cases c27 : x2_1 < (x0_1.length : Int)
                      · rw [if_pos c27] at H
                        have c27b0 : decide (x2_1 < (x0_1.length : Int)) = true := decide_eq_true c27
                        clear c27
                        by_cases c28 : (rd x0_1 x2_1) = 8
                        · rw [if_pos c28] at H
                          have c28b0 : ((rd x0_1 x2_1) == 8) = true := beq_iff_eq.mpr c28
                          have c28b1 : ((rd x0_1 x2_1) != 8) = false := bne_eq_false_iff_eq.mpr c28
                          clear c28
                          obtain ⟨y127, hy127⟩ : ∃ y_ : List Int, y_ = (x0_1.set (x2_1 : Int).toNat (rd x0_1 (ji3))) := ⟨_, rfl⟩
                          replace H : (spec_l3Between.l0 k1 y127 ji6) = some r := by first | (rw [hy127]; with_reducible exact H) | (have H2_ := (Option.bind_some _ _).symm.trans H; rw [hy127]; with_reducible exact H2_) | (have H2_ := (Option.bind_some _ _).symm.trans H; with_reducible exact H2_) | with_reducible exact H | (rw [hy127]; exact H) | exact H
                          have Ny127 := Aside0.mk hy127
                          clear hy127
                          have H' := Aside0.mk H
                          clear H
                          obtain ⟨Ao30, co30, eo30⟩ := Kd.R_slice HO_0.out
                          subst eo30
                          have p119 : 0 ≤ ((ji3) : Int) := of_decide_eq_true (by first | (with_reducible assumption) | assumption)
                          have q119 : (ji3) < (x0_1.length : Int) := of_decide_eq_true (by first | (with_reducible assumption) | assumption)
                          obtain ⟨ad119, e119, hx119_0⟩ := Kd.at_int (Kd.R_reads' HO_0.out).2.2 (ji3) p119 q119
                          cases e119
                          replace p119 := eq_true p119
                          replace q119 := eq_true q119
                          have p120 : 0 ≤ ((ji6) : Int) := of_decide_eq_true (by first | (with_reducible assumption) | assumption)
                          have q120 : (ji6) < (x0_1.length : Int) := of_decide_eq_true (by first | (with_reducible assumption) | assumption)
                          obtain ⟨ad120, e120, hx120_0⟩ := Kd.at_int (Kd.R_reads' HO_0.out).2.2 (ji6) p120 q120
                          obtain rfl : ad119 = ad120 := (by injection e120)
                          replace p120 := eq_true p120
                          replace q120 := eq_true q120
                          have p126 : 0 ≤ (x2_1 : Int) := of_decide_eq_true (by first | (with_reducible assumption) | assumption)
                          have q126 : x2_1 < (x0_1.length : Int) := of_decide_eq_true (by first | (with_reducible assumption) | assumption)
                          obtain ⟨ad126, e126, hx126_0⟩ := Kd.at_int (Kd.R_reads' HO_0.out).2.2 x2_1 p126 q126
                          obtain rfl : ad119 = ad126 := (by injection e126)
                          replace p126 := eq_true p126
                          replace q126 := eq_true q126
                          have p29 : 0 ≤ (x2_1 : Int) := of_decide_eq_true (by first | (with_reducible assumption) | assumption)
                          have q29 : (x2_1 : Int) < ((x0_1.length : Int) : Int) := of_decide_eq_true (by first | (with_reducible assumption) | assumption)
                          obtain ⟨go29, co29, eo29, gb29, gl29, cl29, HG29⟩ := Kd.R_form HO_0.out (by omega)
                          (first | cases eo29 | (injection eo29 with ea_ en_ ec_; (first | subst ea_ | (injection ea_ with ea_; subst ea_)); subst ec_; clear en_))
                          have GB29 := Aside0.mk gb29
                          have GG29 := Aside0.mk HG29
                          clear gb29 gl29 HG29
                          have HMgo29 := Aside0.mk (show (P0_ go29 ∨ w.heap.size ≤ go29) from (HO_0.out.1 _ rfl))
                          (first | simp only [add_plain] at hx119_0 | skip)
                          (first | simp only [add_plain] at hx120_0 | skip)
                          (first | simp only [add_plain] at hx121_0 | skip)
                          (first | simp only [add_plain] at hx123_0 | skip)
                          (first | simp only [add_plain] at hx125_0 | skip)
                          (first | simp only [add_plain] at hx126_0 | skip)
                          obtain ⟨hx29_0, hf29_0⟩ := Kd.R_celln 0 HO_0.out (x2_1 : Int) p29 q29
                          replace p29 := eq_true p29
                          replace q29 := eq_true q29
                          have HP31 := Kd.R_putg HO_0.out (x2_1 : Int) (rd x0_1 (ji3))
                          go_wp2_with (first | ((with_reducible refine gate_store (t := 3) (p := 53) rfl ?_); refine store_event (t := 3) (p := 53) (v := ?vo_w32) (w1 := (wr.setCell ⟨go29, (x2_1 : Int).toNat, none⟩ (.int .i64 (rd x0_1 (ji3))))) ?hg ?ho ?hn ?hr ?_; (case ho => rfl); (case hg => rfl); (case hn => rfl); (case hr => first | (go_simp; done) | (go_simp; rfl)); intro w32 hw; have hg : wr.grownBy w32 (some go29) := (by rw [hw]; exact HP31.2); have hp_ : Kd.R (Kd.int .i64) 3 w32 w0.heap.size (fun k_ => (P0_ k_ ∨ w.heap.size ≤ k_)) (.slice (some ⟨go29, 0, none⟩) x0_1.length co30) y127 := (by rw [hw, Ny127.out]; exact HP31.1); clear HP31; have n0_ := Aside0.mk (hp_); have n1_ := Aside0.mk ((by rw [hw]; exact below_set (HB.out) GB29.out : Below w0.heap.size w0 w32)); have n2_ := Aside0.mk (Kept.of_grown (S := (fun k_ => P0_ k_)) hg (by repeat (first | (with_reducible first | exact HK.out | apply Kept.alloc | apply Kept.drewN | apply Kept.drew) | exact HK.out)) (fun k_ e_ => (HO_0.out.1 k_ e_))); clear HO_0; clear HB; clear HK; have HO_0 := n0_; have HB := n1_; have HK := n2_; clear n0_ n1_ n2_; clear hg hw hp_))
                          go_roundg k1
                          case measure => have := HK1.out; omega
                          case rel => exact ⟨(y127), (ji6), (by first | rfl | (simp; done) | (simp only [← hji6] <;> (first | rfl | simp)) | (simp [*]; done)), H', ⟨by have := HK1.out; omega⟩, ⟨by (with_reducible repeat (first | apply Kd.R_alloc | apply Kd.R_drewN | apply Kd.R_drew)); exact HO_0.out⟩, ⟨by repeat (first | (with_reducible first | exact HK.out | apply Kept.alloc | apply Kept.drewN | apply Kept.drew) | exact HK.out)⟩, ⟨by repeat (first | (with_reducible first | exact HB.out | apply below_alloc | apply pw_below_drewN | apply below_drew1) | exact HB.out)⟩⟩
                        · rw [if_neg c28] at H
                          have c28b0 : ((rd x0_1 x2_1) == 8) = false := beq_eq_false_iff_ne.mpr c28
                          have c28b1 : ((rd x0_1 x2_1) != 8) = true := bne_iff_ne.mpr c28
                          have H' := Aside0.mk H
                          clear H
                          obtain ⟨Ao33, co33, eo33⟩ := Kd.R_slice HO_0.out
                          subst eo33
                          have p119 : 0 ≤ ((ji3) : Int) := of_decide_eq_true (by first | (with_reducible assumption) | assumption)
                          have q119 : (ji3) < (x0_1.length : Int) := of_decide_eq_true (by first | (with_reducible assumption) | assumption)
                          obtain ⟨ad119, e119, hx119_0⟩ := Kd.at_int (Kd.R_reads' HO_0.out).2.2 (ji3) p119 q119
                          cases e119
                          replace p119 := eq_true p119
                          replace q119 := eq_true q119
                          have p120 : 0 ≤ ((ji6) : Int) := of_decide_eq_true (by first | (with_reducible assumption) | assumption)
                          have q120 : (ji6) < (x0_1.length : Int) := of_decide_eq_true (by first | (with_reducible assumption) | assumption)
                          obtain ⟨ad120, e120, hx120_0⟩ := Kd.at_int (Kd.R_reads' HO_0.out).2.2 (ji6) p120 q120
                          obtain rfl : ad119 = ad120 := (by injection e120)
                          replace p120 := eq_true p120
                          replace q120 := eq_true q120
                          have p126 : 0 ≤ (x2_1 : Int) := of_decide_eq_true (by first | (with_reducible assumption) | assumption)
                          have q126 : x2_1 < (x0_1.length : Int) := of_decide_eq_true (by first | (with_reducible assumption) | assumption)
                          obtain ⟨ad126, e126, hx126_0⟩ := Kd.at_int (Kd.R_reads' HO_0.out).2.2 x2_1 p126 q126
                          obtain rfl : ad119 = ad126 := (by injection e126)
                          replace p126 := eq_true p126
                          replace q126 := eq_true q126
                          go_wp2
                          go_roundg k1
                          case measure => have := HK1.out; omega
                          case rel => exact ⟨(x0_1), (ji6), (by first | rfl | (simp; done) | (simp only [← hji6] <;> (first | rfl | simp)) | (simp [*]; done)), H', ⟨by have := HK1.out; omega⟩, ⟨by (with_reducible repeat (first | apply Kd.R_alloc | apply Kd.R_drewN | apply Kd.R_drew)); exact HO_0.out⟩, ⟨by repeat (first | (with_reducible first | exact HK.out | apply Kept.alloc | apply Kept.drewN | apply Kept.drew) | exact HK.out)⟩, ⟨by repeat (first | (with_reducible first | exact HB.out | apply below_alloc | apply pw_below_drewN | apply below_drew1) | exact HB.out)⟩⟩
                      · rw [if_neg c27] at H
                        exact absurd H (by simp)
                    · rw [if_neg c26] at H
                      exact absurd H (by simp)
                  · rw [if_neg c25] at H
                    have c25b0 : ((rd x0_1 (ji3)) == 7) = false := beq_eq_false_iff_ne.mpr c25
                    have c25b1 : ((rd x0_1 (ji3)) != 7) = true := bne_iff_ne.mpr c25
                    have H' := Aside0.mk H
                    clear H
                    obtain ⟨Ao34, co34, eo34⟩ := Kd.R_slice HO_0.out
                    subst eo34
                    have p119 : 0 ≤ ((ji3) : Int) := of_decide_eq_true (by first | (with_reducible assumption) | assumption)
                    have q119 : (ji3) < (x0_1.length : Int) := of_decide_eq_true (by first | (with_reducible assumption) | assumption)
                    obtain ⟨ad119, e119, hx119_0⟩ := Kd.at_int (Kd.R_reads' HO_0.out).2.2 (ji3) p119 q119
                    cases e119
                    replace p119 := eq_true p119
                    replace q119 := eq_true q119
                    have p120 : 0 ≤ ((ji6) : Int) := of_decide_eq_true (by first | (with_reducible assumption) | assumption)
                    have q120 : (ji6) < (x0_1.length : Int) := of_decide_eq_true (by first | (with_reducible assumption) | assumption)
                    obtain ⟨ad120, e120, hx120_0⟩ := Kd.at_int (Kd.R_reads' HO_0.out).2.2 (ji6) p120 q120
                    obtain rfl : ad119 = ad120 := (by injection e120)
                    replace p120 := eq_true p120
                    replace q120 := eq_true q120
                    go_wp2
                    go_roundg k1
                    case measure => have := HK1.out; omega
                    case rel => exact ⟨(x0_1), (ji6), (by first | rfl | (simp; done) | (simp only [← hji6] <;> (first | rfl | simp)) | (simp [*]; done)), H', ⟨by have := HK1.out; omega⟩, ⟨by (with_reducible repeat (first | apply Kd.R_alloc | apply Kd.R_drewN | apply Kd.R_drew)); exact HO_0.out⟩, ⟨by repeat (first | (with_reducible first | exact HK.out | apply Kept.alloc | apply Kept.drewN | apply Kept.drew) | exact HK.out)⟩, ⟨by repeat (first | (with_reducible first | exact HB.out | apply below_alloc | apply pw_below_drewN | apply below_drew1) | exact HB.out)⟩⟩
              · rw [if_neg c8] at H
                have c8b0 : ((rd x0_1 (ji3)) == (rd x0_1 (ji6))) = false := beq_eq_false_iff_ne.mpr c8
                have c8b1 : ((rd x0_1 (ji3)) != (rd x0_1 (ji6))) = true := bne_iff_ne.mpr c8
                have H' := Aside0.mk H
                clear H
                obtain ⟨Ao35, co35, eo35⟩ := Kd.R_slice HO_0.out
                subst eo35
                have p119 : 0 ≤ ((ji3) : Int) := of_decide_eq_true (by first | (with_reducible assumption) | assumption)
                have q119 : (ji3) < (x0_1.length : Int) := of_decide_eq_true (by first | (with_reducible assumption) | assumption)
                obtain ⟨ad119, e119, hx119_0⟩ := Kd.at_int (Kd.R_reads' HO_0.out).2.2 (ji3) p119 q119
                cases e119
                replace p119 := eq_true p119
                replace q119 := eq_true q119
                have p120 : 0 ≤ ((ji6) : Int) := of_decide_eq_true (by first | (with_reducible assumption) | assumption)
                have q120 : (ji6) < (x0_1.length : Int) := of_decide_eq_true (by first | (with_reducible assumption) | assumption)
                obtain ⟨ad120, e120, hx120_0⟩ := Kd.at_int (Kd.R_reads' HO_0.out).2.2 (ji6) p120 q120
                obtain rfl : ad119 = ad120 := (by injection e120)
                replace p120 := eq_true p120
                replace q120 := eq_true q120
                go_wp2
                go_roundg k1
                case measure => have := HK1.out; omega
                case rel => exact ⟨(x0_1), (ji6), (by first | rfl | (simp; done) | (simp only [← hji6] <;> (first | rfl | simp)) | (simp [*]; done)), H', ⟨by have := HK1.out; omega⟩, ⟨by (with_reducible repeat (first | apply Kd.R_alloc | apply Kd.R_drewN | apply Kd.R_drew)); exact HO_0.out⟩, ⟨by repeat (first | (with_reducible first | exact HK.out | apply Kept.alloc | apply Kept.drewN | apply Kept.drew) | exact HK.out)⟩, ⟨by repeat (first | (with_reducible first | exact HB.out | apply below_alloc | apply pw_below_drewN | apply below_drew1) | exact HB.out)⟩⟩
            · rw [if_neg c7] at H
              exact absurd H (by simp)
          · rw [if_neg c5] at H
            exact absurd H (by simp)
        · rw [if_neg c4] at H
          exact absurd H (by simp)
      · rw [if_neg c2] at H
        have c2b0 : decide ((wrap64 (x2_1 + 1)) < (x0_1.length : Int)) = false := decide_eq_false c2
        clear c2
        obtain rfl := Option.some.inj H
        obtain ⟨Ao36, co36, eo36⟩ := Kd.R_slice HO_0.out
        subst eo36
        go_wp2
        first | go_end0 | ((try simp only [Exit.inBlock, Exit.then]); refine bodyPost_ret (results_none rfl _ _ _) rfl ?_)
        exact ⟨by first | rfl | (simp [errW_none, errW_some] <;> rfl) | (simp [*, errW_none, errW_some] <;> rfl), by (with_reducible repeat (first | apply Kd.R_alloc | apply Kd.R_drewN | apply Kd.R_drew)); exact HO_0.out, by repeat (first | (with_reducible first | exact HB.out | apply below_alloc | apply pw_below_drewN | apply below_drew1) | exact HB.out), by repeat (first | (with_reducible first | exact HK.out | apply Kept.alloc | apply Kept.drewN | apply Kept.drew) | exact HK.out)⟩

end Go.Proofs.Ytojehfdioeglgaa.S

namespace Go.Proofs.Ytojehfdioeglgaa.S
open Go.RowKit Go.Proofs.YtojehfdioeglgaaW.PrintWords Go.Proofs.YtojehfdioeglgaaW.PrintLast Go.Proofs.YtojehfdioeglgaaW.PrintMore
attribute [local go_sem] max2_int min2_int max_two min_two max_three min_three max_four min_four   -- for this text's walks alone
set_option linter.unusedVariables false
set_option linter.unusedSimpArgs false

/-! ### spec_l3Beside: function 60 -/
mutual
def spec_l3Beside.l0 : Nat → List Int → Int → Option (List Int)
  | 0, _, _ => none
  | k + 1, x0, x2 => if x2 < (x0.length : Int) then (if 0 ≤ x2 then (if (rd x0 x2) = 6 then (spec_l3Beside.l1 k x0 x2 x2) else (spec_l3Beside.l0 k x0 (wrap64 (x2 + 1)))) else (none)) else (some x0)
def spec_l3Beside.j2 : Nat → List Int → Int → Int → Option (List Int)
  | 0, _, _, _ => none
  | k + 1, x0, x2, x3 => if x2 > 0 then (if 0 ≤ (wrap64 (x2 - 1)) then (if (wrap64 (x2 - 1)) < (x0.length : Int) then (if (rd x0 (wrap64 (x2 - 1))) = 4 then (spec_l3Beside.j3 k x0 x2 x3 true) else (if x3 < (x0.length : Int) then (if 0 ≤ x3 then (spec_l3Beside.j3 k x0 x2 x3 ((rd x0 x3) == 4)) else (none)) else (spec_l3Beside.j3 k x0 x2 x3 false))) else (none)) else (none)) else (if x3 < (x0.length : Int) then (if 0 ≤ x3 then (spec_l3Beside.j3 k x0 x2 x3 ((rd x0 x3) == 4)) else (none)) else (spec_l3Beside.j3 k x0 x2 x3 false))
def spec_l3Beside.j3 : Nat → List Int → Int → Int → Bool → Option (List Int)
  | 0, _, _, _, _ => none
  | k + 1, x0, x2, x3, x52 => if x52 = true then (spec_l3Beside.l2 k x0 x2 x3 x2) else (spec_l3Beside.l0 k x0 (wrap64 (x2 + 1)))
def spec_l3Beside.l2 : Nat → List Int → Int → Int → Int → Option (List Int)
  | 0, _, _, _, _ => none
  | k + 1, x0, x2, x3, x4 => if x4 < x3 then (if 0 ≤ x4 then (if x4 < (x0.length : Int) then (spec_l3Beside.l2 k (x0.set (x4 : Int).toNat 4) x2 x3 (wrap64 (x4 + 1))) else (none)) else (none)) else (spec_l3Beside.l0 k x0 (wrap64 (x2 + 1)))
def spec_l3Beside.l1 : Nat → List Int → Int → Int → Option (List Int)
  | 0, _, _, _ => none
  | k + 1, x0, x2, x3 => if x3 < (x0.length : Int) then (if 0 ≤ x3 then (if (rd x0 x3) = 6 then (spec_l3Beside.l1 k x0 x2 (wrap64 (x3 + 1))) else (spec_l3Beside.j2 k x0 x2 x3)) else (none)) else (spec_l3Beside.j2 k x0 x2 x3)
end
def spec_l3Beside.f (k : Nat) (l0 : List Int) : Option (List Int) := spec_l3Beside.l0 k l0 0
theorem spec_l3Beside.mono_l : ∀ k, (∀ y0 y1, LeO (spec_l3Beside.l0 k y0 y1) (spec_l3Beside.l0 (k + 1) y0 y1)) ∧ (∀ y0 y1 y2, LeO (spec_l3Beside.j2 k y0 y1 y2) (spec_l3Beside.j2 (k + 1) y0 y1 y2)) ∧ (∀ y0 y1 y2 y3, LeO (spec_l3Beside.j3 k y0 y1 y2 y3) (spec_l3Beside.j3 (k + 1) y0 y1 y2 y3)) ∧ (∀ y0 y1 y2 y3, LeO (spec_l3Beside.l2 k y0 y1 y2 y3) (spec_l3Beside.l2 (k + 1) y0 y1 y2 y3)) ∧ (∀ y0 y1 y2, LeO (spec_l3Beside.l1 k y0 y1 y2) (spec_l3Beside.l1 (k + 1) y0 y1 y2))
  | 0 => ⟨fun _ _ r h => by simp [spec_l3Beside.l0] at h, fun _ _ _ r h => by simp [spec_l3Beside.j2] at h, fun _ _ _ _ r h => by simp [spec_l3Beside.j3] at h, fun _ _ _ _ r h => by simp [spec_l3Beside.l2] at h, fun _ _ _ r h => by simp [spec_l3Beside.l1] at h⟩
  | k + 1 => by
    obtain ⟨ih0, ih1, ih2, ih3, ih4⟩ := spec_l3Beside.mono_l k
    refine ⟨?_, ?_, ?_, ?_, ?_⟩
    · intro y0 y1
      unfold spec_l3Beside.l0
      repeat' first
      | (with_reducible exact ih0 _ _)
      | (with_reducible exact ih1 _ _ _)
      | (with_reducible exact ih2 _ _ _ _)
      | (with_reducible exact ih3 _ _ _ _)
      | (with_reducible exact ih4 _ _ _)
      | (with_reducible exact LeO.refl _)
      | (with_reducible exact LeO.none _)
      | (with_reducible refine LeO.ite ?_ ?_)
      | (with_reducible refine LeO.bind ?_ (fun _ => ?_))
      | exact ih0 _ _
      | exact ih1 _ _ _
      | exact ih2 _ _ _ _
      | exact ih3 _ _ _ _
      | exact ih4 _ _ _
      | exact LeO.none _
      | refine LeO.ite ?_ ?_
      | refine LeO.bind ?_ (fun _ => ?_)
    · intro y0 y1 y2
      unfold spec_l3Beside.j2
      repeat' first
      | (with_reducible exact ih0 _ _)
      | (with_reducible exact ih1 _ _ _)
      | (with_reducible exact ih2 _ _ _ _)
      | (with_reducible exact ih3 _ _ _ _)
      | (with_reducible exact ih4 _ _ _)
      | (with_reducible exact LeO.refl _)
      | (with_reducible exact LeO.none _)
      | (with_reducible refine LeO.ite ?_ ?_)
      | (with_reducible refine LeO.bind ?_ (fun _ => ?_))
      | exact ih0 _ _
      | exact ih1 _ _ _
      | exact ih2 _ _ _ _
      | exact ih3 _ _ _ _
      | exact ih4 _ _ _
      | exact LeO.none _
      | refine LeO.ite ?_ ?_
      | refine LeO.bind ?_ (fun _ => ?_)
    · intro y0 y1 y2 y3
      unfold spec_l3Beside.j3
      repeat' first
      | (with_reducible exact ih0 _ _)
      | (with_reducible exact ih1 _ _ _)
      | (with_reducible exact ih2 _ _ _ _)
      | (with_reducible exact ih3 _ _ _ _)
      | (with_reducible exact ih4 _ _ _)
      | (with_reducible exact LeO.refl _)
      | (with_reducible exact LeO.none _)
      | (with_reducible refine LeO.ite ?_ ?_)
      | (with_reducible refine LeO.bind ?_ (fun _ => ?_))
      | exact ih0 _ _
      | exact ih1 _ _ _
      | exact ih2 _ _ _ _
      | exact ih3 _ _ _ _
      | exact ih4 _ _ _
      | exact LeO.none _
      | refine LeO.ite ?_ ?_
      | refine LeO.bind ?_ (fun _ => ?_)
    · intro y0 y1 y2 y3
      unfold spec_l3Beside.l2
      repeat' first
      | (with_reducible exact ih0 _ _)
      | (with_reducible exact ih1 _ _ _)
      | (with_reducible exact ih2 _ _ _ _)
      | (with_reducible exact ih3 _ _ _ _)
      | (with_reducible exact ih4 _ _ _)
      | (with_reducible exact LeO.refl _)
      | (with_reducible exact LeO.none _)
      | (with_reducible refine LeO.ite ?_ ?_)
      | (with_reducible refine LeO.bind ?_ (fun _ => ?_))
      | exact ih0 _ _
      | exact ih1 _ _ _
      | exact ih2 _ _ _ _
      | exact ih3 _ _ _ _
      | exact ih4 _ _ _
      | exact LeO.none _
      | refine LeO.ite ?_ ?_
      | refine LeO.bind ?_ (fun _ => ?_)
    · intro y0 y1 y2
      unfold spec_l3Beside.l1
      repeat' first
      | (with_reducible exact ih0 _ _)
      | (with_reducible exact ih1 _ _ _)
      | (with_reducible exact ih2 _ _ _ _)
      | (with_reducible exact ih3 _ _ _ _)
      | (with_reducible exact ih4 _ _ _)
      | (with_reducible exact LeO.refl _)
      | (with_reducible exact LeO.none _)
      | (with_reducible refine LeO.ite ?_ ?_)
      | (with_reducible refine LeO.bind ?_ (fun _ => ?_))
      | exact ih0 _ _
      | exact ih1 _ _ _
      | exact ih2 _ _ _ _
      | exact ih3 _ _ _ _
      | exact ih4 _ _ _
      | exact LeO.none _
      | refine LeO.ite ?_ ?_
      | refine LeO.bind ?_ (fun _ => ?_)
theorem spec_l3Beside.mono : ∀ a0 k, LeO (spec_l3Beside.f k a0) (spec_l3Beside.f (k + 1) a0) := by
  intro a0 k
  obtain ⟨ih0, ih1, ih2, ih3, ih4⟩ := spec_l3Beside.mono_l k
  unfold spec_l3Beside.f
  repeat' first
      | (with_reducible exact ih0 _ _)
      | (with_reducible exact ih1 _ _ _)
      | (with_reducible exact ih2 _ _ _ _)
      | (with_reducible exact ih3 _ _ _ _)
      | (with_reducible exact ih4 _ _ _)
      | (with_reducible exact LeO.refl _)
      | (with_reducible exact LeO.none _)
      | (with_reducible refine LeO.ite ?_ ?_)
      | (with_reducible refine LeO.bind ?_ (fun _ => ?_))
      | exact ih0 _ _
      | exact ih1 _ _ _
      | exact ih2 _ _ _ _
      | exact ih3 _ _ _ _
      | exact ih4 _ _ _
      | exact LeO.none _
      | refine LeO.ite ?_ ?_
      | refine LeO.bind ?_ (fun _ => ?_)
set_option maxHeartbeats 8000000 in
set_option maxRecDepth 100000 in
theorem spec_l3Beside.calls (k : Nat) (P0_ : Nat → Prop) (u9000_ : Value) (l0 : List Int) (r : List Int) (w0 w : World) (hB : Below w0.heap.size w0 w) (ho0 : Kd.R (Kd.int .i64) 3 w w0.heap.size P0_ u9000_ l0) (h : spec_l3Beside.f k l0 = some r) :
    Calls Try.prog 60 #[u9000_] w fun e w' => e = .returned (.tuple #[]) ∧ Kd.R (Kd.int .i64) 3 w' w0.heap.size (fun k_ => (P0_ k_ ∨ w.heap.size ≤ k_)) u9000_ r ∧ Below w0.heap.size w0 w' ∧ Kept w w' (fun k_ => P0_ k_) := by
  have HO0 := Aside0.mk (show Kd.R (Kd.int .i64) 3 w w0.heap.size (fun k_ => (P0_ k_ ∨ w.heap.size ≤ k_)) u9000_ l0 from Kd.R_mono ho0 (fun k_ hk => (.inl hk)))
  have HK := Aside0.mk (Kept.refl w (fun k_ => P0_ k_))
  have HW0 := Aside0.mk hB.size
  have HB := Aside0.mk hB
  clear hB
  have H : (spec_l3Beside.l0 k l0 0) = some r := h
  clear h
  have H' := Aside0.mk H
  clear H
  go_enter Try.func60, Try.ntmps60
  go_wp2
  go_loopg [2] k (fun kq v2 w' => ∃ (x0_1 : List Int) (x2_1 : Int), v2 = .int .i64 x2_1 ∧ Aside0 (spec_l3Beside.l0 kq x0_1 x2_1 = some r) ∧ Aside0 (kq ≤ k) ∧ Aside0 (Kd.R (Kd.int .i64) 3 w' w0.heap.size (fun k_ => (P0_ k_ ∨ w.heap.size ≤ k_)) u9000_ x0_1) ∧ Aside0 (Kept w w' (fun k_ => P0_ k_)) ∧ Aside0 (Below w0.heap.size w0 w'))
  case atStart => exact ⟨(l0), (0), (by first | rfl | (simp; done) | (simp [*]; done)), H', ⟨Nat.le_refl _⟩, ⟨by (with_reducible repeat (first | apply Kd.R_alloc | apply Kd.R_drewN | apply Kd.R_drew)); exact HO0.out⟩, ⟨by repeat (first | (with_reducible first | exact HK.out | apply Kept.alloc | apply Kept.drewN | apply Kept.drew) | exact HK.out)⟩, ⟨by repeat (first | (with_reducible first | exact HB.out | apply below_alloc | apply pw_below_drewN | apply below_drew1) | exact HB.out)⟩⟩
  case round =>
    clear H'
    obtain ⟨x0_1, x2_1, rfl, HA, HK1, HO_0, HK, HB⟩ := hrel
    cases gk with
    | zero => exact absurd HA.out (by simp [spec_l3Beside.l0])
    | succ k1 =>
      have H := HA.out
      clear HA
      simp only [spec_l3Beside.l0] at H
      by_cases c2 : x2_1 < (x0_1.length : Int)
      · rw [if_pos c2] at H
        have c2b0 : decide (x2_1 < (x0_1.length : Int)) = true := decide_eq_true c2
        clear c2
        by_cases c3 : 0 ≤ x2_1
        · rw [if_pos c3] at H
          have c3b0 : decide (0 ≤ x2_1) = true := decide_eq_true c3
          clear c3
          by_cases c4 : (rd x0_1 x2_1) = 6
          · rw [if_pos c4] at H
            have c4b0 : ((rd x0_1 x2_1) == 6) = true := beq_iff_eq.mpr c4
            have c4b1 : ((rd x0_1 x2_1) != 6) = false := bne_eq_false_iff_eq.mpr c4
            clear c4
            have HC5 := Aside0.mk H
            clear H
            obtain ⟨Ao6, co6, eo6⟩ := Kd.R_slice HO_0.out
            subst eo6
            have p128 : 0 ≤ (x2_1 : Int) := of_decide_eq_true (by first | (with_reducible assumption) | assumption)
            have q128 : x2_1 < (x0_1.length : Int) := of_decide_eq_true (by first | (with_reducible assumption) | assumption)
            obtain ⟨ad128, e128, hx128_0⟩ := Kd.at_int (Kd.R_reads' HO_0.out).2.2 x2_1 p128 q128
            cases e128
            replace p128 := eq_true p128
            replace q128 := eq_true q128
            go_upto_block 2 with (fail)
            go_cut [3] (fun v3 wc => ∃ (kq : Nat) (x3_4 : Int), v3 = .int .i64 x3_4 ∧ Aside0 (spec_l3Beside.j2 kq x0_1 x2_1 x3_4 = some r) ∧ Aside0 (kq ≤ k1) ∧ Aside0 (Kd.R (Kd.int .i64) 3 wc w0.heap.size (fun k_ => (P0_ k_ ∨ w.heap.size ≤ k_)) (.slice (some ad128) x0_1.length co6) x0_1) ∧ Aside0 (Kept w wc (fun k_ => P0_ k_)) ∧ Aside0 (Below w0.heap.size w0 wc))
            case first =>
              have H := HC5.out
              clear HC5
              have H' := Aside0.mk H
              clear H
              go_wp2
              go_loopg [3] k1 (fun kq v3 w' => ∃ (x3_2 : Int), v3 = .int .i64 x3_2 ∧ Aside0 (spec_l3Beside.l1 kq x0_1 x2_1 x3_2 = some r) ∧ Aside0 (kq ≤ k1) ∧ Aside0 (Kd.R (Kd.int .i64) 3 w' w0.heap.size (fun k_ => (P0_ k_ ∨ w.heap.size ≤ k_)) (.slice (some ad128) x0_1.length co6) x0_1) ∧ Aside0 (Kept w w' (fun k_ => P0_ k_)) ∧ Aside0 (Below w0.heap.size w0 w'))
              case atStart => exact ⟨(x2_1), (by first | rfl | (simp; done) | (simp [*]; done)), H', ⟨Nat.le_refl _⟩, ⟨by (with_reducible repeat (first | apply Kd.R_alloc | apply Kd.R_drewN | apply Kd.R_drew)); exact HO_0.out⟩, ⟨by repeat (first | (with_reducible first | exact HK.out | apply Kept.alloc | apply Kept.drewN | apply Kept.drew) | exact HK.out)⟩, ⟨by repeat (first | (with_reducible first | exact HB.out | apply below_alloc | apply pw_below_drewN | apply below_drew1) | exact HB.out)⟩⟩
              case round =>
                clear H'
                try clear p1
                try clear q1
                try clear hx1
                try clear c2
                try clear c2b0
                try clear p2
                try clear c3
                try clear c3b0
                try clear c4
                try clear c4b0
                try clear c4b1
                try clear c6
                try clear hx128_0
                try clear p128
                try clear q128
                obtain ⟨x3_2, rfl, HA, HK2, HO_0, HK, HB⟩ := hrel
                cases gk with
                | zero => exact absurd HA.out (by simp [spec_l3Beside.l1])
                | succ k2 =>
                  have H := HA.out
                  clear HA
                  simp only [spec_l3Beside.l1] at H
                  by_cases c7 : x3_2 < (x0_1.length : Int)
                  · rw [if_pos c7] at H
                    have c7b0 : decide (x3_2 < (x0_1.length : Int)) = true := decide_eq_true c7
                    clear c7
                    (first | rw [c7b0] | (simp only [i64_w, i32_w]; rw [c7b0]) | skip)
                    by_cases c8 : 0 ≤ x3_2
                    · rw [if_pos c8] at H
                      have c8b0 : decide (0 ≤ x3_2) = true := decide_eq_true c8
                      clear c8
                      by_cases c9 : (rd x0_1 x3_2) = 6
                      · rw [if_pos c9] at H
                        have c9b0 : ((rd x0_1 x3_2) == 6) = true := beq_iff_eq.mpr c9
                        have c9b1 : ((rd x0_1 x3_2) != 6) = false := bne_eq_false_iff_eq.mpr c9
                        clear c9
                        have H' := Aside0.mk H
                        clear H
                        have p129 : 0 ≤ (x3_2 : Int) := of_decide_eq_true (by first | (with_reducible assumption) | assumption)
                        have q129 : x3_2 < (x0_1.length : Int) := of_decide_eq_true (by first | (with_reducible assumption) | assumption)
                        obtain ⟨ad129, e129, hx129_0⟩ := Kd.at_int (Kd.R_reads' HO_0.out).2.2 x3_2 p129 q129
                        obtain rfl : ad128 = ad129 := (by injection e129)
                        replace p129 := eq_true p129
                        replace q129 := eq_true q129
                        go_wp2
                        go_roundg k2
                        case measure => have := HK1.out; have := HK2.out; omega
                        case rel => exact ⟨(wrap64 (x3_2 + 1)), (by first | rfl | (simp; done) | (simp [*]; done)), H', ⟨by have := HK1.out; have := HK2.out; omega⟩, ⟨by (with_reducible repeat (first | apply Kd.R_alloc | apply Kd.R_drewN | apply Kd.R_drew)); exact HO_0.out⟩, ⟨by repeat (first | (with_reducible first | exact HK.out | apply Kept.alloc | apply Kept.drewN | apply Kept.drew) | exact HK.out)⟩, ⟨by repeat (first | (with_reducible first | exact HB.out | apply below_alloc | apply pw_below_drewN | apply below_drew1) | exact HB.out)⟩⟩
                      · rw [if_neg c9] at H
                        have c9b0 : ((rd x0_1 x3_2) == 6) = false := beq_eq_false_iff_ne.mpr c9
                        have c9b1 : ((rd x0_1 x3_2) != 6) = true := bne_iff_ne.mpr c9
                        have H' := Aside0.mk H
                        clear H
                        have p129 : 0 ≤ (x3_2 : Int) := of_decide_eq_true (by first | (with_reducible assumption) | assumption)
                        have q129 : x3_2 < (x0_1.length : Int) := of_decide_eq_true (by first | (with_reducible assumption) | assumption)
                        obtain ⟨ad129, e129, hx129_0⟩ := Kd.at_int (Kd.R_reads' HO_0.out).2.2 x3_2 p129 q129
                        obtain rfl : ad128 = ad129 := (by injection e129)
                        replace p129 := eq_true p129
                        replace q129 := eq_true q129
                        go_wp2
                        go_meet
                        case rel => exact ⟨_, (x3_2), (by first | rfl | (simp; done) | (simp [*]; done)), H', ⟨by have := HK1.out; have := HK2.out; first | omega | exact Nat.le_refl _⟩, ⟨by (with_reducible repeat (first | apply Kd.R_alloc | apply Kd.R_drewN | apply Kd.R_drew)); exact HO_0.out⟩, ⟨by repeat (first | (with_reducible first | exact HK.out | apply Kept.alloc | apply Kept.drewN | apply Kept.drew) | exact HK.out)⟩, ⟨by repeat (first | (with_reducible first | exact HB.out | apply below_alloc | apply pw_below_drewN | apply below_drew1) | exact HB.out)⟩⟩
                    · rw [if_neg c8] at H
                      exact absurd H (by simp)
                  · rw [if_neg c7] at H
                    have c7b0 : decide (x3_2 < (x0_1.length : Int)) = false := decide_eq_false c7
                    clear c7
                    (first | rw [c7b0] | (simp only [i64_w, i32_w]; rw [c7b0]) | skip)
                    have H' := Aside0.mk H
                    clear H
                    go_wp2
                    go_meet
                    case rel => exact ⟨_, (x3_2), (by first | rfl | (simp; done) | (simp [*]; done)), H', ⟨by have := HK1.out; have := HK2.out; first | omega | exact Nat.le_refl _⟩, ⟨by (with_reducible repeat (first | apply Kd.R_alloc | apply Kd.R_drewN | apply Kd.R_drew)); exact HO_0.out⟩, ⟨by repeat (first | (with_reducible first | exact HK.out | apply Kept.alloc | apply Kept.drewN | apply Kept.drew) | exact HK.out)⟩, ⟨by repeat (first | (with_reducible first | exact HB.out | apply below_alloc | apply pw_below_drewN | apply below_drew1) | exact HB.out)⟩⟩
            case rest =>
              clear HC5
              try clear p1
              try clear q1
              try clear hx1
              try clear c2
              try clear c2b0
              try clear p2
              try clear c3
              try clear c3b0
              try clear c4
              try clear c4b0
              try clear c4b1
              try clear c6
              try clear p6
              try clear c7
              try clear c7b0
              try clear c8
              try clear c8b0
              try clear c9
              try clear c9b0
              try clear c9b1
              try clear hx128_0
              try clear hx129_0
              try clear p1
              try clear p128
              try clear p129
              try clear p2
              try clear q1
              try clear q128
              try clear q129
              obtain ⟨kq, x3_4, rfl, HA, HJ4, HO_0, HK, HB⟩ := hcut
              cases kq with
              | zero => exact absurd HA.out (by simp [spec_l3Beside.j2])
              | succ kj4 =>
                have H := HA.out
                clear HA
                simp only [spec_l3Beside.j2] at H
                have HC10 := Aside0.mk H
                clear H
                go_upto_region 7 with (fail)
                go_cut [52] (fun v52 wc => ∃ (kq : Nat) (x52_9 : Bool), v52 = .bool x52_9 ∧ Aside0 (spec_l3Beside.j3 kq x0_1 x2_1 x3_4 x52_9 = some r) ∧ Aside0 (kq ≤ kj4) ∧ Aside0 (Kd.R (Kd.int .i64) 3 wc w0.heap.size (fun k_ => (P0_ k_ ∨ w.heap.size ≤ k_)) (.slice (some ad128) x0_1.length co6) x0_1) ∧ Aside0 (Kept w wc (fun k_ => P0_ k_)) ∧ Aside0 (Below w0.heap.size w0 wc))
                case first =>
                  have H := HC10.out
                  clear HC10
                  by_cases c11 : x2_1 > 0
                  · rw [if_pos c11] at H
                    have c11b0 : decide (0 < x2_1) = true := decide_eq_true c11
                    clear c11
                    (first | rw [c11b0] | (simp only [i64_w, i32_w]; rw [c11b0]) | skip)
                    obtain ⟨ji12, hji12⟩ : ∃ j_ : Int, (wrap64 (x2_1 - 1)) = j_ := ⟨_, rfl⟩
                    replace H : (if 0 ≤ (ji12) then (if (ji12) < (x0_1.length : Int) then (if (rd x0_1 (ji12)) = 4 then (spec_l3Beside.j3 kj4 x0_1 x2_1 x3_4 true) else (if x3_4 < (x0_1.length : Int) then (if 0 ≤ x3_4 then (spec_l3Beside.j3 kj4 x0_1 x2_1 x3_4 ((rd x0_1 x3_4) == 4)) else (none)) else (spec_l3Beside.j3 kj4 x0_1 x2_1 x3_4 false))) else (none)) else (none)) = some r := by first | (rw [hji12] at H; exact H) | (simp only [hji12] at H ⊢; exact H)
                    have hji12w : (IntKind.i64.wrap (x2_1 - 1)) = ji12 := (i64_w _).trans hji12
                    by_cases c13 : 0 ≤ (ji12)
                    · rw [if_pos c13] at H
                      have c13b0 : decide (0 ≤ (ji12)) = true := decide_eq_true c13
                      clear c13
                      by_cases c14 : (ji12) < (x0_1.length : Int)
                      · rw [if_pos c14] at H
                        have c14b0 : decide ((ji12) < (x0_1.length : Int)) = true := decide_eq_true c14
                        clear c14
                        by_cases c15 : (rd x0_1 (ji12)) = 4
                        · rw [if_pos c15] at H
                          have c15b0 : ((rd x0_1 (ji12)) == 4) = true := beq_iff_eq.mpr c15
                          have c15b1 : ((rd x0_1 (ji12)) != 4) = false := bne_eq_false_iff_eq.mpr c15
                          clear c15
                          have H' := Aside0.mk H
                          clear H
                          have p130 : 0 ≤ ((ji12) : Int) := of_decide_eq_true (by first | (with_reducible assumption) | assumption)
                          have q130 : (ji12) < (x0_1.length : Int) := of_decide_eq_true (by first | (with_reducible assumption) | assumption)
                          obtain ⟨ad130, e130, hx130_0⟩ := Kd.at_int (Kd.R_reads' HO_0.out).2.2 (ji12) p130 q130
                          obtain rfl : ad128 = ad130 := (by injection e130)
                          replace p130 := eq_true p130
                          replace q130 := eq_true q130
                          go_wp2
                          go_meet
                          case rel => exact ⟨_, (true), (by first | rfl | (simp; done) | (simp [*]; done)), H', ⟨by have := HK1.out; have := HJ4.out; first | omega | exact Nat.le_refl _⟩, ⟨by (with_reducible repeat (first | apply Kd.R_alloc | apply Kd.R_drewN | apply Kd.R_drew)); exact HO_0.out⟩, ⟨by repeat (first | (with_reducible first | exact HK.out | apply Kept.alloc | apply Kept.drewN | apply Kept.drew) | exact HK.out)⟩, ⟨by repeat (first | (with_reducible first | exact HB.out | apply below_alloc | apply pw_below_drewN | apply below_drew1) | exact HB.out)⟩⟩
                        · rw [if_neg c15] at H
                          have c15b0 : ((rd x0_1 (ji12)) == 4) = false := beq_eq_false_iff_ne.mpr c15
                          have c15b1 : ((rd x0_1 (ji12)) != 4) = true := bne_iff_ne.mpr c15
                          by_cases c16 : x3_4 < (x0_1.length : Int)
                          · rw [if_pos c16] at H
                            have c16b0 : decide (x3_4 < (x0_1.length : Int)) = true := decide_eq_true c16
                            clear c16
                            by_cases c17 : 0 ≤ x3_4
                            · rw [if_pos c17] at H
                              have c17b0 : decide (0 ≤ x3_4) = true := decide_eq_true c17
                              clear c17
                              have H' := Aside0.mk H
                              clear H
                              have p130 : 0 ≤ ((ji12) : Int) := of_decide_eq_true (by first | (with_reducible assumption) | assumption)
                              have q130 : (ji12) < (x0_1.length : Int) := of_decide_eq_true (by first | (with_reducible assumption) | assumption)
                              obtain ⟨ad130, e130, hx130_0⟩ := Kd.at_int (Kd.R_reads' HO_0.out).2.2 (ji12) p130 q130
                              obtain rfl : ad128 = ad130 := (by injection e130)
                              replace p130 := eq_true p130
                              replace q130 := eq_true q130
                              have p131 : 0 ≤ (x3_4 : Int) := of_decide_eq_true (by first | (with_reducible assumption) | assumption)
                              have q131 : x3_4 < (x0_1.length : Int) := of_decide_eq_true (by first | (with_reducible assumption) | assumption)
                              obtain ⟨ad131, e131, hx131_0⟩ := Kd.at_int (Kd.R_reads' HO_0.out).2.2 x3_4 p131 q131
                              obtain rfl : ad128 = ad131 := (by injection e131)
                              replace p131 := eq_true p131
                              replace q131 := eq_true q131
                              go_wp2
                              go_meet
                              case rel => exact ⟨_, (((rd x0_1 x3_4) == 4)), (by first | rfl | (simp; done) | (simp [*]; done)), H', ⟨by have := HK1.out; have := HJ4.out; first | omega | exact Nat.le_refl _⟩, ⟨by (with_reducible repeat (first | apply Kd.R_alloc | apply Kd.R_drewN | apply Kd.R_drew)); exact HO_0.out⟩, ⟨by repeat (first | (with_reducible first | exact HK.out | apply Kept.alloc | apply Kept.drewN | apply Kept.drew) | exact HK.out)⟩, ⟨by repeat (first | (with_reducible first | exact HB.out | apply below_alloc | apply pw_below_drewN | apply below_drew1) | exact HB.out)⟩⟩
                            · rw [if_neg c17] at H
                              exact absurd H (by simp)
                          · rw [if_neg c16] at H
                            have c16b0 : decide (x3_4 < (x0_1.length : Int)) = false := decide_eq_false c16
                            clear c16
                            have H' := Aside0.mk H
                            clear H
                            have p130 : 0 ≤ ((ji12) : Int) := of_decide_eq_true (by first | (with_reducible assumption) | assumption)
                            have q130 : (ji12) < (x0_1.length : Int) := of_decide_eq_true (by first | (with_reducible assumption) | assumption)
                            obtain ⟨ad130, e130, hx130_0⟩ := Kd.at_int (Kd.R_reads' HO_0.out).2.2 (ji12) p130 q130
                            obtain rfl : ad128 = ad130 := (by injection e130)
                            replace p130 := eq_true p130
                            replace q130 := eq_true q130
                            go_wp2
                            go_meet
                            case rel => exact ⟨_, (false), (by first | rfl | (simp; done) | (simp [*]; done)), H', ⟨by have := HK1.out; have := HJ4.out; first | omega | exact Nat.le_refl _⟩, ⟨by (with_reducible repeat (first | apply Kd.R_alloc | apply Kd.R_drewN | apply Kd.R_drew)); exact HO_0.out⟩, ⟨by repeat (first | (with_reducible first | exact HK.out | apply Kept.alloc | apply Kept.drewN | apply Kept.drew) | exact HK.out)⟩, ⟨by repeat (first | (with_reducible first | exact HB.out | apply below_alloc | apply pw_below_drewN | apply below_drew1) | exact HB.out)⟩⟩
                      · rw [if_neg c14] at H
                        exact absurd H (by simp)
                    · rw [if_neg c13] at H
                      exact absurd H (by simp)
                  · rw [if_neg c11] at H
                    have c11b0 : decide (0 < x2_1) = false := decide_eq_false c11
                    clear c11
                    (first | rw [c11b0] | (simp only [i64_w, i32_w]; rw [c11b0]) | skip)
                    by_cases c18 : x3_4 < (x0_1.length : Int)
                    · rw [if_pos c18] at H
                      have c18b0 : decide (x3_4 < (x0_1.length : Int)) = true := decide_eq_true c18
                      clear c18
                      by_cases c19 : 0 ≤ x3_4
                      · rw [if_pos c19] at H
                        have c19b0 : decide (0 ≤ x3_4) = true := decide_eq_true c19
                        clear c19
                        have H' := Aside0.mk H
                        clear H
                        have p132 : 0 ≤ (x3_4 : Int) := of_decide_eq_true (by first | (with_reducible assumption) | assumption)
                        have q132 : x3_4 < (x0_1.length : Int) := of_decide_eq_true (by first | (with_reducible assumption) | assumption)
                        obtain ⟨ad132, e132, hx132_0⟩ := Kd.at_int (Kd.R_reads' HO_0.out).2.2 x3_4 p132 q132
                        obtain rfl : ad128 = ad132 := (by injection e132)
                        replace p132 := eq_true p132
                        replace q132 := eq_true q132
                        go_wp2
                        go_meet
                        case rel => exact ⟨_, (((rd x0_1 x3_4) == 4)), (by first | rfl | (simp; done) | (simp [*]; done)), H', ⟨by have := HK1.out; have := HJ4.out; first | omega | exact Nat.le_refl _⟩, ⟨by (with_reducible repeat (first | apply Kd.R_alloc | apply Kd.R_drewN | apply Kd.R_drew)); exact HO_0.out⟩, ⟨by repeat (first | (with_reducible first | exact HK.out | apply Kept.alloc | apply Kept.drewN | apply Kept.drew) | exact HK.out)⟩, ⟨by repeat (first | (with_reducible first | exact HB.out | apply below_alloc | apply pw_below_drewN | apply below_drew1) | exact HB.out)⟩⟩
                      · rw [if_neg c19] at H
                        exact absurd H (by simp)
                    · rw [if_neg c18] at H
                      have c18b0 : decide (x3_4 < (x0_1.length : Int)) = false := decide_eq_false c18
                      clear c18
                      have H' := Aside0.mk H
                      clear H
                      go_wp2
                      go_meet
                      case rel => exact ⟨_, (false), (by first | rfl | (simp; done) | (simp [*]; done)), H', ⟨by have := HK1.out; have := HJ4.out; first | omega | exact Nat.le_refl _⟩, ⟨by (with_reducible repeat (first | apply Kd.R_alloc | apply Kd.R_drewN | apply Kd.R_drew)); exact HO_0.out⟩, ⟨by repeat (first | (with_reducible first | exact HK.out | apply Kept.alloc | apply Kept.drewN | apply Kept.drew) | exact HK.out)⟩, ⟨by repeat (first | (with_reducible first | exact HB.out | apply below_alloc | apply pw_below_drewN | apply below_drew1) | exact HB.out)⟩⟩
                case rest =>
                  clear HC10
                  try clear c1
                  try clear p1
                  try clear q1
                  try clear hx1
                  try clear c2
                  try clear c2b0
                  try clear p2
                  try clear c3
                  try clear c3b0
                  try clear c4
                  try clear c4b0
                  try clear c4b1
                  try clear c6
                  try clear p6
                  try clear c7
                  try clear c7b0
                  try clear c8
                  try clear c8b0
                  try clear c9
                  try clear c9b0
                  try clear c9b1
                  try clear c11
                  try clear c11b0
                  try clear p12
                  try clear q12
                  try clear hx12
                  try clear c13
                  try clear c13b0
                  try clear p13
                  try clear q13
                  try clear hx13
                  try clear c14
                  try clear c14b0
                  try clear c15
                  try clear c15b0
                  try clear c15b1
                  try clear c16
                  try clear c16b0
                  try clear c17
                  try clear c17b0
                  try clear c18
                  try clear c18b0
                  try clear c19
                  try clear c19b0
                  try clear hx128_0
                  try clear hx129_0
                  try clear hx130_0
                  try clear hx131_0
                  try clear hx132_0
                  try clear p1
                  try clear p128
                  try clear p129
                  try clear p130
                  try clear p131
                  try clear p132
                  try clear p2
                  try clear p6
                  try clear q1
                  try clear q128
                  try clear q129
                  try clear q130
                  try clear q131
                  try clear q132
                  obtain ⟨kq, x52_9, rfl, HA, HJ9, HO_0, HK, HB⟩ := hcut
                  cases kq with
                  | zero => exact absurd HA.out (by simp [spec_l3Beside.j3])
                  | succ kj9 =>
                    have H := HA.out
                    clear HA
                    simp only [spec_l3Beside.j3] at H
                    by_cases c20 : x52_9 = true
                    · subst c20
                      have H1 : (spec_l3Beside.l2 kj9 x0_1 x2_1 x3_4 x2_1) = some r := by rw [if_pos rfl] at H; exact H
                      clear H
                      have H := H1
                      clear H1
                      have H' := Aside0.mk H
                      clear H
                      go_wp2
                      go_loopg [4] kj9 (fun kq v4 w' => ∃ (x0_4 : List Int) (x4_4 : Int), v4 = .int .i64 x4_4 ∧ Aside0 (spec_l3Beside.l2 kq x0_4 x2_1 x3_4 x4_4 = some r) ∧ Aside0 (kq ≤ kj9) ∧ Aside0 (Kd.R (Kd.int .i64) 3 w' w0.heap.size (fun k_ => (P0_ k_ ∨ w.heap.size ≤ k_)) (.slice (some ad128) x0_1.length co6) x0_4) ∧ Aside0 (Kept w w' (fun k_ => P0_ k_)) ∧ Aside0 (Below w0.heap.size w0 w'))
                      case atStart => exact ⟨(x0_1), (x2_1), (by first | rfl | (simp; done) | (simp [*]; done)), H', ⟨Nat.le_refl _⟩, ⟨by (with_reducible repeat (first | apply Kd.R_alloc | apply Kd.R_drewN | apply Kd.R_drew)); exact HO_0.out⟩, ⟨by repeat (first | (with_reducible first | exact HK.out | apply Kept.alloc | apply Kept.drewN | apply Kept.drew) | exact HK.out)⟩, ⟨by repeat (first | (with_reducible first | exact HB.out | apply below_alloc | apply pw_below_drewN | apply below_drew1) | exact HB.out)⟩⟩
                      case round =>
                        clear H'
                        try clear c1
                        try clear p1
                        try clear q1
                        try clear hx1
                        try clear c2
                        try clear c2b0
                        try clear p2
                        try clear c3
                        try clear c3b0
                        try clear c4
                        try clear c4b0
                        try clear c4b1
                        try clear c6
                        try clear p6
                        try clear c7
                        try clear c7b0
                        try clear c8
                        try clear c8b0
                        try clear c9
                        try clear c9b0
                        try clear c9b1
                        try clear c11
                        try clear c11b0
                        try clear p12
                        try clear q12
                        try clear hx12
                        try clear c13
                        try clear c13b0
                        try clear p13
                        try clear q13
                        try clear hx13
                        try clear c14
                        try clear c14b0
                        try clear c15
                        try clear c15b0
                        try clear c15b1
                        try clear c16
                        try clear c16b0
                        try clear c17
                        try clear c17b0
                        try clear c18
                        try clear c18b0
                        try clear c19
                        try clear c19b0
                        try clear c20
                        try clear hx128_0
                        try clear hx129_0
                        try clear hx130_0
                        try clear hx131_0
                        try clear hx132_0
                        try clear p1
                        try clear p12
                        try clear p128
                        try clear p129
                        try clear p13
                        try clear p130
                        try clear p131
                        try clear p132
                        try clear p2
                        try clear p6
                        try clear q1
                        try clear q12
                        try clear q128
                        try clear q129
                        try clear q13
                        try clear q130
                        try clear q131
                        try clear q132
                        obtain ⟨x0_4, x4_4, rfl, HA, HK4, HO_0, HK, HB⟩ := hrel
                        have hl0_4 := (Kd.R_reads' HO_0.out).1
                        rw [hl0_4] at HO_0
                        (try simp only [hl0_4])
                        cases gk with
                        | zero => exact absurd HA.out (by simp [spec_l3Beside.l2])
                        | succ k4 =>
                          have H := HA.out
                          clear HA
                          simp only [spec_l3Beside.l2] at H
                          by_cases c21 : x4_4 < x3_4
                          · rw [if_pos c21] at H
                            have c21b0 : decide (x4_4 < x3_4) = true := decide_eq_true c21
                            clear c21
                            by_cases c22 : 0 ≤ x4_4
                            · rw [if_pos c22] at H
                              have c22b0 : decide (0 ≤ x4_4) = true := decide_eq_true c22
                              clear c22
                              by_cases c23 : x4_4 < (x0_4.length : Int)
                              · rw [if_pos c23] at H
                                have c23b0 : decide (x4_4 < (x0_4.length : Int)) = true := decide_eq_true c23
                                clear c23
                                obtain ⟨y133, hy133⟩ : ∃ y_ : List Int, y_ = (x0_4.set (x4_4 : Int).toNat 4) := ⟨_, rfl⟩
                                replace H : (spec_l3Beside.l2 k4 y133 x2_1 x3_4 (wrap64 (x4_4 + 1))) = some r := by first | (rw [hy133]; with_reducible exact H) | (have H2_ := (Option.bind_some _ _).symm.trans H; rw [hy133]; with_reducible exact H2_) | (have H2_ := (Option.bind_some _ _).symm.trans H; with_reducible exact H2_) | with_reducible exact H | (rw [hy133]; exact H) | exact H
                                have Ny133 := Aside0.mk hy133
                                clear hy133
                                have H' := Aside0.mk H
                                clear H
                                have p24 : 0 ≤ (x4_4 : Int) := of_decide_eq_true (by first | (with_reducible assumption) | assumption)
                                have q24 : (x4_4 : Int) < ((x0_4.length : Int) : Int) := of_decide_eq_true (by first | (with_reducible assumption) | assumption)
                                obtain ⟨go24, co24, eo24, gb24, gl24, cl24, HG24⟩ := Kd.R_form HO_0.out (by omega)
                                (first | cases eo24 | (injection eo24 with ea_ en_ ec_; (first | subst ea_ | (injection ea_ with ea_; subst ea_)); subst ec_; clear en_))
                                have GB24 := Aside0.mk gb24
                                have GG24 := Aside0.mk HG24
                                clear gb24 gl24 HG24
                                have HMgo24 := Aside0.mk (show (P0_ go24 ∨ w.heap.size ≤ go24) from (HO_0.out.1 _ rfl))
                                (first | simp only [add_plain] at hx128_0 | skip)
                                (first | simp only [add_plain] at hx129_0 | skip)
                                (first | simp only [add_plain] at hx130_0 | skip)
                                (first | simp only [add_plain] at hx131_0 | skip)
                                (first | simp only [add_plain] at hx132_0 | skip)
                                obtain ⟨hx24_0, hf24_0⟩ := Kd.R_celln 0 HO_0.out (x4_4 : Int) p24 q24
                                replace p24 := eq_true p24
                                replace q24 := eq_true q24
                                have HP25 := Kd.R_putg HO_0.out (x4_4 : Int) 4
                                go_wp2_with (first | ((with_reducible refine gate_store (t := 3) (p := 61) rfl ?_); refine store_event (t := 3) (p := 61) (v := ?vo_w26) (w1 := (wr.setCell ⟨go24, (x4_4 : Int).toNat, none⟩ (.int .i64 4))) ?hg ?ho ?hn ?hr ?_; (case ho => rfl); (case hg => rfl); (case hn => rfl); (case hr => first | (go_simp; done) | (go_simp; rfl)); intro w26 hw; have hg : wr.grownBy w26 (some go24) := (by rw [hw]; exact HP25.2); have hp_ : Kd.R (Kd.int .i64) 3 w26 w0.heap.size (fun k_ => (P0_ k_ ∨ w.heap.size ≤ k_)) (.slice (some ⟨go24, 0, none⟩) x0_4.length co6) y133 := (by rw [hw, Ny133.out]; exact HP25.1); clear HP25; have n0_ := Aside0.mk (hp_); have n1_ := Aside0.mk ((by rw [hw]; exact below_set (HB.out) GB24.out : Below w0.heap.size w0 w26)); have n2_ := Aside0.mk (Kept.of_grown (S := (fun k_ => P0_ k_)) hg (by repeat (first | (with_reducible first | exact HK.out | apply Kept.alloc | apply Kept.drewN | apply Kept.drew) | exact HK.out)) (fun k_ e_ => (HO_0.out.1 k_ e_))); clear HO_0; clear HB; clear HK; have HO_0 := n0_; have HB := n1_; have HK := n2_; clear n0_ n1_ n2_; clear hg hw hp_))
                                (try simp only [← hl0_4])
                                go_roundg k4
                                case measure => have := HK1.out; have := HJ4.out; have := HJ9.out; have := HK4.out; omega
                                case rel => exact ⟨(y133), (wrap64 (x4_4 + 1)), (by first | rfl | (simp; done) | (simp [*]; done)), H', ⟨by have := HK1.out; have := HJ4.out; have := HJ9.out; have := HK4.out; omega⟩, ⟨by (try simp only [hl0_4]); (with_reducible repeat (first | apply Kd.R_alloc | apply Kd.R_drewN | apply Kd.R_drew)); exact HO_0.out⟩, ⟨by repeat (first | (with_reducible first | exact HK.out | apply Kept.alloc | apply Kept.drewN | apply Kept.drew) | exact HK.out)⟩, ⟨by repeat (first | (with_reducible first | exact HB.out | apply below_alloc | apply pw_below_drewN | apply below_drew1) | exact HB.out)⟩⟩
                              · rw [if_neg c23] at H
                                exact absurd H (by simp)
                            · rw [if_neg c22] at H
                              exact absurd H (by simp)
                          · rw [if_neg c21] at H
                            have c21b0 : decide (x4_4 < x3_4) = false := decide_eq_false c21
                            clear c21
                            have H' := Aside0.mk H
                            clear H
                            go_wp2
                            (try simp only [← hl0_4])
                            go_roundg k4
                            case measure => have := HK1.out; have := HJ4.out; have := HJ9.out; have := HK4.out; omega
                            case rel => exact ⟨(x0_4), (wrap64 (x2_1 + 1)), (by first | rfl | (simp; done) | (simp [*]; done)), H', ⟨by have := HK1.out; have := HJ4.out; have := HJ9.out; have := HK4.out; omega⟩, ⟨by (try simp only [hl0_4]); (with_reducible repeat (first | apply Kd.R_alloc | apply Kd.R_drewN | apply Kd.R_drew)); exact HO_0.out⟩, ⟨by repeat (first | (with_reducible first | exact HK.out | apply Kept.alloc | apply Kept.drewN | apply Kept.drew) | exact HK.out)⟩, ⟨by repeat (first | (with_reducible first | exact HB.out | apply below_alloc | apply pw_below_drewN | apply below_drew1) | exact HB.out)⟩⟩
                    · replace c20 := Bool.eq_false_iff.mpr c20
                      subst c20
                      have H1 : (spec_l3Beside.l0 kj9 x0_1 (wrap64 (x2_1 + 1))) = some r := by rw [if_neg (show ¬ (false = true) by decide)] at H; exact H
                      clear H
                      have H := H1
                      clear H1
                      have H' := Aside0.mk H
                      clear H
                      go_wp2
                      go_roundg kj9
                      case measure => have := HK1.out; have := HJ4.out; have := HJ9.out; omega
                      case rel => exact ⟨(x0_1), (wrap64 (x2_1 + 1)), (by first | rfl | (simp; done) | (simp [*]; done)), H', ⟨by have := HK1.out; have := HJ4.out; have := HJ9.out; omega⟩, ⟨by (with_reducible repeat (first | apply Kd.R_alloc | apply Kd.R_drewN | apply Kd.R_drew)); exact HO_0.out⟩, ⟨by repeat (first | (with_reducible first | exact HK.out | apply Kept.alloc | apply Kept.drewN | apply Kept.drew) | exact HK.out)⟩, ⟨by repeat (first | (with_reducible first | exact HB.out | apply below_alloc | apply pw_below_drewN | apply below_drew1) | exact HB.out)⟩⟩
          · rw [if_neg c4] at H
            have c4b0 : ((rd x0_1 x2_1) == 6) = false := beq_eq_false_iff_ne.mpr c4
            have c4b1 : ((rd x0_1 x2_1) != 6) = true := bne_iff_ne.mpr c4
            have H' := Aside0.mk H
            clear H
            obtain ⟨Ao27, co27, eo27⟩ := Kd.R_slice HO_0.out
            subst eo27
            have p128 : 0 ≤ (x2_1 : Int) := of_decide_eq_true (by first | (with_reducible assumption) | assumption)
            have q128 : x2_1 < (x0_1.length : Int) := of_decide_eq_true (by first | (with_reducible assumption) | assumption)
            obtain ⟨ad128, e128, hx128_0⟩ := Kd.at_int (Kd.R_reads' HO_0.out).2.2 x2_1 p128 q128
            cases e128
            replace p128 := eq_true p128
            replace q128 := eq_true q128
            go_wp2
            go_roundg k1
            case measure => have := HK1.out; omega
            case rel => exact ⟨(x0_1), (wrap64 (x2_1 + 1)), (by first | rfl | (simp; done) | (simp [*]; done)), H', ⟨by have := HK1.out; omega⟩, ⟨by (with_reducible repeat (first | apply Kd.R_alloc | apply Kd.R_drewN | apply Kd.R_drew)); exact HO_0.out⟩, ⟨by repeat (first | (with_reducible first | exact HK.out | apply Kept.alloc | apply Kept.drewN | apply Kept.drew) | exact HK.out)⟩, ⟨by repeat (first | (with_reducible first | exact HB.out | apply below_alloc | apply pw_below_drewN | apply below_drew1) | exact HB.out)⟩⟩
        · rw [if_neg c3] at H
          exact absurd H (by simp)
      · rw [if_neg c2] at H
        have c2b0 : decide (x2_1 < (x0_1.length : Int)) = false := decide_eq_false c2
        clear c2
        obtain rfl := Option.some.inj H
        obtain ⟨Ao28, co28, eo28⟩ := Kd.R_slice HO_0.out
        subst eo28
        go_wp2
        first | go_end0 | ((try simp only [Exit.inBlock, Exit.then]); refine bodyPost_ret (results_none rfl _ _ _) rfl ?_)
        exact ⟨by first | rfl | (simp [errW_none, errW_some] <;> rfl) | (simp [*, errW_none, errW_some] <;> rfl), by (with_reducible repeat (first | apply Kd.R_alloc | apply Kd.R_drewN | apply Kd.R_drew)); exact HO_0.out, by repeat (first | (with_reducible first | exact HB.out | apply below_alloc | apply pw_below_drewN | apply below_drew1) | exact HB.out), by repeat (first | (with_reducible first | exact HK.out | apply Kept.alloc | apply Kept.drewN | apply Kept.drew) | exact HK.out)⟩

end Go.Proofs.Ytojehfdioeglgaa.S

namespace Go.Proofs.Ytojehfdioeglgaa.S
open Go.RowKit Go.Proofs.YtojehfdioeglgaaW.PrintWords Go.Proofs.YtojehfdioeglgaaW.PrintLast Go.Proofs.YtojehfdioeglgaaW.PrintMore
attribute [local go_sem] max2_int min2_int max_two min_two max_three min_three max_four min_four   -- for this text's walks alone
set_option linter.unusedVariables false
set_option linter.unusedSimpArgs false

theorem q0s {α : Type} (l : List α) (i : Nat) (a : α) : l.toArray.setIfInBounds i a = (l.set i a).toArray := List.setIfInBounds_toArray ..
theorem q0z {α : Type} (a : α) (l : List α) (b : α) : (a :: l).set 0 b = b :: l := List.set_cons_zero ..
theorem q0n {α : Type} (a : α) (l : List α) (i : Nat) (b : α) : (a :: l).set (i + 1) b = a :: l.set i b := List.set_cons_succ ..
/-! ### spec_l3Weak: function 31 -/
mutual
def spec_l3Weak.l0 : Nat → Int → List Int → Int → Option (List Int)
 | 0, _, _, _ => none
 | k + 1, x1, x5, x6 => if x6 < (x5.length : Int) then (if 0 ≤ x6 then (if (rd x5 x6) = 4 then ((spec_l3Strong.f k x5 x6 x1).bind fun t142 => (if t142 = 3 then (spec_l3Weak.l0 k x1 (x5.set (x6 : Int).toNat 7) (wrap64 (x6 + 1))) else (spec_l3Weak.l0 k x1 x5 (wrap64 (x6 + 1))))) else (spec_l3Weak.l0 k x1 x5 (wrap64 (x6 + 1)))) else (none)) else (spec_l3Weak.l1 k x1 x5 0)
def spec_l3Weak.l1 : Nat → Int → List Int → Int → Option (List Int)
 | 0, _, _, _ => none
 | k + 1, x1, x5, x7 => if x7 < (x5.length : Int) then (if 0 ≤ x7 then (if (rd x5 x7) = 3 then (spec_l3Weak.l1 k x1 (x5.set (x7 : Int).toNat 2) (wrap64 (x7 + 1))) else (spec_l3Weak.l1 k x1 x5 (wrap64 (x7 + 1)))) else (none)) else ((spec_l3Between.f k x5).bind fun t146 => ((spec_l3Beside.f k t146).bind fun t147 => (spec_l3Weak.l2 k x1 t147 0)))
def spec_l3Weak.l2 : Nat → Int → List Int → Int → Option (List Int)
 | 0, _, _, _ => none
 | k + 1, x1, x5, x8 => if x8 < (x5.length : Int) then (if 0 ≤ x8 then ((spec_l1In.f (rd x5 x8) 5 6).bind fun t149 => (if t149 = true then (spec_l3Weak.l2 k x1 (x5.set (x8 : Int).toNat 13) (wrap64 (x8 + 1))) else (if (rd x5 x8) = 8 then (spec_l3Weak.l2 k x1 (x5.set (x8 : Int).toNat 13) (wrap64 (x8 + 1))) else (spec_l3Weak.l2 k x1 x5 (wrap64 (x8 + 1)))))) else (none)) else (spec_l3Weak.l3 k x1 x5 0)
def spec_l3Weak.l3 : Nat → Int → List Int → Int → Option (List Int)
 | 0, _, _, _ => none
 | k + 1, x1, x5, x9 => if x9 < (x5.length : Int) then (if 0 ≤ x9 then (if (rd x5 x9) = 4 then ((spec_l3Strong.f k x5 x9 x1).bind fun t154 => (if t154 = 1 then (spec_l3Weak.l3 k x1 (x5.set (x9 : Int).toNat 1) (wrap64 (x9 + 1))) else (spec_l3Weak.l3 k x1 x5 (wrap64 (x9 + 1))))) else (spec_l3Weak.l3 k x1 x5 (wrap64 (x9 + 1)))) else (none)) else (some x5)
end
def spec_l3Weak.f (k : Nat) (l0 : List Int) (a1 : Int) : Option (List Int) := (some (([] : List Int) : List Int)).bind fun y134 => (if y134.length + l0.length < 17592186044416 then ((spec_l3Marks.f k (y134 ++ l0) a1).bind fun t140 => (spec_l3Weak.l0 k a1 t140 0)) else (none))
theorem spec_l3Weak.mono_l : ∀ k, (∀ y0 y1 y2, LeO (spec_l3Weak.l0 k y0 y1 y2) (spec_l3Weak.l0 (k + 1) y0 y1 y2)) ∧ (∀ y0 y1 y2, LeO (spec_l3Weak.l1 k y0 y1 y2) (spec_l3Weak.l1 (k + 1) y0 y1 y2)) ∧ (∀ y0 y1 y2, LeO (spec_l3Weak.l2 k y0 y1 y2) (spec_l3Weak.l2 (k + 1) y0 y1 y2)) ∧ (∀ y0 y1 y2, LeO (spec_l3Weak.l3 k y0 y1 y2) (spec_l3Weak.l3 (k + 1) y0 y1 y2))
 | 0 => ⟨fun _ _ _ r h => by simp [spec_l3Weak.l0] at h, fun _ _ _ r h => by simp [spec_l3Weak.l1] at h, fun _ _ _ r h => by simp [spec_l3Weak.l2] at h, fun _ _ _ r h => by simp [spec_l3Weak.l3] at h⟩
 | k + 1 => by
  obtain ⟨ih0, ih1, ih2, ih3⟩ := spec_l3Weak.mono_l k; refine ⟨?_, ?_, ?_, ?_⟩
  ·
   intro y0 y1 y2; unfold spec_l3Weak.l0
   repeat' first
   | (with_reducible exact ih0 _ _ _)
   | (with_reducible exact ih1 _ _ _)
   | (with_reducible exact ih2 _ _ _)
   | (with_reducible exact ih3 _ _ _)
   | (with_reducible exact spec_l3Beside.mono _ _)
   | (with_reducible exact spec_l3Between.mono _ _)
   | (with_reducible exact spec_l3Marks.mono _ _ _)
   | (with_reducible exact spec_l3Strong.mono _ _ _ _)
   | (with_reducible exact LeO.refl _)
   | (with_reducible exact LeO.none _)
   | (with_reducible refine LeO.ite ?_ ?_)
   | (with_reducible refine LeO.bind ?_ (fun _ => ?_))
   | exact ih0 _ _ _
   | exact ih1 _ _ _
   | exact ih2 _ _ _
   | exact ih3 _ _ _
   | exact spec_l3Beside.mono _ _
   | exact spec_l3Between.mono _ _
   | exact spec_l3Marks.mono _ _ _
   | exact spec_l3Strong.mono _ _ _ _
   | exact LeO.none _
   | refine LeO.ite ?_ ?_
   | refine LeO.bind ?_ (fun _ => ?_)
  ·
   intro y0 y1 y2; unfold spec_l3Weak.l1
   repeat' first
   | (with_reducible exact ih0 _ _ _)
   | (with_reducible exact ih1 _ _ _)
   | (with_reducible exact ih2 _ _ _)
   | (with_reducible exact ih3 _ _ _)
   | (with_reducible exact spec_l3Beside.mono _ _)
   | (with_reducible exact spec_l3Between.mono _ _)
   | (with_reducible exact spec_l3Marks.mono _ _ _)
   | (with_reducible exact spec_l3Strong.mono _ _ _ _)
   | (with_reducible exact LeO.refl _)
   | (with_reducible exact LeO.none _)
   | (with_reducible refine LeO.ite ?_ ?_)
   | (with_reducible refine LeO.bind ?_ (fun _ => ?_))
   | exact ih0 _ _ _
   | exact ih1 _ _ _
   | exact ih2 _ _ _
   | exact ih3 _ _ _
   | exact spec_l3Beside.mono _ _
   | exact spec_l3Between.mono _ _
   | exact spec_l3Marks.mono _ _ _
   | exact spec_l3Strong.mono _ _ _ _
   | exact LeO.none _
   | refine LeO.ite ?_ ?_
   | refine LeO.bind ?_ (fun _ => ?_)
  ·
   intro y0 y1 y2; unfold spec_l3Weak.l2
   repeat' first
   | (with_reducible exact ih0 _ _ _)
   | (with_reducible exact ih1 _ _ _)
   | (with_reducible exact ih2 _ _ _)
   | (with_reducible exact ih3 _ _ _)
   | (with_reducible exact spec_l3Beside.mono _ _)
   | (with_reducible exact spec_l3Between.mono _ _)
   | (with_reducible exact spec_l3Marks.mono _ _ _)
   | (with_reducible exact spec_l3Strong.mono _ _ _ _)
   | (with_reducible exact LeO.refl _)
   | (with_reducible exact LeO.none _)
   | (with_reducible refine LeO.ite ?_ ?_)
   | (with_reducible refine LeO.bind ?_ (fun _ => ?_))
   | exact ih0 _ _ _
   | exact ih1 _ _ _
   | exact ih2 _ _ _
   | exact ih3 _ _ _
   | exact spec_l3Beside.mono _ _
   | exact spec_l3Between.mono _ _
   | exact spec_l3Marks.mono _ _ _
   | exact spec_l3Strong.mono _ _ _ _
   | exact LeO.none _
   | refine LeO.ite ?_ ?_
   | refine LeO.bind ?_ (fun _ => ?_)
  ·
   intro y0 y1 y2; unfold spec_l3Weak.l3
   repeat' first
   | (with_reducible exact ih0 _ _ _)
   | (with_reducible exact ih1 _ _ _)
   | (with_reducible exact ih2 _ _ _)
   | (with_reducible exact ih3 _ _ _)
   | (with_reducible exact spec_l3Beside.mono _ _)
   | (with_reducible exact spec_l3Between.mono _ _)
   | (with_reducible exact spec_l3Marks.mono _ _ _)
   | (with_reducible exact spec_l3Strong.mono _ _ _ _)
   | (with_reducible exact LeO.refl _)
   | (with_reducible exact LeO.none _)
   | (with_reducible refine LeO.ite ?_ ?_)
   | (with_reducible refine LeO.bind ?_ (fun _ => ?_))
   | exact ih0 _ _ _
   | exact ih1 _ _ _
   | exact ih2 _ _ _
   | exact ih3 _ _ _
   | exact spec_l3Beside.mono _ _
   | exact spec_l3Between.mono _ _
   | exact spec_l3Marks.mono _ _ _
   | exact spec_l3Strong.mono _ _ _ _
   | exact LeO.none _
   | refine LeO.ite ?_ ?_
   | refine LeO.bind ?_ (fun _ => ?_)
theorem spec_l3Weak.mono : ∀ a0 a1 k, LeO (spec_l3Weak.f k a0 a1) (spec_l3Weak.f (k + 1) a0 a1) := by
 intro a0 a1 k; obtain ⟨ih0, ih1, ih2, ih3⟩ := spec_l3Weak.mono_l k; unfold spec_l3Weak.f
 repeat' first
   | (with_reducible exact ih0 _ _ _)
   | (with_reducible exact ih1 _ _ _)
   | (with_reducible exact ih2 _ _ _)
   | (with_reducible exact ih3 _ _ _)
   | (with_reducible exact spec_l3Beside.mono _ _)
   | (with_reducible exact spec_l3Between.mono _ _)
   | (with_reducible exact spec_l3Marks.mono _ _ _)
   | (with_reducible exact spec_l3Strong.mono _ _ _ _)
   | (with_reducible exact LeO.refl _)
   | (with_reducible exact LeO.none _)
   | (with_reducible refine LeO.ite ?_ ?_)
   | (with_reducible refine LeO.bind ?_ (fun _ => ?_))
   | exact ih0 _ _ _
   | exact ih1 _ _ _
   | exact ih2 _ _ _
   | exact ih3 _ _ _
   | exact spec_l3Beside.mono _ _
   | exact spec_l3Between.mono _ _
   | exact spec_l3Marks.mono _ _ _
   | exact spec_l3Strong.mono _ _ _ _
   | exact LeO.none _
   | refine LeO.ite ?_ ?_
   | refine LeO.bind ?_ (fun _ => ?_)
set_option maxHeartbeats 8000000 in
set_option maxRecDepth 100000 in
theorem spec_l3Weak.calls (k : Nat) (A0 : Option Addr) (c0 : Nat) (l0 : List Int) (a1 : Int) (r : List Int) (w : World) (hr0 : Kd.C (Kd.int .i64) w A0 l0.length l0) (hc0 : l0.length ≤ c0) (h : spec_l3Weak.f k l0 a1 = some r) :
  Calls Try.prog 31 #[.slice A0 l0.length c0, .int .i64 a1] w fun e w' => ∃ v0_ : Value, e = .returned (v0_) ∧ Kd.R (Kd.int .i64) 3 w' w.heap.size (fun _ => True) v0_ r ∧ Below w.heap.size w w' := by
 have HR0 := Aside0.mk hr0; have HC0 := Aside0.mk hc0; clear hr0 hc0; have HB := Aside0.mk (Below.refl w.heap.size w); have H : ((some (([] : List Int) : List Int)).bind fun y134 => (if y134.length + l0.length < 17592186044416 then ((spec_l3Marks.f k (y134 ++ l0) a1).bind fun t140 => (spec_l3Weak.l0 k a1 t140 0)) else (none))) = some r := h; clear h; obtain ⟨y134, hy134⟩ : ∃ y_ : List Int, y_ = (([] : List Int)) := ⟨_, rfl⟩; replace H : (if y134.length + l0.length < 17592186044416 then ((spec_l3Marks.f k (y134 ++ l0) a1).bind fun t140 => (spec_l3Weak.l0 k a1 t140 0)) else (none)) = some r := by first | (rw [hy134]; with_reducible exact H) | (have H2_ := (Option.bind_some _ _).symm.trans H; rw [hy134]; with_reducible exact H2_) | (have H2_ := (Option.bind_some _ _).symm.trans H; with_reducible exact H2_) | with_reducible exact H | (rw [hy134]; exact H) | exact H
 have Ny134 := Aside0.mk hy134; clear hy134; by_cases c3 : y134.length + l0.length < 17592186044416
 ·
  rw [if_pos c3] at H; have LMc3 := Aside0.mk c3; clear c3; obtain ⟨y137, hy137⟩ : ∃ y_ : List Int, y_ = (y134 ++ l0) := ⟨_, rfl⟩; replace H : ((spec_l3Marks.f k y137 a1).bind fun t140 => (spec_l3Weak.l0 k a1 t140 0)) = some r := by first | (rw [hy137]; with_reducible exact H) | (have H2_ := (Option.bind_some _ _).symm.trans H; rw [hy137]; with_reducible exact H2_) | (have H2_ := (Option.bind_some _ _).symm.trans H; with_reducible exact H2_) | with_reducible exact H | (rw [hy137]; exact H) | exact H
  have Ny137 := Aside0.mk hy137; clear hy137; replace H := Option.bind_eq_some_iff.mp H; obtain ⟨t140, A40, H⟩ := H; replace H : (spec_l3Weak.l0 k a1 t140 0) = some r := H; have A4 := Aside0.mk A40; clear A40; have H' := Aside0.mk H; clear H; go_enter Try.func31, Try.ntmps31; go_wp2_with (first | ((with_reducible refine gate_dst (N := 10) rfl ?_); refine Kd.R_lit (Kd.int .i64) _ 3 ?hg (N := 10) ?hd (xs := ([] : List Int)) (inner := []) (ok := fun _ => True) (okp := fun _ => True) ?hr ?hp (fun _ hk => hk) trivial (Below.refl _ _) (Nat.le_refl _) (by simp) ?_; (case hd => rfl); (case hg => rfl); (case hr => first | (go_simp; done) | (go_simp; rfl)); (case hp => exact (Reps.none _ _)); intro v135 w5 ho6 hb hg_ hnew_; clear hg_ hnew_; (first | rw [← Ny134.out] at ho6 | (simp only [Int.reduceToNat] at ho6; rw [← Ny134.out] at ho6)); have n0_ := Aside0.mk (Kd.R_lower ho6 (below_size (by repeat (first | (with_reducible first | exact HB.out | apply below_alloc | apply pw_below_drewN | apply below_drew1) | exact HB.out)))); have n1_ := Aside0.mk (below_step (by repeat (first | (with_reducible first | exact HB.out | apply below_alloc | apply pw_below_drewN | apply below_drew1) | exact HB.out)) hb); clear HB; have HO136 := n0_; have HB := n1_; clear n0_ n1_; clear hb ho6) | ((with_reducible refine gate_builtin (b := .append) (xs := #[.tmp 10, .tmp 11]) rfl ?_); at_builtin; refine Kd.R_append_rows (Kd.int .i64) (w0 := w) w.heap.size rfl (.tmp 10) (.tmp 11) 22 3 (.int .i64 0) 8 rfl Try.underlying22 info3 rfl (by decide) (by omega) v135 y134 l0 _ _ _ (fun _ => True) (fun _ => False) rfl rfl ?aO ?aR (fun _ _ h => h) (fun _ h => h.elim) ?aF ?aB ?aS ?aL ?_; (case aR => repeat (first | exact (Kd.C_below HR0.out HB.out) | (with_reducible refine Kd.C_alloc ?_ _) | (with_reducible refine Kd.C_drewN ?_ _) | (with_reducible refine Kd.C_drew ?_))); (case aB => exact (by repeat (first | (with_reducible first | exact HB.out | apply below_alloc | apply pw_below_drewN | apply below_drew1) | exact HB.out))); (case aF => exact (fun _ _ => trivial)); (case aO => exact (by (with_reducible repeat (first | apply Kd.R_alloc | apply Kd.R_drewN | apply Kd.R_drew)); exact HO136.out)); (case aS => exact (below_size (by repeat (first | (with_reducible first | exact HB.out | apply below_alloc | apply pw_below_drewN | apply below_drew1) | exact HB.out)))); (case aL => have := LMc3.out; omega); intro v138 w7 ho hb hg hat; rw [← Ny137.out] at ho; have n0_ := Aside0.mk (hb); have n1_ := Aside0.mk (ho); clear HB; clear HO136; have HB := n0_; have HO139 := n1_; clear n0_ n1_; clear ho hb hg hat; obtain ⟨Ao8, co8, eo8⟩ := Kd.R_slice HO139.out; subst eo8) | ((with_reducible refine gate_callee (f := 57) rfl ?_); refine goesL_ (some 15) rfl rfl Try.func57 (by kernel_rfl) rfl #[.slice Ao8 y137.length co8, .int .i64 a1] rfl (by (try simp only [List.map_toArray, List.map_cons, List.map_nil]); first | done | rfl) ?_; (with_reducible refine (spec_l3Marks.calls k (fun k_ => some k_ = (.slice Ao8 y137.length co8 : Value).ownBlock) (.slice Ao8 y137.length co8) y137 a1 t140 w _ ?side1 ?side2 A4.out).mono ?_); (case side1 => repeat (first | (with_reducible first | exact HB.out | apply below_alloc | apply pw_below_drewN | apply below_drew1) | exact HB.out)); (case side2 => exact Kd.R_tight rfl HO139.out); rintro e w9 ⟨rfl, hy0, hb, hkp⟩; refine ⟨_, rfl, ?_⟩; have n0_ := Aside0.mk (Kd.R_reok rfl hy0 (fun k_ e_ => HO139.out.1 k_ e_)); have n1_ := Aside0.mk (hb); clear HO139; clear HB; have HO139 := n0_; have HB := n1_; clear n0_ n1_; (try clear hb); (try clear hkp); (try clear hy0))); go_loopg [6] k (fun kq v6 w' => ∃ (x5_1 : List Int) (x6_1 : Int), v6 = .int .i64 x6_1 ∧ Aside0 (spec_l3Weak.l0 kq a1 x5_1 x6_1 = some r) ∧ Aside0 (kq ≤ k) ∧ Aside0 (Kd.R (Kd.int .i64) 3 w' w.heap.size (fun _ => True) (.slice Ao8 y137.length co8) x5_1) ∧ Aside0 (Below w.heap.size w w'))
  case atStart => exact ⟨(t140), (0), (by first | rfl | (simp; done) | (simp [*]; done)), H', ⟨Nat.le_refl _⟩, ⟨by (with_reducible repeat (first | apply Kd.R_alloc | apply Kd.R_drewN | apply Kd.R_drew)); exact HO139.out⟩, ⟨by repeat (first | (with_reducible first | exact HB.out | apply below_alloc | apply pw_below_drewN | apply below_drew1) | exact HB.out)⟩⟩
  case round =>
   clear H'; (try clear p2); (try clear c3); (try clear c5); obtain ⟨x5_1, x6_1, rfl, HA, HK1, HO_5, HB⟩ := hrel; have hl5_1 := (Kd.R_reads' HO_5.out).1; rw [hl5_1] at HO_5; (try simp only [hl5_1])
   cases gk with
   | zero => exact absurd HA.out (by simp [spec_l3Weak.l0])
   | succ k1 =>
    have H := HA.out; clear HA; simp only [spec_l3Weak.l0] at H; by_cases c10 : x6_1 < (x5_1.length : Int)
    ·
     rw [if_pos c10] at H; have c10b0 : decide (x6_1 < (x5_1.length : Int)) = true := decide_eq_true c10; clear c10; by_cases c11 : 0 ≤ x6_1
     ·
      rw [if_pos c11] at H; have c11b0 : decide (0 ≤ x6_1) = true := decide_eq_true c11; clear c11; by_cases c12 : (rd x5_1 x6_1) = 4
      ·
       rw [if_pos c12] at H; have c12b0 : ((rd x5_1 x6_1) == 4) = true := beq_iff_eq.mpr c12; have c12b1 : ((rd x5_1 x6_1) != 4) = false := bne_eq_false_iff_eq.mpr c12; clear c12; replace H := Option.bind_eq_some_iff.mp H; obtain ⟨t142, A130, H⟩ := H; replace H : (if t142 = 3 then (spec_l3Weak.l0 k1 a1 (x5_1.set (x6_1 : Int).toNat 7) (wrap64 (x6_1 + 1))) else (spec_l3Weak.l0 k1 a1 x5_1 (wrap64 (x6_1 + 1)))) = some r := H; have A13 := Aside0.mk A130; clear A130; by_cases c14 : t142 = 3
       ·
        rw [if_pos c14] at H; have c14b0 : (t142 == 3) = true := beq_iff_eq.mpr c14; have c14b1 : (t142 != 3) = false := bne_eq_false_iff_eq.mpr c14; clear c14; obtain ⟨y143, hy143⟩ : ∃ y_ : List Int, y_ = (x5_1.set (x6_1 : Int).toNat 7) := ⟨_, rfl⟩; replace H : (spec_l3Weak.l0 k1 a1 y143 (wrap64 (x6_1 + 1))) = some r := by first | (rw [hy143]; with_reducible exact H) | (have H2_ := (Option.bind_some _ _).symm.trans H; rw [hy143]; with_reducible exact H2_) | (have H2_ := (Option.bind_some _ _).symm.trans H; with_reducible exact H2_) | with_reducible exact H | (rw [hy143]; exact H) | exact H
        have Ny143 := Aside0.mk hy143; clear hy143; have H' := Aside0.mk H; clear H; have p141 : 0 ≤ (x6_1 : Int) := of_decide_eq_true (by first | (with_reducible assumption) | assumption); have q141 : x6_1 < (x5_1.length : Int) := of_decide_eq_true (by first | (with_reducible assumption) | assumption); obtain ⟨ad141, e141, hx141_0⟩ := Kd.at_int (Kd.R_reads' HO_5.out).2.2 x6_1 p141 q141
        cases e141
        replace p141 := eq_true p141; replace q141 := eq_true q141; go_wp2_with (first | (go_at_call 58; (with_reducible refine (spec_l3Strong.calls k1 _ _ x5_1 x6_1 a1 t142 _ ?side1 ?side2 A13.out).mono ?_); (case side1 => repeat (first | exact (Kd.R_reads' HO_5.out).2.2 | (with_reducible refine Kd.C_alloc ?_ _) | (with_reducible refine Kd.C_drewN ?_ _) | (with_reducible refine Kd.C_drew ?_))); (case side2 => exact (Kd.R_reads' HO_5.out).2.1); rintro e w' ⟨rfl, ⟨nd, rfl⟩⟩; (try (rw [drewN_self wr]; generalize hq_ : World.drewN wr _ = wr; have n0_ : Aside0 (Kd.R (Kd.int .i64) 3 wr w.heap.size (fun _ => True) (.slice (some ad141) x5_1.length co8) x5_1) := ⟨by rw [← hq_]; exact (by (with_reducible repeat (first | apply Kd.R_alloc | apply Kd.R_drewN | apply Kd.R_drew)); exact HO_5.out)⟩; have n1_ : Aside0 (Below w.heap.size w wr) := ⟨by rw [← hq_]; exact (by repeat (first | (with_reducible first | exact HB.out | apply below_alloc | apply pw_below_drewN | apply below_drew1) | exact HB.out))⟩; clear HO_5 HB hq_; have HO_5 := n0_; have HB := n1_; clear n0_ n1_)); have p15 : 0 ≤ (x6_1 : Int) := of_decide_eq_true (by first | (with_reducible assumption) | assumption); have q15 : (x6_1 : Int) < ((x5_1.length : Int) : Int) := of_decide_eq_true (by first | (with_reducible assumption) | assumption); obtain ⟨go15, co15, eo15, gb15, gl15, cl15, HG15⟩ := Kd.R_form HO_5.out (by omega); (first | cases eo15 | (injection eo15 with ea_ en_ ec_; (first | subst ea_ | (injection ea_ with ea_; subst ea_)); subst ec_; clear en_)); have GB15 := Aside0.mk gb15; have GG15 := Aside0.mk HG15; clear gb15 gl15 HG15; (first | simp only [add_plain] at hx141_0 | skip); obtain ⟨hx15_0, hf15_0⟩ := Kd.R_celln 0 HO_5.out (x6_1 : Int) p15 q15; replace p15 := eq_true p15; replace q15 := eq_true q15; obtain ⟨hy16_, hz16_⟩ := Kd.R_celln 0 HO_5.out (x6_1 : Int) (of_decide_eq_true (by first | (with_reducible assumption) | assumption)) (of_decide_eq_true (by first | (with_reducible assumption) | assumption)); have HP16 := Kd.R_putg HO_5.out (x6_1 : Int) 7) | ((with_reducible refine gate_store (t := 3) (p := 36) rfl ?_); refine store_event (t := 3) (p := 36) (v := ?vo_w17) (w1 := (wr.setCell ⟨go15, (x6_1 : Int).toNat, none⟩ (.int .i64 7))) ?hg ?ho ?hn ?hr ?_; (case ho => rfl); (case hg => rfl); (case hn => rfl); (case hr => first | (go_simp; done) | (go_simp; rfl)); intro w17 hw; have hg : wr.grownBy w17 (some go15) := (by rw [hw]; exact HP16.2); have hp_ : Kd.R (Kd.int .i64) 3 w17 w.heap.size (fun _ => True) (.slice (some ⟨go15, 0, none⟩) x5_1.length co8) y143 := (by rw [hw, Ny143.out]; exact HP16.1); clear HP16; have n0_ := Aside0.mk (hp_); have n1_ := Aside0.mk ((by rw [hw]; exact below_set (HB.out) GB15.out : Below w.heap.size w w17)); clear HO_5; clear HB; have HO_5 := n0_; have HB := n1_; clear n0_ n1_; clear hg hw hp_)); (try simp only [← hl5_1]); go_roundg k1
        case measure => have := HK1.out; omega
        case rel => exact ⟨(y143), (wrap64 (x6_1 + 1)), (by first | rfl | (simp; done) | (simp [*]; done)), H', ⟨by have := HK1.out; omega⟩, ⟨by (try simp only [hl5_1]); (with_reducible repeat (first | apply Kd.R_alloc | apply Kd.R_drewN | apply Kd.R_drew)); exact HO_5.out⟩, ⟨by repeat (first | (with_reducible first | exact HB.out | apply below_alloc | apply pw_below_drewN | apply below_drew1) | exact HB.out)⟩⟩
       ·
        rw [if_neg c14] at H; have c14b0 : (t142 == 3) = false := beq_eq_false_iff_ne.mpr c14; have c14b1 : (t142 != 3) = true := bne_iff_ne.mpr c14; have H' := Aside0.mk H; clear H; have p141 : 0 ≤ (x6_1 : Int) := of_decide_eq_true (by first | (with_reducible assumption) | assumption); have q141 : x6_1 < (x5_1.length : Int) := of_decide_eq_true (by first | (with_reducible assumption) | assumption); obtain ⟨ad141, e141, hx141_0⟩ := Kd.at_int (Kd.R_reads' HO_5.out).2.2 x6_1 p141 q141
        cases e141
        replace p141 := eq_true p141; replace q141 := eq_true q141; go_wp2_with (first | (go_at_call 58; (with_reducible refine (spec_l3Strong.calls k1 _ _ x5_1 x6_1 a1 t142 _ ?side1 ?side2 A13.out).mono ?_); (case side1 => repeat (first | exact (Kd.R_reads' HO_5.out).2.2 | (with_reducible refine Kd.C_alloc ?_ _) | (with_reducible refine Kd.C_drewN ?_ _) | (with_reducible refine Kd.C_drew ?_))); (case side2 => exact (Kd.R_reads' HO_5.out).2.1); rintro e w' ⟨rfl, ⟨nd, rfl⟩⟩)); (try simp only [← hl5_1]); go_roundg k1
        case measure => have := HK1.out; omega
        case rel => exact ⟨(x5_1), (wrap64 (x6_1 + 1)), (by first | rfl | (simp; done) | (simp [*]; done)), H', ⟨by have := HK1.out; omega⟩, ⟨by (try simp only [hl5_1]); (with_reducible repeat (first | apply Kd.R_alloc | apply Kd.R_drewN | apply Kd.R_drew)); exact HO_5.out⟩, ⟨by repeat (first | (with_reducible first | exact HB.out | apply below_alloc | apply pw_below_drewN | apply below_drew1) | exact HB.out)⟩⟩
      ·
       rw [if_neg c12] at H; have c12b0 : ((rd x5_1 x6_1) == 4) = false := beq_eq_false_iff_ne.mpr c12; have c12b1 : ((rd x5_1 x6_1) != 4) = true := bne_iff_ne.mpr c12; have H' := Aside0.mk H; clear H; have p141 : 0 ≤ (x6_1 : Int) := of_decide_eq_true (by first | (with_reducible assumption) | assumption); have q141 : x6_1 < (x5_1.length : Int) := of_decide_eq_true (by first | (with_reducible assumption) | assumption); obtain ⟨ad141, e141, hx141_0⟩ := Kd.at_int (Kd.R_reads' HO_5.out).2.2 x6_1 p141 q141
       cases e141
       replace p141 := eq_true p141; replace q141 := eq_true q141; go_wp2; (try simp only [← hl5_1]); go_roundg k1
       case measure => have := HK1.out; omega
       case rel => exact ⟨(x5_1), (wrap64 (x6_1 + 1)), (by first | rfl | (simp; done) | (simp [*]; done)), H', ⟨by have := HK1.out; omega⟩, ⟨by (try simp only [hl5_1]); (with_reducible repeat (first | apply Kd.R_alloc | apply Kd.R_drewN | apply Kd.R_drew)); exact HO_5.out⟩, ⟨by repeat (first | (with_reducible first | exact HB.out | apply below_alloc | apply pw_below_drewN | apply below_drew1) | exact HB.out)⟩⟩
     ·
      rw [if_neg c11] at H; exact absurd H (by simp)
    ·
     rw [if_neg c10] at H; have c10b0 : decide (x6_1 < (x5_1.length : Int)) = false := decide_eq_false c10; clear c10; have H' := Aside0.mk H; clear H; go_wp2; go_loopg [7] k1 (fun kq v7 w' => ∃ (x5_2 : List Int) (x7_2 : Int), v7 = .int .i64 x7_2 ∧ Aside0 (spec_l3Weak.l1 kq a1 x5_2 x7_2 = some r) ∧ Aside0 (kq ≤ k1) ∧ Aside0 (Kd.R (Kd.int .i64) 3 w' w.heap.size (fun _ => True) (.slice Ao8 x5_1.length co8) x5_2) ∧ Aside0 (Below w.heap.size w w'))
     case atStart => exact ⟨(x5_1), (0), (by first | rfl | (simp; done) | (simp [*]; done)), H', ⟨Nat.le_refl _⟩, ⟨by (try simp only [hl5_1]); (with_reducible repeat (first | apply Kd.R_alloc | apply Kd.R_drewN | apply Kd.R_drew)); exact HO_5.out⟩, ⟨by repeat (first | (with_reducible first | exact HB.out | apply below_alloc | apply pw_below_drewN | apply below_drew1) | exact HB.out)⟩⟩
     case round =>
      clear H'; (try clear c1); (try clear p1); (try clear q1); (try clear hx1); (try clear p2); (try clear c3); (try clear c5); (try clear p6); (try clear c10); (try clear c10b0); (try clear c11); (try clear c11b0); (try clear c12); (try clear c12b0); (try clear c12b1); (try clear c14); (try clear c14b0); (try clear c14b1); (try clear p14); (try clear q14); (try clear hx14); (try clear p15); (try clear q15); (try clear hx15); (try clear hf15); (try clear hx141_0); (try clear hx15_0); (try clear p141); (try clear p15); (try clear p2); (try clear q141); (try clear q15); obtain ⟨x5_2, x7_2, rfl, HA, HK2, HO_5, HB⟩ := hrel; have hl5_2 := (Kd.R_reads' HO_5.out).1; rw [hl5_2] at HO_5; (try simp only [hl5_2])
      cases gk with
      | zero => exact absurd HA.out (by simp [spec_l3Weak.l1])
      | succ k2 =>
       have H := HA.out; clear HA; simp only [spec_l3Weak.l1] at H; by_cases c18 : x7_2 < (x5_2.length : Int)
       ·
        rw [if_pos c18] at H; have c18b0 : decide (x7_2 < (x5_2.length : Int)) = true := decide_eq_true c18; clear c18; by_cases c19 : 0 ≤ x7_2
        ·
         rw [if_pos c19] at H; have c19b0 : decide (0 ≤ x7_2) = true := decide_eq_true c19; clear c19; by_cases c20 : (rd x5_2 x7_2) = 3
         ·
          rw [if_pos c20] at H; have c20b0 : ((rd x5_2 x7_2) == 3) = true := beq_iff_eq.mpr c20; have c20b1 : ((rd x5_2 x7_2) != 3) = false := bne_eq_false_iff_eq.mpr c20; clear c20; obtain ⟨y145, hy145⟩ : ∃ y_ : List Int, y_ = (x5_2.set (x7_2 : Int).toNat 2) := ⟨_, rfl⟩; replace H : (spec_l3Weak.l1 k2 a1 y145 (wrap64 (x7_2 + 1))) = some r := by first | (rw [hy145]; with_reducible exact H) | (have H2_ := (Option.bind_some _ _).symm.trans H; rw [hy145]; with_reducible exact H2_) | (have H2_ := (Option.bind_some _ _).symm.trans H; with_reducible exact H2_) | with_reducible exact H | (rw [hy145]; exact H) | exact H
          have Ny145 := Aside0.mk hy145; clear hy145; have H' := Aside0.mk H; clear H; have p144 : 0 ≤ (x7_2 : Int) := of_decide_eq_true (by first | (with_reducible assumption) | assumption); have q144 : x7_2 < (x5_2.length : Int) := of_decide_eq_true (by first | (with_reducible assumption) | assumption); obtain ⟨ad144, e144, hx144_0⟩ := Kd.at_int (Kd.R_reads' HO_5.out).2.2 x7_2 p144 q144
          cases e144
          replace p144 := eq_true p144; replace q144 := eq_true q144; have p21 : 0 ≤ (x7_2 : Int) := of_decide_eq_true (by first | (with_reducible assumption) | assumption); have q21 : (x7_2 : Int) < ((x5_2.length : Int) : Int) := of_decide_eq_true (by first | (with_reducible assumption) | assumption); obtain ⟨go21, co21, eo21, gb21, gl21, cl21, HG21⟩ := Kd.R_form HO_5.out (by omega); (first | cases eo21 | (injection eo21 with ea_ en_ ec_; (first | subst ea_ | (injection ea_ with ea_; subst ea_)); subst ec_; clear en_)); have GB21 := Aside0.mk gb21; have GG21 := Aside0.mk HG21; clear gb21 gl21 HG21; (first | simp only [add_plain] at hx144_0 | skip); obtain ⟨hx21_0, hf21_0⟩ := Kd.R_celln 0 HO_5.out (x7_2 : Int) p21 q21; replace p21 := eq_true p21; replace q21 := eq_true q21; have HP22 := Kd.R_putg HO_5.out (x7_2 : Int) 2; go_wp2_with (first | ((with_reducible refine gate_store (t := 3) (p := 50) rfl ?_); refine store_event (t := 3) (p := 50) (v := ?vo_w23) (w1 := (wr.setCell ⟨go21, (x7_2 : Int).toNat, none⟩ (.int .i64 2))) ?hg ?ho ?hn ?hr ?_; (case ho => rfl); (case hg => rfl); (case hn => rfl); (case hr => first | (go_simp; done) | (go_simp; rfl)); intro w23 hw; have hg : wr.grownBy w23 (some go21) := (by rw [hw]; exact HP22.2); have hp_ : Kd.R (Kd.int .i64) 3 w23 w.heap.size (fun _ => True) (.slice (some ⟨go21, 0, none⟩) x5_2.length co8) y145 := (by rw [hw, Ny145.out]; exact HP22.1); clear HP22; have n0_ := Aside0.mk (hp_); have n1_ := Aside0.mk ((by rw [hw]; exact below_set (HB.out) GB21.out : Below w.heap.size w w23)); clear HO_5; clear HB; have HO_5 := n0_; have HB := n1_; clear n0_ n1_; clear hg hw hp_)); (try simp only [← hl5_2]); go_roundg k2
          case measure => have := HK1.out; have := HK2.out; omega
          case rel => exact ⟨(y145), (wrap64 (x7_2 + 1)), (by first | rfl | (simp; done) | (simp [*]; done)), H', ⟨by have := HK1.out; have := HK2.out; omega⟩, ⟨by (try simp only [hl5_1]); (try simp only [hl5_2]); (with_reducible repeat (first | apply Kd.R_alloc | apply Kd.R_drewN | apply Kd.R_drew)); exact HO_5.out⟩, ⟨by repeat (first | (with_reducible first | exact HB.out | apply below_alloc | apply pw_below_drewN | apply below_drew1) | exact HB.out)⟩⟩
         ·
          rw [if_neg c20] at H; have c20b0 : ((rd x5_2 x7_2) == 3) = false := beq_eq_false_iff_ne.mpr c20; have c20b1 : ((rd x5_2 x7_2) != 3) = true := bne_iff_ne.mpr c20; have H' := Aside0.mk H; clear H; have p144 : 0 ≤ (x7_2 : Int) := of_decide_eq_true (by first | (with_reducible assumption) | assumption); have q144 : x7_2 < (x5_2.length : Int) := of_decide_eq_true (by first | (with_reducible assumption) | assumption); obtain ⟨ad144, e144, hx144_0⟩ := Kd.at_int (Kd.R_reads' HO_5.out).2.2 x7_2 p144 q144
          cases e144
          replace p144 := eq_true p144; replace q144 := eq_true q144; go_wp2; (try simp only [← hl5_2]); go_roundg k2
          case measure => have := HK1.out; have := HK2.out; omega
          case rel => exact ⟨(x5_2), (wrap64 (x7_2 + 1)), (by first | rfl | (simp; done) | (simp [*]; done)), H', ⟨by have := HK1.out; have := HK2.out; omega⟩, ⟨by (try simp only [hl5_1]); (try simp only [hl5_2]); (with_reducible repeat (first | apply Kd.R_alloc | apply Kd.R_drewN | apply Kd.R_drew)); exact HO_5.out⟩, ⟨by repeat (first | (with_reducible first | exact HB.out | apply below_alloc | apply pw_below_drewN | apply below_drew1) | exact HB.out)⟩⟩
        ·
         rw [if_neg c19] at H; exact absurd H (by simp)
       ·
        rw [if_neg c18] at H; have c18b0 : decide (x7_2 < (x5_2.length : Int)) = false := decide_eq_false c18; clear c18; replace H := Option.bind_eq_some_iff.mp H; obtain ⟨t146, A240, H⟩ := H; replace H : ((spec_l3Beside.f k2 t146).bind fun t147 => (spec_l3Weak.l2 k2 a1 t147 0)) = some r := H; have A24 := Aside0.mk A240; clear A240; replace H := Option.bind_eq_some_iff.mp H; obtain ⟨t147, A250, H⟩ := H; replace H : (spec_l3Weak.l2 k2 a1 t147 0) = some r := H; have A25 := Aside0.mk A250; clear A250; have H' := Aside0.mk H; clear H; go_wp2_with (first | ((with_reducible refine gate_callee (f := 59) rfl ?_); refine goesL_ (some 52) rfl rfl Try.func59 (by kernel_rfl) rfl #[.slice Ao8 x5_2.length co8] rfl (by (try simp only [List.map_toArray, List.map_cons, List.map_nil]); first | done | rfl) ?_; (with_reducible refine (spec_l3Between.calls k2 (fun k_ => some k_ = (.slice Ao8 x5_2.length co8 : Value).ownBlock) (.slice Ao8 x5_2.length co8) x5_2 t146 w _ ?side1 ?side2 A24.out).mono ?_); (case side1 => repeat (first | (with_reducible first | exact HB.out | apply below_alloc | apply pw_below_drewN | apply below_drew1) | exact HB.out)); (case side2 => exact Kd.R_tight rfl HO_5.out); rintro e w26 ⟨rfl, hy0, hb, hkp⟩; refine ⟨_, rfl, ?_⟩; have n0_ := Aside0.mk (Kd.R_reok rfl hy0 (fun k_ e_ => HO_5.out.1 k_ e_)); have n1_ := Aside0.mk (hb); clear HO_5; clear HB; have HO_5 := n0_; have HB := n1_; clear n0_ n1_; (try clear hb); (try clear hkp); (try clear hy0)) | ((with_reducible refine gate_callee (f := 60) rfl ?_); refine goesL_ (some 54) rfl rfl Try.func60 (by kernel_rfl) rfl #[.slice Ao8 x5_2.length co8] rfl (by (try simp only [List.map_toArray, List.map_cons, List.map_nil]); first | done | rfl) ?_; (with_reducible refine (spec_l3Beside.calls k2 (fun k_ => some k_ = (.slice Ao8 x5_2.length co8 : Value).ownBlock) (.slice Ao8 x5_2.length co8) t146 t147 w _ ?side1 ?side2 A25.out).mono ?_); (case side1 => repeat (first | (with_reducible first | exact HB.out | apply below_alloc | apply pw_below_drewN | apply below_drew1) | exact HB.out)); (case side2 => exact Kd.R_tight rfl HO_5.out); rintro e w27 ⟨rfl, hy0, hb, hkp⟩; refine ⟨_, rfl, ?_⟩; have n0_ := Aside0.mk (Kd.R_reok rfl hy0 (fun k_ e_ => HO_5.out.1 k_ e_)); have n1_ := Aside0.mk (hb); clear HO_5; clear HB; have HO_5 := n0_; have HB := n1_; clear n0_ n1_; (try clear hb); (try clear hkp); (try clear hy0))); go_loopg [8] k2 (fun kq v8 w' => ∃ (x5_3 : List Int) (x8_3 : Int), v8 = .int .i64 x8_3 ∧ Aside0 (spec_l3Weak.l2 kq a1 x5_3 x8_3 = some r) ∧ Aside0 (kq ≤ k2) ∧ Aside0 (Kd.R (Kd.int .i64) 3 w' w.heap.size (fun _ => True) (.slice Ao8 x5_2.length co8) x5_3) ∧ Aside0 (Below w.heap.size w w'))
        case atStart => exact ⟨(t147), (0), (by first | rfl | (simp; done) | (simp [*]; done)), H', ⟨Nat.le_refl _⟩, ⟨by (try simp only [hl5_1]); (try simp only [hl5_2]); (with_reducible repeat (first | apply Kd.R_alloc | apply Kd.R_drewN | apply Kd.R_drew)); exact HO_5.out⟩, ⟨by repeat (first | (with_reducible first | exact HB.out | apply below_alloc | apply pw_below_drewN | apply below_drew1) | exact HB.out)⟩⟩
        case round =>
         clear H'; (try clear c1); (try clear p1); (try clear q1); (try clear hx1); (try clear c2); (try clear p2); (try clear q2); (try clear hx2); (try clear hf2); (try clear c3); (try clear c5); (try clear c6); (try clear p6); (try clear c10); (try clear c10b0); (try clear c11); (try clear c11b0); (try clear c12); (try clear c12b0); (try clear c12b1); (try clear c14); (try clear c14b0); (try clear c14b1); (try clear p14); (try clear q14); (try clear hx14); (try clear p15); (try clear q15); (try clear hx15); (try clear hf15); (try clear c18); (try clear c18b0); (try clear c19); (try clear c19b0); (try clear c20); (try clear c20b0); (try clear c20b1); (try clear p21); (try clear q21); (try clear hx21); (try clear hf21); (try clear hx141_0); (try clear hx144_0); (try clear hx15_0); (try clear hx21_0); (try clear p1); (try clear p14); (try clear p141); (try clear p144); (try clear p15); (try clear p2); (try clear p21); (try clear p6); (try clear q1); (try clear q14); (try clear q141); (try clear q144); (try clear q15); (try clear q21); obtain ⟨x5_3, x8_3, rfl, HA, HK3, HO_5, HB⟩ := hrel; have hl5_3 := (Kd.R_reads' HO_5.out).1; rw [hl5_3] at HO_5; (try simp only [hl5_3])
         cases gk with
         | zero => exact absurd HA.out (by simp [spec_l3Weak.l2])
         | succ k3 =>
          have H := HA.out; clear HA; simp only [spec_l3Weak.l2] at H; by_cases c28 : x8_3 < (x5_3.length : Int)
          ·
           rw [if_pos c28] at H; have c28b0 : decide (x8_3 < (x5_3.length : Int)) = true := decide_eq_true c28; clear c28; by_cases c29 : 0 ≤ x8_3
           ·
            rw [if_pos c29] at H; have c29b0 : decide (0 ≤ x8_3) = true := decide_eq_true c29; clear c29; replace H := Option.bind_eq_some_iff.mp H; obtain ⟨t149, A300, H⟩ := H; replace H : (if t149 = true then (spec_l3Weak.l2 k3 a1 (x5_3.set (x8_3 : Int).toNat 13) (wrap64 (x8_3 + 1))) else (if (rd x5_3 x8_3) = 8 then (spec_l3Weak.l2 k3 a1 (x5_3.set (x8_3 : Int).toNat 13) (wrap64 (x8_3 + 1))) else (spec_l3Weak.l2 k3 a1 x5_3 (wrap64 (x8_3 + 1))))) = some r := H; have A30 := Aside0.mk A300; clear A300; by_cases c31 : t149 = true
            ·
             subst c31; have H1 : (spec_l3Weak.l2 k3 a1 (x5_3.set (x8_3 : Int).toNat 13) (wrap64 (x8_3 + 1))) = some r := by rw [if_pos rfl] at H; exact H
             clear H; have H := H1; clear H1; obtain ⟨y150, hy150⟩ : ∃ y_ : List Int, y_ = (x5_3.set (x8_3 : Int).toNat 13) := ⟨_, rfl⟩; replace H : (spec_l3Weak.l2 k3 a1 y150 (wrap64 (x8_3 + 1))) = some r := by first | (rw [hy150]; with_reducible exact H) | (have H2_ := (Option.bind_some _ _).symm.trans H; rw [hy150]; with_reducible exact H2_) | (have H2_ := (Option.bind_some _ _).symm.trans H; with_reducible exact H2_) | with_reducible exact H | (rw [hy150]; exact H) | exact H
             have Ny150 := Aside0.mk hy150; clear hy150; have H' := Aside0.mk H; clear H; have p148 : 0 ≤ (x8_3 : Int) := of_decide_eq_true (by first | (with_reducible assumption) | assumption); have q148 : x8_3 < (x5_3.length : Int) := of_decide_eq_true (by first | (with_reducible assumption) | assumption); obtain ⟨ad148, e148, hx148_0⟩ := Kd.at_int (Kd.R_reads' HO_5.out).2.2 x8_3 p148 q148
             cases e148
             replace p148 := eq_true p148; replace q148 := eq_true q148; go_wp2_with (first | ((with_reducible refine gate_callee (f := 53) rfl ?_); refine goesL_ (some 65) rfl rfl Try.func53 (by kernel_rfl) rfl #[.int .i64 (rd x5_3 x8_3), .int .i64 5, .int .i64 6] rfl (by (try simp only [List.map_toArray, List.map_cons, List.map_nil]); first | done | rfl) ?_; (with_reducible refine (spec_l1In.calls (rd x5_3 x8_3) 5 6 true _ A30.out).mono ?_); rintro e w' ⟨rfl, ⟨nd, rfl⟩⟩; refine ⟨_, rfl, ?_⟩; (try (rw [drewN_self wr]; generalize hq_ : World.drewN wr _ = wr; have n0_ : Aside0 (Kd.R (Kd.int .i64) 3 wr w.heap.size (fun _ => True) (.slice (some ad148) x5_3.length co8) x5_3) := ⟨by rw [← hq_]; exact (by (with_reducible repeat (first | apply Kd.R_alloc | apply Kd.R_drewN | apply Kd.R_drew)); exact HO_5.out)⟩; have n1_ : Aside0 (Below w.heap.size w wr) := ⟨by rw [← hq_]; exact (by repeat (first | (with_reducible first | exact HB.out | apply below_alloc | apply pw_below_drewN | apply below_drew1) | exact HB.out))⟩; clear HO_5 HB hq_; have HO_5 := n0_; have HB := n1_; clear n0_ n1_)); have p32 : 0 ≤ (x8_3 : Int) := of_decide_eq_true (by first | (with_reducible assumption) | assumption); have q32 : (x8_3 : Int) < ((x5_3.length : Int) : Int) := of_decide_eq_true (by first | (with_reducible assumption) | assumption); obtain ⟨go32, co32, eo32, gb32, gl32, cl32, HG32⟩ := Kd.R_form HO_5.out (by omega); (first | cases eo32 | (injection eo32 with ea_ en_ ec_; (first | subst ea_ | (injection ea_ with ea_; subst ea_)); subst ec_; clear en_)); have GB32 := Aside0.mk gb32; have GG32 := Aside0.mk HG32; clear gb32 gl32 HG32; (first | simp only [add_plain] at hx148_0 | skip); obtain ⟨hx32_0, hf32_0⟩ := Kd.R_celln 0 HO_5.out (x8_3 : Int) p32 q32; replace p32 := eq_true p32; replace q32 := eq_true q32; obtain ⟨hy33_, hz33_⟩ := Kd.R_celln 0 HO_5.out (x8_3 : Int) (of_decide_eq_true (by first | (with_reducible assumption) | assumption)) (of_decide_eq_true (by first | (with_reducible assumption) | assumption)); have HP33 := Kd.R_putg HO_5.out (x8_3 : Int) 13) | ((with_reducible refine gate_store (t := 3) (p := 75) rfl ?_); refine store_event (t := 3) (p := 75) (v := ?vo_w34) (w1 := (wr.setCell ⟨go32, (x8_3 : Int).toNat, none⟩ (.int .i64 13))) ?hg ?ho ?hn ?hr ?_; (case ho => rfl); (case hg => rfl); (case hn => rfl); (case hr => first | (go_simp; done) | (go_simp; rfl)); intro w34 hw; have hg : wr.grownBy w34 (some go32) := (by rw [hw]; exact HP33.2); have hp_ : Kd.R (Kd.int .i64) 3 w34 w.heap.size (fun _ => True) (.slice (some ⟨go32, 0, none⟩) x5_3.length co8) y150 := (by rw [hw, Ny150.out]; exact HP33.1); clear HP33; have n0_ := Aside0.mk (hp_); have n1_ := Aside0.mk ((by rw [hw]; exact below_set (HB.out) GB32.out : Below w.heap.size w w34)); clear HO_5; clear HB; have HO_5 := n0_; have HB := n1_; clear n0_ n1_; clear hg hw hp_)); (try simp only [← hl5_3]); go_roundg k3
             case measure => have := HK1.out; have := HK2.out; have := HK3.out; omega
             case rel => exact ⟨(y150), (wrap64 (x8_3 + 1)), (by first | rfl | (simp; done) | (simp [*]; done)), H', ⟨by have := HK1.out; have := HK2.out; have := HK3.out; omega⟩, ⟨by (try simp only [hl5_1]); (try simp only [hl5_2]); (try simp only [hl5_3]); (with_reducible repeat (first | apply Kd.R_alloc | apply Kd.R_drewN | apply Kd.R_drew)); exact HO_5.out⟩, ⟨by repeat (first | (with_reducible first | exact HB.out | apply below_alloc | apply pw_below_drewN | apply below_drew1) | exact HB.out)⟩⟩
            ·
             replace c31 := Bool.eq_false_iff.mpr c31; subst c31; have H1 : (if (rd x5_3 x8_3) = 8 then (spec_l3Weak.l2 k3 a1 (x5_3.set (x8_3 : Int).toNat 13) (wrap64 (x8_3 + 1))) else (spec_l3Weak.l2 k3 a1 x5_3 (wrap64 (x8_3 + 1)))) = some r := by rw [if_neg (show ¬ (false = true) by decide)] at H; exact H
             clear H; have H := H1; clear H1; by_cases c35 : (rd x5_3 x8_3) = 8
             ·
              rw [if_pos c35] at H; have c35b0 : ((rd x5_3 x8_3) == 8) = true := beq_iff_eq.mpr c35; have c35b1 : ((rd x5_3 x8_3) != 8) = false := bne_eq_false_iff_eq.mpr c35; clear c35; obtain ⟨y152, hy152⟩ : ∃ y_ : List Int, y_ = (x5_3.set (x8_3 : Int).toNat 13) := ⟨_, rfl⟩; replace H : (spec_l3Weak.l2 k3 a1 y152 (wrap64 (x8_3 + 1))) = some r := by first | (rw [hy152]; with_reducible exact H) | (have H2_ := (Option.bind_some _ _).symm.trans H; rw [hy152]; with_reducible exact H2_) | (have H2_ := (Option.bind_some _ _).symm.trans H; with_reducible exact H2_) | with_reducible exact H | (rw [hy152]; exact H) | exact H
              have Ny152 := Aside0.mk hy152; clear hy152; have H' := Aside0.mk H; clear H; have p148 : 0 ≤ (x8_3 : Int) := of_decide_eq_true (by first | (with_reducible assumption) | assumption); have q148 : x8_3 < (x5_3.length : Int) := of_decide_eq_true (by first | (with_reducible assumption) | assumption); obtain ⟨ad148, e148, hx148_0⟩ := Kd.at_int (Kd.R_reads' HO_5.out).2.2 x8_3 p148 q148
              cases e148
              replace p148 := eq_true p148; replace q148 := eq_true q148; go_wp2_with (first | ((with_reducible refine gate_callee (f := 53) rfl ?_); refine goesL_ (some 65) rfl rfl Try.func53 (by kernel_rfl) rfl #[.int .i64 (rd x5_3 x8_3), .int .i64 5, .int .i64 6] rfl (by (try simp only [List.map_toArray, List.map_cons, List.map_nil]); first | done | rfl) ?_; (with_reducible refine (spec_l1In.calls (rd x5_3 x8_3) 5 6 false _ A30.out).mono ?_); rintro e w' ⟨rfl, ⟨nd, rfl⟩⟩; refine ⟨_, rfl, ?_⟩; (try (rw [drewN_self wr]; generalize hq_ : World.drewN wr _ = wr; have n0_ : Aside0 (Kd.R (Kd.int .i64) 3 wr w.heap.size (fun _ => True) (.slice (some ad148) x5_3.length co8) x5_3) := ⟨by rw [← hq_]; exact (by (with_reducible repeat (first | apply Kd.R_alloc | apply Kd.R_drewN | apply Kd.R_drew)); exact HO_5.out)⟩; have n1_ : Aside0 (Below w.heap.size w wr) := ⟨by rw [← hq_]; exact (by repeat (first | (with_reducible first | exact HB.out | apply below_alloc | apply pw_below_drewN | apply below_drew1) | exact HB.out))⟩; clear HO_5 HB hq_; have HO_5 := n0_; have HB := n1_; clear n0_ n1_)); have p151 : 0 ≤ (x8_3 : Int) := of_decide_eq_true (by first | (with_reducible assumption) | assumption); have q151 : x8_3 < (x5_3.length : Int) := of_decide_eq_true (by first | (with_reducible assumption) | assumption); obtain ⟨ad151, e151, hx151_0⟩ := Kd.at_int (Kd.R_reads' HO_5.out).2.2 x8_3 p151 q151; obtain rfl : ad148 = ad151 := (by injection e151); replace p151 := eq_true p151; replace q151 := eq_true q151; have p36 : 0 ≤ (x8_3 : Int) := of_decide_eq_true (by first | (with_reducible assumption) | assumption); have q36 : (x8_3 : Int) < ((x5_3.length : Int) : Int) := of_decide_eq_true (by first | (with_reducible assumption) | assumption); obtain ⟨go36, co36, eo36, gb36, gl36, cl36, HG36⟩ := Kd.R_form HO_5.out (by omega); (first | cases eo36 | (injection eo36 with ea_ en_ ec_; (first | subst ea_ | (injection ea_ with ea_; subst ea_)); subst ec_; clear en_)); have GB36 := Aside0.mk gb36; have GG36 := Aside0.mk HG36; clear gb36 gl36 HG36; (first | simp only [add_plain] at hx148_0 | skip); (first | simp only [add_plain] at hx151_0 | skip); obtain ⟨hx36_0, hf36_0⟩ := Kd.R_celln 0 HO_5.out (x8_3 : Int) p36 q36; replace p36 := eq_true p36; replace q36 := eq_true q36; obtain ⟨hy37_, hz37_⟩ := Kd.R_celln 0 HO_5.out (x8_3 : Int) (of_decide_eq_true (by first | (with_reducible assumption) | assumption)) (of_decide_eq_true (by first | (with_reducible assumption) | assumption)); have HP37 := Kd.R_putg HO_5.out (x8_3 : Int) 13) | ((with_reducible refine gate_store (t := 3) (p := 75) rfl ?_); refine store_event (t := 3) (p := 75) (v := ?vo_w38) (w1 := (wr.setCell ⟨go36, (x8_3 : Int).toNat, none⟩ (.int .i64 13))) ?hg ?ho ?hn ?hr ?_; (case ho => rfl); (case hg => rfl); (case hn => rfl); (case hr => first | (go_simp; done) | (go_simp; rfl)); intro w38 hw; have hg : wr.grownBy w38 (some go36) := (by rw [hw]; exact HP37.2); have hp_ : Kd.R (Kd.int .i64) 3 w38 w.heap.size (fun _ => True) (.slice (some ⟨go36, 0, none⟩) x5_3.length co8) y152 := (by rw [hw, Ny152.out]; exact HP37.1); clear HP37; have n0_ := Aside0.mk (hp_); have n1_ := Aside0.mk ((by rw [hw]; exact below_set (HB.out) GB36.out : Below w.heap.size w w38)); clear HO_5; clear HB; have HO_5 := n0_; have HB := n1_; clear n0_ n1_; clear hg hw hp_)); (try simp only [← hl5_3]); go_roundg k3
              case measure => have := HK1.out; have := HK2.out; have := HK3.out; omega
              case rel => exact ⟨(y152), (wrap64 (x8_3 + 1)), (by first | rfl | (simp; done) | (simp [*]; done)), H', ⟨by have := HK1.out; have := HK2.out; have := HK3.out; omega⟩, ⟨by (try simp only [hl5_1]); (try simp only [hl5_2]); (try simp only [hl5_3]); (with_reducible repeat (first | apply Kd.R_alloc | apply Kd.R_drewN | apply Kd.R_drew)); exact HO_5.out⟩, ⟨by repeat (first | (with_reducible first | exact HB.out | apply below_alloc | apply pw_below_drewN | apply below_drew1) | exact HB.out)⟩⟩
             ·
              rw [if_neg c35] at H; have c35b0 : ((rd x5_3 x8_3) == 8) = false := beq_eq_false_iff_ne.mpr c35; have c35b1 : ((rd x5_3 x8_3) != 8) = true := bne_iff_ne.mpr c35; have H' := Aside0.mk H; clear H; have p148 : 0 ≤ (x8_3 : Int) := of_decide_eq_true (by first | (with_reducible assumption) | assumption); have q148 : x8_3 < (x5_3.length : Int) := of_decide_eq_true (by first | (with_reducible assumption) | assumption); obtain ⟨ad148, e148, hx148_0⟩ := Kd.at_int (Kd.R_reads' HO_5.out).2.2 x8_3 p148 q148
              cases e148
              replace p148 := eq_true p148; replace q148 := eq_true q148; go_wp2_with (first | ((with_reducible refine gate_callee (f := 53) rfl ?_); refine goesL_ (some 65) rfl rfl Try.func53 (by kernel_rfl) rfl #[.int .i64 (rd x5_3 x8_3), .int .i64 5, .int .i64 6] rfl (by (try simp only [List.map_toArray, List.map_cons, List.map_nil]); first | done | rfl) ?_; (with_reducible refine (spec_l1In.calls (rd x5_3 x8_3) 5 6 false _ A30.out).mono ?_); rintro e w' ⟨rfl, ⟨nd, rfl⟩⟩; refine ⟨_, rfl, ?_⟩; have p151 : 0 ≤ (x8_3 : Int) := of_decide_eq_true (by first | (with_reducible assumption) | assumption); have q151 : x8_3 < (x5_3.length : Int) := of_decide_eq_true (by first | (with_reducible assumption) | assumption); obtain ⟨ad151, e151, hx151_0⟩ := Kd.at_int (Kd.R_reads' HO_5.out).2.2 x8_3 p151 q151; obtain rfl : ad148 = ad151 := (by injection e151); replace p151 := eq_true p151; replace q151 := eq_true q151)); (try simp only [← hl5_3]); go_roundg k3
              case measure => have := HK1.out; have := HK2.out; have := HK3.out; omega
              case rel => exact ⟨(x5_3), (wrap64 (x8_3 + 1)), (by first | rfl | (simp; done) | (simp [*]; done)), H', ⟨by have := HK1.out; have := HK2.out; have := HK3.out; omega⟩, ⟨by (try simp only [hl5_1]); (try simp only [hl5_2]); (try simp only [hl5_3]); (with_reducible repeat (first | apply Kd.R_alloc | apply Kd.R_drewN | apply Kd.R_drew)); exact HO_5.out⟩, ⟨by repeat (first | (with_reducible first | exact HB.out | apply below_alloc | apply pw_below_drewN | apply below_drew1) | exact HB.out)⟩⟩
           ·
            rw [if_neg c29] at H; exact absurd H (by simp)
          ·
           rw [if_neg c28] at H; have c28b0 : decide (x8_3 < (x5_3.length : Int)) = false := decide_eq_false c28; clear c28; have H' := Aside0.mk H; clear H; go_wp2; go_loopg [9] k3 (fun kq v9 w' => ∃ (x5_4 : List Int) (x9_4 : Int), v9 = .int .i64 x9_4 ∧ Aside0 (spec_l3Weak.l3 kq a1 x5_4 x9_4 = some r) ∧ Aside0 (kq ≤ k3) ∧ Aside0 (Kd.R (Kd.int .i64) 3 w' w.heap.size (fun _ => True) (.slice Ao8 x5_3.length co8) x5_4) ∧ Aside0 (Below w.heap.size w w'))
           case atStart => exact ⟨(x5_3), (0), (by first | rfl | (simp; done) | (simp [*]; done)), H', ⟨Nat.le_refl _⟩, ⟨by (try simp only [hl5_1]); (try simp only [hl5_2]); (try simp only [hl5_3]); (with_reducible repeat (first | apply Kd.R_alloc | apply Kd.R_drewN | apply Kd.R_drew)); exact HO_5.out⟩, ⟨by repeat (first | (with_reducible first | exact HB.out | apply below_alloc | apply pw_below_drewN | apply below_drew1) | exact HB.out)⟩⟩
           case round =>
            clear H'; (try clear c1); (try clear p1); (try clear q1); (try clear hx1); (try clear c2); (try clear p2); (try clear q2); (try clear hx2); (try clear hf2); (try clear c3); (try clear p3); (try clear q3); (try clear hx3); (try clear hf3); (try clear c5); (try clear c6); (try clear p6); (try clear c10); (try clear c10b0); (try clear c11); (try clear c11b0); (try clear c12); (try clear c12b0); (try clear c12b1); (try clear c14); (try clear c14b0); (try clear c14b1); (try clear p14); (try clear q14); (try clear hx14); (try clear p15); (try clear q15); (try clear hx15); (try clear hf15); (try clear c18); (try clear c18b0); (try clear c19); (try clear c19b0); (try clear c20); (try clear c20b0); (try clear c20b1); (try clear p21); (try clear q21); (try clear hx21); (try clear hf21); (try clear c28); (try clear c28b0); (try clear c29); (try clear c29b0); (try clear c31); (try clear p32); (try clear q32); (try clear hx32); (try clear hf32); (try clear c35); (try clear c35b0); (try clear c35b1); (try clear p36); (try clear q36); (try clear hx36); (try clear hf36); (try clear hx141_0); (try clear hx144_0); (try clear hx148_0); (try clear hx151_0); (try clear hx15_0); (try clear hx21_0); (try clear hx32_0); (try clear hx36_0); (try clear p1); (try clear p14); (try clear p141); (try clear p144); (try clear p148); (try clear p15); (try clear p151); (try clear p2); (try clear p21); (try clear p32); (try clear p36); (try clear p6); (try clear q1); (try clear q14); (try clear q141); (try clear q144); (try clear q148); (try clear q15); (try clear q151); (try clear q2); (try clear q21); (try clear q32); (try clear q36); obtain ⟨x5_4, x9_4, rfl, HA, HK4, HO_5, HB⟩ := hrel; have hl5_4 := (Kd.R_reads' HO_5.out).1; rw [hl5_4] at HO_5; (try simp only [hl5_4])
            cases gk with
            | zero => exact absurd HA.out (by simp [spec_l3Weak.l3])
            | succ k4 =>
             have H := HA.out; clear HA; simp only [spec_l3Weak.l3] at H; by_cases c39 : x9_4 < (x5_4.length : Int)
             ·
              rw [if_pos c39] at H; have c39b0 : decide (x9_4 < (x5_4.length : Int)) = true := decide_eq_true c39; clear c39; by_cases c40 : 0 ≤ x9_4
              ·
               rw [if_pos c40] at H; have c40b0 : decide (0 ≤ x9_4) = true := decide_eq_true c40; clear c40; by_cases c41 : (rd x5_4 x9_4) = 4
               ·
                rw [if_pos c41] at H; have c41b0 : ((rd x5_4 x9_4) == 4) = true := beq_iff_eq.mpr c41; have c41b1 : ((rd x5_4 x9_4) != 4) = false := bne_eq_false_iff_eq.mpr c41; clear c41; replace H := Option.bind_eq_some_iff.mp H; obtain ⟨t154, A420, H⟩ := H; replace H : (if t154 = 1 then (spec_l3Weak.l3 k4 a1 (x5_4.set (x9_4 : Int).toNat 1) (wrap64 (x9_4 + 1))) else (spec_l3Weak.l3 k4 a1 x5_4 (wrap64 (x9_4 + 1)))) = some r := H; have A42 := Aside0.mk A420; clear A420; by_cases c43 : t154 = 1
                ·
                 rw [if_pos c43] at H; have c43b0 : (t154 == 1) = true := beq_iff_eq.mpr c43; have c43b1 : (t154 != 1) = false := bne_eq_false_iff_eq.mpr c43; clear c43; obtain ⟨y155, hy155⟩ : ∃ y_ : List Int, y_ = (x5_4.set (x9_4 : Int).toNat 1) := ⟨_, rfl⟩; replace H : (spec_l3Weak.l3 k4 a1 y155 (wrap64 (x9_4 + 1))) = some r := by first | (rw [hy155]; with_reducible exact H) | (have H2_ := (Option.bind_some _ _).symm.trans H; rw [hy155]; with_reducible exact H2_) | (have H2_ := (Option.bind_some _ _).symm.trans H; with_reducible exact H2_) | with_reducible exact H | (rw [hy155]; exact H) | exact H
                 have Ny155 := Aside0.mk hy155; clear hy155; have H' := Aside0.mk H; clear H; have p153 : 0 ≤ (x9_4 : Int) := of_decide_eq_true (by first | (with_reducible assumption) | assumption); have q153 : x9_4 < (x5_4.length : Int) := of_decide_eq_true (by first | (with_reducible assumption) | assumption); obtain ⟨ad153, e153, hx153_0⟩ := Kd.at_int (Kd.R_reads' HO_5.out).2.2 x9_4 p153 q153
                 cases e153
                 replace p153 := eq_true p153; replace q153 := eq_true q153; go_wp2_with (first | (go_at_call 58; (with_reducible refine (spec_l3Strong.calls k4 _ _ x5_4 x9_4 a1 t154 _ ?side1 ?side2 A42.out).mono ?_); (case side1 => repeat (first | exact (Kd.R_reads' HO_5.out).2.2 | (with_reducible refine Kd.C_alloc ?_ _) | (with_reducible refine Kd.C_drewN ?_ _) | (with_reducible refine Kd.C_drew ?_))); (case side2 => exact (Kd.R_reads' HO_5.out).2.1); rintro e w' ⟨rfl, ⟨nd, rfl⟩⟩; (try (rw [drewN_self wr]; generalize hq_ : World.drewN wr _ = wr; have n0_ : Aside0 (Kd.R (Kd.int .i64) 3 wr w.heap.size (fun _ => True) (.slice (some ad153) x5_4.length co8) x5_4) := ⟨by rw [← hq_]; exact (by (with_reducible repeat (first | apply Kd.R_alloc | apply Kd.R_drewN | apply Kd.R_drew)); exact HO_5.out)⟩; have n1_ : Aside0 (Below w.heap.size w wr) := ⟨by rw [← hq_]; exact (by repeat (first | (with_reducible first | exact HB.out | apply below_alloc | apply pw_below_drewN | apply below_drew1) | exact HB.out))⟩; clear HO_5 HB hq_; have HO_5 := n0_; have HB := n1_; clear n0_ n1_)); have p44 : 0 ≤ (x9_4 : Int) := of_decide_eq_true (by first | (with_reducible assumption) | assumption); have q44 : (x9_4 : Int) < ((x5_4.length : Int) : Int) := of_decide_eq_true (by first | (with_reducible assumption) | assumption); obtain ⟨go44, co44, eo44, gb44, gl44, cl44, HG44⟩ := Kd.R_form HO_5.out (by omega); (first | cases eo44 | (injection eo44 with ea_ en_ ec_; (first | subst ea_ | (injection ea_ with ea_; subst ea_)); subst ec_; clear en_)); have GB44 := Aside0.mk gb44; have GG44 := Aside0.mk HG44; clear gb44 gl44 HG44; (first | simp only [add_plain] at hx153_0 | skip); obtain ⟨hx44_0, hf44_0⟩ := Kd.R_celln 0 HO_5.out (x9_4 : Int) p44 q44; replace p44 := eq_true p44; replace q44 := eq_true q44; obtain ⟨hy45_, hz45_⟩ := Kd.R_celln 0 HO_5.out (x9_4 : Int) (of_decide_eq_true (by first | (with_reducible assumption) | assumption)) (of_decide_eq_true (by first | (with_reducible assumption) | assumption)); have HP45 := Kd.R_putg HO_5.out (x9_4 : Int) 1) | ((with_reducible refine gate_store (t := 3) (p := 96) rfl ?_); refine store_event (t := 3) (p := 96) (v := ?vo_w46) (w1 := (wr.setCell ⟨go44, (x9_4 : Int).toNat, none⟩ (.int .i64 1))) ?hg ?ho ?hn ?hr ?_; (case ho => rfl); (case hg => rfl); (case hn => rfl); (case hr => first | (go_simp; done) | (go_simp; rfl)); intro w46 hw; have hg : wr.grownBy w46 (some go44) := (by rw [hw]; exact HP45.2); have hp_ : Kd.R (Kd.int .i64) 3 w46 w.heap.size (fun _ => True) (.slice (some ⟨go44, 0, none⟩) x5_4.length co8) y155 := (by rw [hw, Ny155.out]; exact HP45.1); clear HP45; have n0_ := Aside0.mk (hp_); have n1_ := Aside0.mk ((by rw [hw]; exact below_set (HB.out) GB44.out : Below w.heap.size w w46)); clear HO_5; clear HB; have HO_5 := n0_; have HB := n1_; clear n0_ n1_; clear hg hw hp_)); (try simp only [← hl5_4]); go_roundg k4
                 case measure => have := HK1.out; have := HK2.out; have := HK3.out; have := HK4.out; omega
                 case rel => exact ⟨(y155), (wrap64 (x9_4 + 1)), (by first | rfl | (simp; done) | (simp [*]; done)), H', ⟨by have := HK1.out; have := HK2.out; have := HK3.out; have := HK4.out; omega⟩, ⟨by (try simp only [hl5_1]); (try simp only [hl5_2]); (try simp only [hl5_3]); (try simp only [hl5_4]); (with_reducible repeat (first | apply Kd.R_alloc | apply Kd.R_drewN | apply Kd.R_drew)); exact HO_5.out⟩, ⟨by repeat (first | (with_reducible first | exact HB.out | apply below_alloc | apply pw_below_drewN | apply below_drew1) | exact HB.out)⟩⟩
                ·
                 rw [if_neg c43] at H; have c43b0 : (t154 == 1) = false := beq_eq_false_iff_ne.mpr c43; have c43b1 : (t154 != 1) = true := bne_iff_ne.mpr c43; have H' := Aside0.mk H; clear H; have p153 : 0 ≤ (x9_4 : Int) := of_decide_eq_true (by first | (with_reducible assumption) | assumption); have q153 : x9_4 < (x5_4.length : Int) := of_decide_eq_true (by first | (with_reducible assumption) | assumption); obtain ⟨ad153, e153, hx153_0⟩ := Kd.at_int (Kd.R_reads' HO_5.out).2.2 x9_4 p153 q153
                 cases e153
                 replace p153 := eq_true p153; replace q153 := eq_true q153; go_wp2_with (first | (go_at_call 58; (with_reducible refine (spec_l3Strong.calls k4 _ _ x5_4 x9_4 a1 t154 _ ?side1 ?side2 A42.out).mono ?_); (case side1 => repeat (first | exact (Kd.R_reads' HO_5.out).2.2 | (with_reducible refine Kd.C_alloc ?_ _) | (with_reducible refine Kd.C_drewN ?_ _) | (with_reducible refine Kd.C_drew ?_))); (case side2 => exact (Kd.R_reads' HO_5.out).2.1); rintro e w' ⟨rfl, ⟨nd, rfl⟩⟩)); (try simp only [← hl5_4]); go_roundg k4
                 case measure => have := HK1.out; have := HK2.out; have := HK3.out; have := HK4.out; omega
                 case rel => exact ⟨(x5_4), (wrap64 (x9_4 + 1)), (by first | rfl | (simp; done) | (simp [*]; done)), H', ⟨by have := HK1.out; have := HK2.out; have := HK3.out; have := HK4.out; omega⟩, ⟨by (try simp only [hl5_1]); (try simp only [hl5_2]); (try simp only [hl5_3]); (try simp only [hl5_4]); (with_reducible repeat (first | apply Kd.R_alloc | apply Kd.R_drewN | apply Kd.R_drew)); exact HO_5.out⟩, ⟨by repeat (first | (with_reducible first | exact HB.out | apply below_alloc | apply pw_below_drewN | apply below_drew1) | exact HB.out)⟩⟩
               ·
                rw [if_neg c41] at H; have c41b0 : ((rd x5_4 x9_4) == 4) = false := beq_eq_false_iff_ne.mpr c41; have c41b1 : ((rd x5_4 x9_4) != 4) = true := bne_iff_ne.mpr c41; have H' := Aside0.mk H; clear H; have p153 : 0 ≤ (x9_4 : Int) := of_decide_eq_true (by first | (with_reducible assumption) | assumption); have q153 : x9_4 < (x5_4.length : Int) := of_decide_eq_true (by first | (with_reducible assumption) | assumption); obtain ⟨ad153, e153, hx153_0⟩ := Kd.at_int (Kd.R_reads' HO_5.out).2.2 x9_4 p153 q153
                cases e153
                replace p153 := eq_true p153; replace q153 := eq_true q153; go_wp2; (try simp only [← hl5_4]); go_roundg k4
                case measure => have := HK1.out; have := HK2.out; have := HK3.out; have := HK4.out; omega
                case rel => exact ⟨(x5_4), (wrap64 (x9_4 + 1)), (by first | rfl | (simp; done) | (simp [*]; done)), H', ⟨by have := HK1.out; have := HK2.out; have := HK3.out; have := HK4.out; omega⟩, ⟨by (try simp only [hl5_1]); (try simp only [hl5_2]); (try simp only [hl5_3]); (try simp only [hl5_4]); (with_reducible repeat (first | apply Kd.R_alloc | apply Kd.R_drewN | apply Kd.R_drew)); exact HO_5.out⟩, ⟨by repeat (first | (with_reducible first | exact HB.out | apply below_alloc | apply pw_below_drewN | apply below_drew1) | exact HB.out)⟩⟩
              ·
               rw [if_neg c40] at H; exact absurd H (by simp)
             ·
              rw [if_neg c39] at H; have c39b0 : decide (x9_4 < (x5_4.length : Int)) = false := decide_eq_false c39; clear c39; obtain rfl := Option.some.inj H; go_wp2; go_ret; exact ⟨_, by first | rfl | (simp [errW_none, errW_some] <;> rfl) | (simp [*, errW_none, errW_some] <;> rfl), by (with_reducible repeat (first | apply Kd.R_alloc | apply Kd.R_drewN | apply Kd.R_drew)); exact HO_5.out, by repeat (first | (with_reducible first | exact HB.out | apply below_alloc | apply pw_below_drewN | apply below_drew1) | exact HB.out)⟩
 ·
  rw [if_neg c3] at H; exact absurd H (by simp)

end Go.Proofs.Ytojehfdioeglgaa.S

namespace Go.Proofs.Ytojehfdioeglgaa.S
open Go.RowKit Go.Proofs.YtojehfdioeglgaaW.PrintWords Go.Proofs.YtojehfdioeglgaaW.PrintLast Go.Proofs.YtojehfdioeglgaaW.PrintMore
attribute [local go_sem] max2_int min2_int max_two min_two max_three min_three max_four min_four   -- for this text's walks alone
set_option linter.unusedVariables false
set_option linter.unusedSimpArgs false

/-! ### spec_LevelWeak: function 9 -/
def spec_LevelWeak.f (k : Nat) (l0 : List Int) (a1 : Int) : Option (List Int) := (spec_l3Classes.f k l0).bind fun t156 => (if t156 = true then ((spec_l3Side.f a1).bind fun t157 => (if t157 = true then ((spec_l3Weak.f k l0 a1).bind fun t158 => (some t158)) else (some (([] : List Int))))) else (some (([] : List Int))))
theorem spec_LevelWeak.mono : ∀ a0 a1 k, LeO (spec_LevelWeak.f k a0 a1) (spec_LevelWeak.f (k + 1) a0 a1) := by
  intro a0 a1 k
  unfold spec_LevelWeak.f
  repeat' first
      | (with_reducible exact spec_l3Classes.mono _ _)
      | (with_reducible exact spec_l3Weak.mono _ _ _)
      | (with_reducible exact LeO.refl _)
      | (with_reducible exact LeO.none _)
      | (with_reducible refine LeO.ite ?_ ?_)
      | (with_reducible refine LeO.bind ?_ (fun _ => ?_))
      | exact spec_l3Classes.mono _ _
      | exact spec_l3Weak.mono _ _ _
      | exact LeO.none _
      | refine LeO.ite ?_ ?_
      | refine LeO.bind ?_ (fun _ => ?_)
set_option maxHeartbeats 8000000 in
set_option maxRecDepth 100000 in
theorem spec_LevelWeak.calls (k : Nat) (A0 : Option Addr) (c0 : Nat) (l0 : List Int) (a1 : Int) (r : List Int) (w : World) (hr0 : Kd.C (Kd.int .i64) w A0 l0.length l0) (hc0 : l0.length ≤ c0) (h : spec_LevelWeak.f k l0 a1 = some r) :
    Calls Try.prog 9 #[.slice A0 l0.length c0, .int .i64 a1] w fun e w' => ∃ v0_ : Value, e = .returned (v0_) ∧ Kd.R (Kd.int .i64) 3 w' w.heap.size (fun _ => True) v0_ r ∧ Below w.heap.size w w' := by
  have HR0 := Aside0.mk hr0
  have HC0 := Aside0.mk hc0
  clear hr0 hc0
  have HB := Aside0.mk (Below.refl w.heap.size w)
  have H : ((spec_l3Classes.f k l0).bind fun t156 => (if t156 = true then ((spec_l3Side.f a1).bind fun t157 => (if t157 = true then ((spec_l3Weak.f k l0 a1).bind fun t158 => (some t158)) else (some (([] : List Int))))) else (some (([] : List Int))))) = some r := h
  clear h
  replace H := Option.bind_eq_some_iff.mp H
  obtain ⟨t156, A30, H⟩ := H
  replace H : (if t156 = true then ((spec_l3Side.f a1).bind fun t157 => (if t157 = true then ((spec_l3Weak.f k l0 a1).bind fun t158 => (some t158)) else (some (([] : List Int))))) else (some (([] : List Int)))) = some r := H
  have A3 := Aside0.mk A30
  clear A30
  by_cases c4 : t156 = true
  · subst c4
    have H1 : ((spec_l3Side.f a1).bind fun t157 => (if t157 = true then ((spec_l3Weak.f k l0 a1).bind fun t158 => (some t158)) else (some (([] : List Int))))) = some r := by rw [if_pos rfl] at H; exact H
    clear H
    have H := H1
    clear H1
    replace H := Option.bind_eq_some_iff.mp H
    obtain ⟨t157, A50, H⟩ := H
    replace H : (if t157 = true then ((spec_l3Weak.f k l0 a1).bind fun t158 => (some t158)) else (some (([] : List Int)))) = some r := H
    have A5 := Aside0.mk A50
    clear A50
    by_cases c6 : t157 = true
    · subst c6
      have H1 : ((spec_l3Weak.f k l0 a1).bind fun t158 => (some t158)) = some r := by rw [if_pos rfl] at H; exact H
      clear H
      have H := H1
      clear H1
      replace H := Option.bind_eq_some_iff.mp H
      obtain ⟨t158, A70, H⟩ := H
      replace H : (some t158) = some r := H
      have A7 := Aside0.mk A70
      clear A70
      obtain rfl := Option.some.inj H
      go_enter Try.func9, Try.ntmps9
      go_wp2_with (first | ((with_reducible refine gate_callee (f := 29) rfl ?_); refine goesL_ (some 6) rfl rfl Try.func29 (by kernel_rfl) rfl #[.slice A0 l0.length c0] rfl (by (try simp only [List.map_toArray, List.map_cons, List.map_nil]); first | done | rfl | (simp only [List.length_drop, List.length_take]; rfl)) ?_; (with_reducible refine (spec_l3Classes.calls k _ _ l0 true _ ?side1 ?side2 A3.out).mono ?_); (case side1 => repeat (first | exact HR0.out | (with_reducible refine Kd.C_alloc ?_ _) | (with_reducible refine Kd.C_drewN ?_ _) | (with_reducible refine Kd.C_drew ?_))); (case side2 => exact HC0.out); rintro e w' ⟨rfl, ⟨nd, rfl⟩⟩; refine ⟨_, rfl, ?_⟩) | (go_at_call 30; (with_reducible refine (spec_l3Side.calls a1 true _ A5.out).mono ?_); rintro e w' ⟨rfl, ⟨nd, rfl⟩⟩) | ((with_reducible refine gate_callee (f := 31) rfl ?_); refine goesL_ (some 16) rfl rfl Try.func31 (by kernel_rfl) rfl #[.slice A0 l0.length c0, .int .i64 a1] rfl (by (try simp only [List.map_toArray, List.map_cons, List.map_nil]); first | done | rfl | (simp only [List.length_drop, List.length_take]; rfl)) ?_; (with_reducible refine (spec_l3Weak.calls k _ _ l0 a1 t158 _ ?side1 ?side2 A7.out).mono ?_); (case side1 => repeat (first | exact HR0.out | (with_reducible refine Kd.C_alloc ?_ _) | (with_reducible refine Kd.C_drewN ?_ _) | (with_reducible refine Kd.C_drew ?_))); (case side2 => exact HC0.out); rintro e w8 ⟨v159, rfl, ho0, hb⟩; refine ⟨_, rfl, ?_⟩; have n0_ := Aside0.mk (Kd.R_lower ho0 (below_size (by repeat (first | (with_reducible first | exact HB.out | apply below_alloc | apply pw_below_drewN | apply below_drew1) | exact HB.out)))); have n1_ := Aside0.mk (below_step (by repeat (first | (with_reducible first | exact HB.out | apply below_alloc | apply pw_below_drewN | apply below_drew1) | exact HB.out)) hb); clear HB; have HO160 := n0_; have HB := n1_; clear n0_ n1_; (try clear hb); (try clear hb2); (try clear hk); (try clear hi); (try clear ho0)))
      go_ret
      exact ⟨_, by first | rfl | (simp [errW_none, errW_some] <;> rfl) | (simp [*, errW_none, errW_some] <;> rfl), by (with_reducible repeat (first | apply Kd.R_alloc | apply Kd.R_drewN | apply Kd.R_drew)); exact HO160.out, by repeat (first | (with_reducible first | exact HB.out | apply below_alloc | apply pw_below_drewN | apply below_drew1) | exact HB.out)⟩
    · replace c6 := Bool.eq_false_iff.mpr c6
      subst c6
      have H1 : (some (([] : List Int))) = some r := by rw [if_neg (show ¬ (false = true) by decide)] at H; exact H
      clear H
      have H := H1
      clear H1
      obtain ⟨y161, hy161⟩ : ∃ y_ : List Int, y_ = (([] : List Int)) := ⟨_, rfl⟩
      replace H : (some y161) = some r := by first | (rw [hy161]; with_reducible exact H) | (have H2_ := (Option.bind_some _ _).symm.trans H; rw [hy161]; with_reducible exact H2_) | (have H2_ := (Option.bind_some _ _).symm.trans H; with_reducible exact H2_) | with_reducible exact H | (rw [hy161]; exact H) | exact H
      have Ny161 := Aside0.mk hy161
      clear hy161
      obtain rfl := Option.some.inj H
      go_enter Try.func9, Try.ntmps9
      go_wp2_with (first | ((with_reducible refine gate_callee (f := 29) rfl ?_); refine goesL_ (some 6) rfl rfl Try.func29 (by kernel_rfl) rfl #[.slice A0 l0.length c0] rfl (by (try simp only [List.map_toArray, List.map_cons, List.map_nil]); first | done | rfl | (simp only [List.length_drop, List.length_take]; rfl)) ?_; (with_reducible refine (spec_l3Classes.calls k _ _ l0 true _ ?side1 ?side2 A3.out).mono ?_); (case side1 => repeat (first | exact HR0.out | (with_reducible refine Kd.C_alloc ?_ _) | (with_reducible refine Kd.C_drewN ?_ _) | (with_reducible refine Kd.C_drew ?_))); (case side2 => exact HC0.out); rintro e w' ⟨rfl, ⟨nd, rfl⟩⟩; refine ⟨_, rfl, ?_⟩) | (go_at_call 30; (with_reducible refine (spec_l3Side.calls a1 false _ A5.out).mono ?_); rintro e w' ⟨rfl, ⟨nd, rfl⟩⟩) | ((with_reducible refine gate_dst (N := 13) rfl ?_); refine Kd.R_lit (Kd.int .i64) _ 3 ?hg (N := 13) ?hd (xs := ([] : List Int)) (inner := []) (ok := fun _ => True) (okp := fun _ => True) ?hr ?hp (fun _ hk => hk) trivial (Below.refl _ _) (Nat.le_refl _) (by simp) ?_; (case hd => rfl); (case hg => rfl); (case hr => first | (go_simp; done) | (go_simp; rfl)); (case hp => exact (Reps.none _ _)); intro v162 w9 ho10 hb hg_ hnew_; clear hg_ hnew_; (first | rw [← Ny161.out] at ho10 | (simp only [Int.reduceToNat] at ho10; rw [← Ny161.out] at ho10)); have n0_ := Aside0.mk (Kd.R_lower ho10 (below_size (by repeat (first | (with_reducible first | exact HB.out | apply below_alloc | apply pw_below_drewN | apply below_drew1) | exact HB.out)))); have n1_ := Aside0.mk (below_step (by repeat (first | (with_reducible first | exact HB.out | apply below_alloc | apply pw_below_drewN | apply below_drew1) | exact HB.out)) hb); clear HB; have HO163 := n0_; have HB := n1_; clear n0_ n1_; clear hb ho10))
      go_ret
      exact ⟨_, by first | rfl | (simp [errW_none, errW_some] <;> rfl) | (simp [*, errW_none, errW_some] <;> rfl), by (with_reducible repeat (first | apply Kd.R_alloc | apply Kd.R_drewN | apply Kd.R_drew)); exact HO163.out, by repeat (first | (with_reducible first | exact HB.out | apply below_alloc | apply pw_below_drewN | apply below_drew1) | exact HB.out)⟩
  · replace c4 := Bool.eq_false_iff.mpr c4
    subst c4
    have H1 : (some (([] : List Int))) = some r := by rw [if_neg (show ¬ (false = true) by decide)] at H; exact H
    clear H
    have H := H1
    clear H1
    obtain ⟨y164, hy164⟩ : ∃ y_ : List Int, y_ = (([] : List Int)) := ⟨_, rfl⟩
    replace H : (some y164) = some r := by first | (rw [hy164]; with_reducible exact H) | (have H2_ := (Option.bind_some _ _).symm.trans H; rw [hy164]; with_reducible exact H2_) | (have H2_ := (Option.bind_some _ _).symm.trans H; with_reducible exact H2_) | with_reducible exact H | (rw [hy164]; exact H) | exact H
    have Ny164 := Aside0.mk hy164
    clear hy164
    obtain rfl := Option.some.inj H
    go_enter Try.func9, Try.ntmps9
    go_wp2_with (first | ((with_reducible refine gate_callee (f := 29) rfl ?_); refine goesL_ (some 6) rfl rfl Try.func29 (by kernel_rfl) rfl #[.slice A0 l0.length c0] rfl (by (try simp only [List.map_toArray, List.map_cons, List.map_nil]); first | done | rfl | (simp only [List.length_drop, List.length_take]; rfl)) ?_; (with_reducible refine (spec_l3Classes.calls k _ _ l0 false _ ?side1 ?side2 A3.out).mono ?_); (case side1 => repeat (first | exact HR0.out | (with_reducible refine Kd.C_alloc ?_ _) | (with_reducible refine Kd.C_drewN ?_ _) | (with_reducible refine Kd.C_drew ?_))); (case side2 => exact HC0.out); rintro e w' ⟨rfl, ⟨nd, rfl⟩⟩; refine ⟨_, rfl, ?_⟩) | ((with_reducible refine gate_dst (N := 13) rfl ?_); refine Kd.R_lit (Kd.int .i64) _ 3 ?hg (N := 13) ?hd (xs := ([] : List Int)) (inner := []) (ok := fun _ => True) (okp := fun _ => True) ?hr ?hp (fun _ hk => hk) trivial (Below.refl _ _) (Nat.le_refl _) (by simp) ?_; (case hd => rfl); (case hg => rfl); (case hr => first | (go_simp; done) | (go_simp; rfl)); (case hp => exact (Reps.none _ _)); intro v165 w11 ho12 hb hg_ hnew_; clear hg_ hnew_; (first | rw [← Ny164.out] at ho12 | (simp only [Int.reduceToNat] at ho12; rw [← Ny164.out] at ho12)); have n0_ := Aside0.mk (Kd.R_lower ho12 (below_size (by repeat (first | (with_reducible first | exact HB.out | apply below_alloc | apply pw_below_drewN | apply below_drew1) | exact HB.out)))); have n1_ := Aside0.mk (below_step (by repeat (first | (with_reducible first | exact HB.out | apply below_alloc | apply pw_below_drewN | apply below_drew1) | exact HB.out)) hb); clear HB; have HO166 := n0_; have HB := n1_; clear n0_ n1_; clear hb ho12))
    go_ret
    exact ⟨_, by first | rfl | (simp [errW_none, errW_some] <;> rfl) | (simp [*, errW_none, errW_some] <;> rfl), by (with_reducible repeat (first | apply Kd.R_alloc | apply Kd.R_drewN | apply Kd.R_drew)); exact HO166.out, by repeat (first | (with_reducible first | exact HB.out | apply below_alloc | apply pw_below_drewN | apply below_drew1) | exact HB.out)⟩

end Go.Proofs.Ytojehfdioeglgaa.S

namespace Go.Proofs.Ytojehfdioeglgaa.S
open Go.RowKit Go.Proofs.YtojehfdioeglgaaW.PrintWords Go.Proofs.YtojehfdioeglgaaW.PrintLast Go.Proofs.YtojehfdioeglgaaW.PrintMore
attribute [local go_sem] max2_int min2_int max_two min_two max_three min_three max_four min_four   -- for this text's walks alone
set_option linter.unusedVariables false
set_option linter.unusedSimpArgs false

/-! ### impl_isLetter: function 74 -/
def impl_isLetter.f (a0 : Int) : Option (Bool) := if a0 ≥ 0 then (if a0 ≤ 1114111 then (if a0 < 55296 then (some true) else (some (decide (a0 > 57343)))) else (some false)) else (some false)
set_option maxHeartbeats 8000000 in
set_option maxRecDepth 100000 in
theorem impl_isLetter.calls (a0 : Int) (r : Bool) (w : World) (h : impl_isLetter.f a0 = some r) :
    Calls Try.prog 74 #[.int .i64 a0] w fun e w' => e = .returned (.bool r) ∧ Drawn0 w w' := by
  have H : (if a0 ≥ 0 then (if a0 ≤ 1114111 then (if a0 < 55296 then (some true) else (some (decide (a0 > 57343)))) else (some false)) else (some false)) = some r := h
  clear h
  by_cases c2 : a0 ≥ 0
  · rw [if_pos c2] at H
    have c2b0 : decide (0 ≤ a0) = true := decide_eq_true c2
    clear c2
    by_cases c3 : a0 ≤ 1114111
    · rw [if_pos c3] at H
      have c3b0 : decide (a0 ≤ 1114111) = true := decide_eq_true c3
      clear c3
      by_cases c4 : a0 < 55296
      · rw [if_pos c4] at H
        have c4b0 : decide (a0 < 55296) = true := decide_eq_true c4
        clear c4
        obtain rfl := Option.some.inj H
        go_enter Try.func74, Try.ntmps74
        go_wp2
        go_ret
        exact ⟨by first | rfl | (simp; done) | (simp [*]; done), by repeat (first | exact Drawn0.refl _ | apply Drawn0.step)⟩
      · rw [if_neg c4] at H
        have c4b0 : decide (a0 < 55296) = false := decide_eq_false c4
        clear c4
        obtain rfl := Option.some.inj H
        go_enter Try.func74, Try.ntmps74
        go_wp2
        go_ret
        exact ⟨by first | rfl | (simp; done) | (simp [*]; done), by repeat (first | exact Drawn0.refl _ | apply Drawn0.step)⟩
    · rw [if_neg c3] at H
      have c3b0 : decide (a0 ≤ 1114111) = false := decide_eq_false c3
      clear c3
      obtain rfl := Option.some.inj H
      go_enter Try.func74, Try.ntmps74
      go_wp2
      go_ret
      exact ⟨by first | rfl | (simp; done) | (simp [*]; done), by repeat (first | exact Drawn0.refl _ | apply Drawn0.step)⟩
  · rw [if_neg c2] at H
    have c2b0 : decide (0 ≤ a0) = false := decide_eq_false c2
    clear c2
    obtain rfl := Option.some.inj H
    go_enter Try.func74, Try.ntmps74
    go_wp2
    go_ret
    exact ⟨by first | rfl | (simp; done) | (simp [*]; done), by repeat (first | exact Drawn0.refl _ | apply Drawn0.step)⟩

end Go.Proofs.Ytojehfdioeglgaa.S

namespace Go.Proofs.Ytojehfdioeglgaa.S
open Go.RowKit Go.Proofs.YtojehfdioeglgaaW.PrintWords Go.Proofs.YtojehfdioeglgaaW.PrintLast Go.Proofs.YtojehfdioeglgaaW.PrintMore
attribute [local go_sem] max2_int min2_int max_two min_two max_three min_three max_four min_four   -- for this text's walks alone
set_option linter.unusedVariables false
set_option linter.unusedSimpArgs false

/-! ### slices_IndexFunc_int_int: function 87: idxint.tpl -/
/-- Where the first element stands of which p holds; -1, if there is none. -/
def idxI (p : Int → Bool) (l : List Int) : Int := if l.any p then (l.findIdx p : Int) else -1
theorem idxI_hit {p : Int → Bool} {l : List Int} {k : Nat} (hk : k < l.length) (hp : p (l.getD k 0) = true) (hb : ∀ j, j < k → p (l.getD j 0) = false) : idxI p l = k := by
  have hm : l.getD k 0 = l[k] := by simp [List.getD_eq_getElem?_getD, hk]
  have ha : l.any p = true := List.any_eq_true.2 ⟨l[k], List.getElem_mem hk, by rw [← hm]; exact hp⟩
  have hf : l.findIdx p = k := by
    rw [List.findIdx_eq hk]
    refine ⟨by rw [← hm]; exact hp, fun j hj => ?_⟩
    have := hb j hj
    simpa [List.getD_eq_getElem?_getD, show j < l.length by omega] using this
  rw [idxI, if_pos ha, hf]
theorem idxI_miss {p : Int → Bool} {l : List Int} (hb : ∀ j, j < l.length → p (l.getD j 0) = false) : idxI p l = -1 := by
  have ha : ¬ l.any p = true := by
    rw [List.any_eq_true]
    rintro ⟨x, hx, hp⟩
    obtain ⟨j, hj, rfl⟩ := List.getElem_of_mem hx
    have := hb j hj
    simp [List.getD_eq_getElem?_getD, hj] at this
    rw [this] at hp
    cases hp
  rw [idxI, if_neg ha]
theorem idxI_lt {p : Int → Bool} {l : List Int} (h : 0 ≤ idxI p l) : idxI p l < l.length := by
  unfold idxI at h ⊢
  by_cases ha : l.any p = true
  · rw [if_pos ha]
    have : l.findIdx p < l.length := List.findIdx_lt_length.2 (by simpa using ha)
    omega
  · rw [if_neg ha] at h
    omega
theorem idxI_nonneg (p : Int → Bool) (l : List Int) : decide (0 ≤ idxI p l) = l.any p := by
  unfold idxI
  cases l.any p <;> simp <;> omega
set_option maxHeartbeats 8000000 in
set_option maxRecDepth 100000 in
theorem idxI_calls (p : Int → Bool) (g : Nat) (lb : Array Value) (eg : ∀ args w, (callFunc g args).run Try.prog w = .ok (.enter g args) w) (A0 : Option Addr) (c0 : Nat) (l0 : List Int) (w : World) (hr0 : Kd.C (Kd.int .i64) w A0 l0.length l0)
    (hn : l0.length ≤ 9223372036854775806) (hp : ∀ W, Below w.heap.size w W → ∀ j, j < l0.length → Calls Try.prog g (#[.int .i64 (l0.getD j 0)] ++ lb) W fun e w' => e = .returned (.bool (p (l0.getD j 0))) ∧ Below w.heap.size w w') :
    Calls Try.prog 87 #[.slice A0 l0.length c0, .func (.func g) #[] lb] w fun e w' => e = .returned (.int .i64 (idxI p l0)) ∧ Below w.heap.size w w' := by
  have HR0 := Aside0.mk hr0
  have HP := Aside0.mk hp
  clear hr0 hp
  go_enter Try.func87, Try.ntmps87
  go_wp2
  go_loopg [5, 8] l0.length (fun gg _ s8 wr => ∃ kk : Nat, kk ≤ l0.length ∧ l0.length - kk ≤ gg ∧ s8 = .int .i64 kk ∧ Aside0 (Below w.heap.size w wr) ∧ Aside0 (∀ j, j < kk → p (l0.getD j 0) = false))
  case atStart => exact ⟨0, Nat.zero_le _, by omega, rfl, ⟨Below.refl _ w⟩, ⟨fun j hj => absurd hj (Nat.not_lt_zero _)⟩⟩
  case round =>
    obtain ⟨kk, hkk, hg, rfl, HB, HA⟩ := hrel
    by_cases hlt : kk < l0.length
    · have hltz : (kk : Int) < (l0.length : Int) := by omega
      obtain ⟨ad, rfl, hx⟩ := Kd.at_int HR0.out (kk : Int) (by omega) hltz
      replace hx := (HB.out.cell (World.block_lt_of_cell? w _ hx)).trans hx
      have hcall := HP.out wr HB.out kk hlt
      simp only [rd, Int.toNat_natCast] at hx
      generalize hy : l0.getD kk 0 = y at hx hcall
      have HY := Aside0.mk hy
      clear hy
      cases hq : p y with
      | true =>
        have HQ := Aside0.mk hq
        rw [hq] at hcall
        clear hq
        go_wp2_with (go_at_fn g; refine hcall.mono ?_; rintro e w' ⟨rfl, hb'⟩)
        go_ret
        refine ⟨?_, hb'⟩
        rw [idxI_hit hlt (by rw [HY.out]; exact HQ.out) HA.out]
        rfl
      | false =>
        have HQ := Aside0.mk hq
        rw [hq] at hcall
        clear hq
        go_wp2_with (go_at_fn g; refine hcall.mono ?_; rintro e w' ⟨rfl, hb'⟩)
        go_roundg (l0.length - (kk + 1))
        case measure => omega
        case rel =>
          refine ⟨kk + 1, by omega, by omega, by go_num, ⟨hb'⟩, ⟨fun j hj => ?_⟩⟩
          by_cases e : j = kk
          · subst e
            rw [HY.out]; exact HQ.out
          · exact HA.out j (by omega)
    · have hltz : ¬ (kk : Int) < (l0.length : Int) := by omega
      have hk : kk = l0.length := by omega
      subst hk
      go_wp2
      go_ret
      refine ⟨?_, HB.out⟩
      rw [idxI_miss HA.out]
      rfl


end Go.Proofs.Ytojehfdioeglgaa.S

namespace Go.Proofs.Ytojehfdioeglgaa.S
open Go.RowKit Go.Proofs.YtojehfdioeglgaaW.PrintWords Go.Proofs.YtojehfdioeglgaaW.PrintLast Go.Proofs.YtojehfdioeglgaaW.PrintMore
attribute [local go_sem] max2_int min2_int max_two min_two max_three min_three max_four min_four   -- for this text's walks alone
set_option linter.unusedVariables false
set_option linter.unusedSimpArgs false

/-! ### impl_lettersOk: function 47: lettersok.tpl -/
def isLetV (r : Int) : Bool := decide (0 ≤ r) && decide (r ≤ 1114111) && (decide (r < 55296) || decide (57343 < r))
theorem isLet_f (r : Int) : impl_isLetter.f r = some (isLetV r) := by
  unfold impl_isLetter.f isLetV
  by_cases h0 : 0 ≤ r
  · by_cases h1 : r ≤ 1114111
    · by_cases h2 : r < 55296
      · simp [h0, h1, h2]
      · simp [h0, h1, h2]
    · simp [h0, h1]
  · simp [h0]
set_option maxHeartbeats 8000000 in
set_option maxRecDepth 100000 in
theorem hasI_calls (p : Int → Bool) (g : Nat) (lb : Array Value) (eg : ∀ args w, (callFunc g args).run Try.prog w = .ok (.enter g args) w) (A0 : Option Addr) (c0 : Nat) (l0 : List Int) (w : World) (hr0 : Kd.C (Kd.int .i64) w A0 l0.length l0)
    (hn : l0.length ≤ 9223372036854775806) (hp : ∀ W, Below w.heap.size w W → ∀ j, j < l0.length → Calls Try.prog g (#[.int .i64 (l0.getD j 0)] ++ lb) W fun e w' => e = .returned (.bool (p (l0.getD j 0))) ∧ Below w.heap.size w w') :
    Calls Try.prog 61 #[.slice A0 l0.length c0, .func (.func g) #[] lb] w fun e w' => e = .returned (.bool (l0.any p)) ∧ Below w.heap.size w w' := by
  rw [← idxI_nonneg]
  go_enter Try.func61, Try.ntmps61
  go_wp2_with (go_at_call 87; refine (idxI_calls p g lb eg A0 c0 l0 _ hr0 hn hp).mono ?_; rintro e w' ⟨rfl, hb'⟩)
  go_ret
  exact ⟨rfl, hb'⟩
def okV (l : List Int) : Bool := decide (l.length ≤ 80) && l.all isLetV
def impl_lettersOk.f (l0 : List Int) : Option Bool := some (okV l0)
set_option maxHeartbeats 8000000 in
set_option maxRecDepth 100000 in
theorem lettersOk_1_calls (x : Int) (W : World) : Calls Try.prog 73 #[.int .i64 x] W fun e w' => e = .returned (.bool (!isLetV x)) ∧ Drawn0 W w' := by
  go_enter Try.func73, Try.ntmps73
  go_wp2_with (go_at_call 74; refine (impl_isLetter.calls x (isLetV x) _ (isLet_f x)).mono ?_; rintro e w' ⟨rfl, ⟨nd, rfl⟩⟩)
  go_ret
  exact ⟨rfl, Drawn0.step (Drawn0.refl _) _⟩
set_option maxHeartbeats 8000000 in
set_option maxRecDepth 100000 in
theorem impl_lettersOk.calls (A0 : Option Addr) (c0 : Nat) (l0 : List Int) (r : Bool) (w : World) (hr0 : Kd.C (Kd.int .i64) w A0 l0.length l0) (hc0 : l0.length ≤ c0) (h : impl_lettersOk.f l0 = some r) :
    Calls Try.prog 47 #[.slice A0 l0.length c0] w fun e w' => e = .returned (.bool r) ∧ Below w.heap.size w w' := by
  obtain rfl := Option.some.inj h
  clear h
  by_cases hl : l0.length ≤ 80
  · have hd : decide ((l0.length : Int) ≤ 80) = true := decide_eq_true (by omega)
    have e : okV l0 = !(l0.any fun x => !isLetV x) := by simp [okV, hl, List.all_eq_not_any_not]
    have HE := Aside0.mk e
    have HL := Aside0.mk hl
    clear e hl
    go_enter Try.func47, Try.ntmps47
    go_wp2_with (go_at_call 61; refine (hasI_calls (fun x => !isLetV x) 73 #[] (fun _ _ => by first | rfl | (go_simp; done)) A0 c0 l0 _ hr0 (by have := HL.out; omega) (fun W hb j hj => ((lettersOk_1_calls _ W).mono fun _ _ ⟨he, hd⟩ => ⟨he, hb.trans (hd.below.mono hb.size)⟩))).mono ?_; rintro e w' ⟨rfl, hb'⟩)
    go_ret
    exact ⟨by rw [HE.out]; rfl, hb'⟩
  · have hd : decide ((l0.length : Int) ≤ 80) = false := decide_eq_false (by omega)
    have e : okV l0 = false := by simp [okV, hl]
    have HE := Aside0.mk e
    clear e hl
    go_enter Try.func47, Try.ntmps47
    go_wp2
    go_ret
    exact ⟨by rw [HE.out]; rfl, Below.refl _ _⟩


end Go.Proofs.Ytojehfdioeglgaa.S

namespace Go.Proofs.Ytojehfdioeglgaa.S
open Go.RowKit Go.Proofs.YtojehfdioeglgaaW.PrintWords Go.Proofs.YtojehfdioeglgaaW.PrintLast Go.Proofs.YtojehfdioeglgaaW.PrintMore
attribute [local go_sem] max2_int min2_int max_two min_two max_three min_three max_four min_four   -- for this text's walks alone
set_option linter.unusedVariables false
set_option linter.unusedSimpArgs false

/-! ### impl_classesOk: function 32: classesok.tpl -/
def clsOkV (r : Int) : Bool := decide (1 ≤ r) && decide (r ≤ 22)
def classesOkV (l : List Int) : Bool := decide (l.length ≤ 80) && l.all clsOkV
def impl_classesOk.f (l0 : List Int) : Option Bool := some (classesOkV l0)
set_option maxHeartbeats 8000000 in
set_option maxRecDepth 100000 in
theorem classesOk_1_calls (x : Int) (W : World) : Calls Try.prog 62 #[.int .i64 x] W fun e w' => e = .returned (.bool (!clsOkV x)) ∧ Drawn0 W w' := by
  by_cases h0 : x < 1
  · have e : clsOkV x = false := by simp [clsOkV]; omega
    have HE := Aside0.mk e
    clear e
    go_enter Try.func62, Try.ntmps62
    go_wp2
    go_ret
    exact ⟨by rw [HE.out]; rfl, Drawn0.refl _⟩
  · have e : (!clsOkV x) = decide (22 < x) := by
      unfold clsOkV
      have : 1 ≤ x := by omega
      by_cases h1 : x ≤ 22
      · simp [this, h1]
      · simp [h1]; omega
    have HE := Aside0.mk e
    clear e
    go_enter Try.func62, Try.ntmps62
    go_wp2
    go_ret
    exact ⟨by rw [HE.out]; rfl, Drawn0.refl _⟩
set_option maxHeartbeats 8000000 in
set_option maxRecDepth 100000 in
theorem impl_classesOk.calls (A0 : Option Addr) (c0 : Nat) (l0 : List Int) (r : Bool) (w : World) (hr0 : Kd.C (Kd.int .i64) w A0 l0.length l0) (hc0 : l0.length ≤ c0) (h : impl_classesOk.f l0 = some r) :
    Calls Try.prog 32 #[.slice A0 l0.length c0] w fun e w' => e = .returned (.bool r) ∧ Below w.heap.size w w' := by
  obtain rfl := Option.some.inj h
  clear h
  by_cases hl : l0.length ≤ 80
  · have hd : decide ((l0.length : Int) ≤ 80) = true := decide_eq_true (by omega)
    have e : classesOkV l0 = !(l0.any fun x => !clsOkV x) := by simp [classesOkV, hl, List.all_eq_not_any_not]
    have HE := Aside0.mk e
    have HL := Aside0.mk hl
    clear e hl
    go_enter Try.func32, Try.ntmps32
    go_wp2_with (go_at_call 61; refine (hasI_calls (fun x => !clsOkV x) 62 #[] (fun _ _ => by first | rfl | (go_simp; done)) A0 c0 l0 _ hr0 (by have := HL.out; omega) (fun W hb j hj => ((classesOk_1_calls _ W).mono fun _ _ ⟨he, hd⟩ => ⟨he, hb.trans (hd.below.mono hb.size)⟩))).mono ?_; rintro e w' ⟨rfl, hb'⟩)
    go_ret
    exact ⟨by rw [HE.out]; rfl, hb'⟩
  · have hd : decide ((l0.length : Int) ≤ 80) = false := decide_eq_false (by omega)
    have e : classesOkV l0 = false := by simp [classesOkV, hl]
    have HE := Aside0.mk e
    clear e hl
    go_enter Try.func32, Try.ntmps32
    go_wp2
    go_ret
    exact ⟨by rw [HE.out]; rfl, Below.refl _ _⟩


end Go.Proofs.Ytojehfdioeglgaa.S

namespace Go.Proofs.Ytojehfdioeglgaa.S
open Go.RowKit Go.Proofs.YtojehfdioeglgaaW.PrintWords Go.Proofs.YtojehfdioeglgaaW.PrintLast Go.Proofs.YtojehfdioeglgaaW.PrintMore
attribute [local go_sem] max2_int min2_int max_two min_two max_three min_three max_four min_four   -- for this text's walks alone
set_option linter.unusedVariables false
set_option linter.unusedSimpArgs false

/-! ### impl_isSide: function 33 -/
def impl_isSide.f (a0 : Int) : Option (Bool) := if a0 = 1 then (some true) else (some (a0 == 2))
set_option maxHeartbeats 8000000 in
set_option maxRecDepth 100000 in
theorem impl_isSide.calls (a0 : Int) (r : Bool) (w : World) (h : impl_isSide.f a0 = some r) :
    Calls Try.prog 33 #[.int .i64 a0] w fun e w' => e = .returned (.bool r) ∧ Drawn0 w w' := by
  have H : (if a0 = 1 then (some true) else (some (a0 == 2))) = some r := h
  clear h
  by_cases c2 : a0 = 1
  · rw [if_pos c2] at H
    have c2b0 : (a0 == 1) = true := beq_iff_eq.mpr c2
    have c2b1 : (a0 != 1) = false := bne_eq_false_iff_eq.mpr c2
    clear c2
    obtain rfl := Option.some.inj H
    go_enter Try.func33, Try.ntmps33
    go_wp2
    go_ret
    exact ⟨by first | rfl | (simp; done) | (simp [*]; done), by repeat (first | exact Drawn0.refl _ | apply Drawn0.step)⟩
  · rw [if_neg c2] at H
    have c2b0 : (a0 == 1) = false := beq_eq_false_iff_ne.mpr c2
    have c2b1 : (a0 != 1) = true := bne_iff_ne.mpr c2
    obtain rfl := Option.some.inj H
    go_enter Try.func33, Try.ntmps33
    go_wp2
    go_ret
    exact ⟨by first | rfl | (simp; done) | (simp [*]; done), by repeat (first | exact Drawn0.refl _ | apply Drawn0.step)⟩

end Go.Proofs.Ytojehfdioeglgaa.S

namespace Go.Proofs.Ytojehfdioeglgaa.S
open Go.RowKit Go.Proofs.YtojehfdioeglgaaW.PrintWords Go.Proofs.YtojehfdioeglgaaW.PrintLast Go.Proofs.YtojehfdioeglgaaW.PrintMore
attribute [local go_sem] max2_int min2_int max_two min_two max_three min_three max_four min_four   -- for this text's walks alone
set_option linter.unusedVariables false
set_option linter.unusedSimpArgs false

/-! ### slices_Clone_int_int: function 34: clone.tpl -/
def slices_Clone_int_int.f (l0 : List Int) : Option (List Int) := if l0.length < 1000000 then some l0 else none
theorem run_eql_slice_nilX {P : Program} (w : World) (t e : TypeId) (a : Option Addr) (l c : Nat) (h : P.underlying t = some (.slice e)) : (binOp .eql t (.slice a l c) (.slice none 0 0)).run P w = .ok (.bool a.isNone) w := by
  simp only [binOp]
  simp [run_equal_slice_nil w t e a l c h]
attribute [local go_sem] run_eql_slice_nilX
set_option maxHeartbeats 8000000 in
set_option maxRecDepth 100000 in
theorem slices_Clone_int_int.calls (A0 : Option Addr) (c0 : Nat) (l0 : List Int) (r : List Int) (w : World) (hr0 : Kd.C (Kd.int .i64) w A0 l0.length l0) (hc0 : l0.length ≤ c0) (h : slices_Clone_int_int.f l0 = some r) :
    Calls Try.prog 34 #[.slice A0 l0.length c0] w fun e w' => ∃ v0_ : Value, e = .returned (v0_) ∧ Kd.R (Kd.int .i64) 3 w' w.heap.size (fun _ => True) v0_ r ∧ Below w.heap.size w w' := by
  unfold slices_Clone_int_int.f at h
  by_cases hl : l0.length < 1000000
  · rw [if_pos hl] at h
    obtain rfl := Option.some.inj h
    clear h
    have hu := Try.underlying22
    cases A0 with
    | none =>
      have e : l0 = [] := by
        by_cases hp : 0 < l0.length
        · obtain ⟨ad, h1, _⟩ := hr0.2.2 hp
          cases h1
        · exact List.eq_nil_of_length_eq_zero (by omega)
      subst e
      clear hr0 hl hc0
      go_enter Try.func34, Try.ntmps34
      go_wp2
      go_ret
      exact ⟨_, rfl, Kd.R_nil _ _ _ _ _, Below.refl _ _⟩
    | some ad =>
      have HR0 := Aside0.mk hr0
      have HL := Aside0.mk hl
      clear hr0 hl hc0
      have HB := Aside0.mk (Below.refl w.heap.size w)
      go_enter Try.func34, Try.ntmps34
      go_wp2_with (first
        | ((with_reducible refine gate_dst (N := 5) rfl ?_); refine Kd.R_lit (Kd.int .i64) _ 3 ?hg (N := 5) ?hd (xs := ([] : List Int)) (inner := []) (ok := fun _ => True) (okp := fun _ => True) ?hr ?hp (fun _ hk => hk) trivial (Below.refl _ _) (Nat.le_refl _) (by simp) ?_; (case hd => rfl); (case hg => rfl); (case hr => first | (go_simp; done) | (go_simp; rfl)); (case hp => exact (Reps.none _ _)); intro v5 w5 ho5 hb5 hg_ hnew_; clear hg_ hnew_; have HO5 := Aside0.mk ho5; have HB5 := Aside0.mk hb5; clear ho5 hb5)
        | ((with_reducible refine gate_builtin (b := .append) (xs := #[.tmp 5, .tmp 6]) rfl ?_); at_builtin; refine Kd.R_append_rows (Kd.int .i64) (w0 := w) w.heap.size rfl (.tmp 5) (.tmp 6) 22 3 (.int .i64 0) 8 rfl Try.underlying22 info3 rfl (by decide) (by omega) v5 [] l0 _ _ _ (fun _ => True) (fun _ => False) rfl rfl ?aO ?aR (fun _ _ h => h) (fun _ h => h.elim) ?aF ?aB ?aS ?aL ?_; (case aO => exact HO5.out); (case aR => exact (Kd.C_below HR0.out HB5.out)); (case aF => exact (fun _ _ => trivial)); (case aB => exact HB5.out); (case aS => exact HB5.out.size); (case aL => (have := HL.out; simp only [List.length_nil]; omega)); intro v7 w7 ho7 hb7 hg7 hat7; have HO7 := Aside0.mk ho7; have HB7 := Aside0.mk hb7; clear ho7 hb7 hg7 hat7))
      go_ret
      exact ⟨_, rfl, by simpa using HO7.out, HB7.out⟩
  · rw [if_neg hl] at h
    exact absurd h (by simp)


end Go.Proofs.Ytojehfdioeglgaa.S

namespace Go.Proofs.Ytojehfdioeglgaa.S
open Go.RowKit Go.Proofs.YtojehfdioeglgaaW.PrintWords Go.Proofs.YtojehfdioeglgaaW.PrintLast Go.Proofs.YtojehfdioeglgaaW.PrintMore
attribute [local go_sem] max2_int min2_int max_two min_two max_three min_three max_four min_four   -- for this text's walks alone
set_option linter.unusedVariables false
set_option linter.unusedSimpArgs false

/-! ### impl_opens: function 63 -/
def impl_opens.f (a0 : Int) : Option (Bool) := if a0 = 19 then (some true) else (if a0 = 20 then (some true) else (some (a0 == 21)))
set_option maxHeartbeats 8000000 in
set_option maxRecDepth 100000 in
theorem impl_opens.calls (a0 : Int) (r : Bool) (w : World) (h : impl_opens.f a0 = some r) :
    Calls Try.prog 63 #[.int .i64 a0] w fun e w' => e = .returned (.bool r) ∧ Drawn0 w w' := by
  have H : (if a0 = 19 then (some true) else (if a0 = 20 then (some true) else (some (a0 == 21)))) = some r := h
  clear h
  by_cases c2 : a0 = 19
  · rw [if_pos c2] at H
    have c2b0 : (a0 == 19) = true := beq_iff_eq.mpr c2
    have c2b1 : (a0 != 19) = false := bne_eq_false_iff_eq.mpr c2
    clear c2
    obtain rfl := Option.some.inj H
    go_enter Try.func63, Try.ntmps63
    go_wp2
    go_ret
    exact ⟨by first | rfl | (simp; done) | (simp [*]; done), by repeat (first | exact Drawn0.refl _ | apply Drawn0.step)⟩
  · rw [if_neg c2] at H
    have c2b0 : (a0 == 19) = false := beq_eq_false_iff_ne.mpr c2
    have c2b1 : (a0 != 19) = true := bne_iff_ne.mpr c2
    by_cases c3 : a0 = 20
    · rw [if_pos c3] at H
      have c3b0 : (a0 == 20) = true := beq_iff_eq.mpr c3
      have c3b1 : (a0 != 20) = false := bne_eq_false_iff_eq.mpr c3
      clear c3
      obtain rfl := Option.some.inj H
      go_enter Try.func63, Try.ntmps63
      go_wp2
      go_ret
      exact ⟨by first | rfl | (simp; done) | (simp [*]; done), by repeat (first | exact Drawn0.refl _ | apply Drawn0.step)⟩
    · rw [if_neg c3] at H
      have c3b0 : (a0 == 20) = false := beq_eq_false_iff_ne.mpr c3
      have c3b1 : (a0 != 20) = true := bne_iff_ne.mpr c3
      obtain rfl := Option.some.inj H
      go_enter Try.func63, Try.ntmps63
      go_wp2
      go_ret
      exact ⟨by first | rfl | (simp; done) | (simp [*]; done), by repeat (first | exact Drawn0.refl _ | apply Drawn0.step)⟩

end Go.Proofs.Ytojehfdioeglgaa.S

namespace Go.Proofs.Ytojehfdioeglgaa.S
open Go.RowKit Go.Proofs.YtojehfdioeglgaaW.PrintWords Go.Proofs.YtojehfdioeglgaaW.PrintLast Go.Proofs.YtojehfdioeglgaaW.PrintMore
attribute [local go_sem] max2_int min2_int max_two min_two max_three min_three max_four min_four   -- for this text's walks alone
set_option linter.unusedVariables false
set_option linter.unusedSimpArgs false

/-! ### impl_beside: function 66: beside.tpl -/
/-- m elements of l from a on become x. -/
def fillV (l : List Int) (a : Nat) (x : Int) : Nat → List Int
  | 0 => l
  | m + 1 => (fillV l a x m).set (a + m) x
theorem fillV_length (l : List Int) (a : Nat) (x : Int) : ∀ m, (fillV l a x m).length = l.length
  | 0 => rfl
  | m + 1 => by rw [fillV, List.length_set, fillV_length l a x m]
/-- Where those end of which p holds, from fr on. -/
def runE (p : Int → Bool) (l : List Int) (fr : Nat) : Nat := fr + ((l.drop fr).takeWhile p).length
theorem takeWhile_stop {p : Int → Bool} : ∀ (l : List Int), (l.takeWhile p).length < l.length → p (l.getD (l.takeWhile p).length 0) = false
  | [], h => by simp at h
  | x :: r, h => by
    by_cases hx : p x = true
    · simp only [List.takeWhile_cons_of_pos hx, List.length_cons] at h ⊢
      simpa using takeWhile_stop r (by omega)
    · simp only [List.takeWhile_cons_of_neg hx, List.length_nil]
      simpa using hx
theorem takeWhile_all {p : Int → Bool} : ∀ (l : List Int) (j : Nat), j < (l.takeWhile p).length → p (l.getD j 0) = true
  | [], j, h => by simp at h
  | x :: r, j, h => by
    by_cases hx : p x = true
    · simp only [List.takeWhile_cons_of_pos hx, List.length_cons] at h
      cases j with
      | zero => simpa using hx
      | succ j => simpa using takeWhile_all r j (by omega)
    · simp [List.takeWhile_cons_of_neg hx] at h
theorem runE_ge (p : Int → Bool) (l : List Int) (fr : Nat) : fr ≤ runE p l fr := Nat.le_add_right _ _
theorem runE_le {p : Int → Bool} {l : List Int} {fr : Nat} (h : fr ≤ l.length) : runE p l fr ≤ l.length := by
  have := (List.takeWhile_sublist p (l := l.drop fr)).length_le
  rw [List.length_drop] at this
  unfold runE; omega
theorem getD_drop (l : List Int) (a j : Nat) : (l.drop a).getD j 0 = l.getD (a + j) 0 := by simp [List.getD_eq_getElem?_getD, List.getElem?_drop]
theorem runE_all {p : Int → Bool} {l : List Int} {fr j : Nat} (h0 : fr ≤ j) (h1 : j < runE p l fr) : p (l.getD j 0) = true := by
  have := takeWhile_all (p := p) (l.drop fr) (j - fr) (by unfold runE at h1; omega)
  rwa [getD_drop, show fr + (j - fr) = j by omega] at this
theorem runE_stop {p : Int → Bool} {l : List Int} {fr : Nat} (h : runE p l fr < l.length) : p (l.getD (runE p l fr) 0) = false := by
  have := takeWhile_stop (p := p) (l.drop fr) (by rw [List.length_drop]; unfold runE at h; omega)
  rwa [getD_drop] at this
def subV (q : Int → Int → Option Int) (l : List Int) (fr tt : Nat) : List Int :=
  match q (if fr = 0 then 0 else l.getD (fr - 1) 0) (if tt < l.length then l.getD tt 0 else 0) with
  | some x => fillV l fr x (tt - fr)
  | none => l
theorem subV_length (q : Int → Int → Option Int) (l : List Int) (fr tt : Nat) : (subV q l fr tt).length = l.length := by
  unfold subV
  split
  · exact fillV_length ..
  · rfl
def besideL (p : Int → Bool) (q : Int → Int → Option Int) : Nat → List Int → Nat → List Int
  | 0, l, _ => l
  | k + 1, l, fr => if fr < l.length then (if runE p l fr = fr then besideL p q k l (fr + 1) else besideL p q k (subV q l fr (runE p l fr)) (runE p l fr)) else l
def besideV (p : Int → Bool) (q : Int → Int → Option Int) (l : List Int) : List Int := besideL p q l.length l 0
theorem besideL_end {p : Int → Bool} {q : Int → Int → Option Int} {k : Nat} {l : List Int} {fr : Nat} (h : ¬ fr < l.length) : besideL p q k l fr = l := by
  cases k with
  | zero => rfl
  | succ k => rw [besideL, if_neg h]
theorem besideL_one {p : Int → Bool} {q : Int → Int → Option Int} {k : Nat} {l : List Int} {fr : Nat} (h : fr < l.length) (e : runE p l fr = fr) : besideL p q (k + 1) l fr = besideL p q k l (fr + 1) := by
  rw [besideL, if_pos h, if_pos e]
theorem besideL_run {p : Int → Bool} {q : Int → Int → Option Int} {k : Nat} {l : List Int} {fr : Nat} (h : fr < l.length) (e : ¬ runE p l fr = fr) : besideL p q (k + 1) l fr = besideL p q k (subV q l fr (runE p l fr)) (runE p l fr) := by
  rw [besideL, if_pos h, if_neg e]
theorem grown_refl (w : World) (row : Option Nat) : w.grownBy w row := grown_of_below (Below.refl _ _) row
theorem grown_then {w w1 w2 : World} {row : Option Nat} (h : w.grownBy w1 row) (k : w1.grownBy w2 row) : w.grownBy w2 row :=
  ⟨k.os.trans h.os, k.tape.trans h.tape, k.output.trans h.output, Nat.le_trans h.size k.size, fun i hi hr => (k.block i (Nat.lt_of_lt_of_le hi h.size) hr).trans (h.block i hi hr)⟩
set_option maxHeartbeats 8000000 in
set_option maxRecDepth 100000 in
theorem fill_calls (g n cap a m : Nat) (x : Int) (l : List Int) (base : Nat) (ok : Nat → Prop) (w : World) (ho : Kd.R (Kd.int .i64) 3 w base ok (.slice (some ⟨g, 0, none⟩) n cap) l) (hm : a + m ≤ n) (hn : n ≤ 1000000) :
    Calls Try.prog 69 #[.slice (some ⟨g, a, none⟩) m (cap - a), .int .i64 x] w fun e w' => e = .returned (.tuple #[]) ∧ Kd.R (Kd.int .i64) 3 w' base ok (.slice (some ⟨g, 0, none⟩) n cap) (fillV l a x m) ∧ w.grownBy w' (some g) := by
  have HO := Aside0.mk ho
  have HM := Aside0.mk hm
  clear ho hm
  go_enter Try.func69, Try.ntmps69
  go_wp2
  go_loopg [4, 7] m (fun gg _ s7 wr => ∃ kk : Nat, kk ≤ m ∧ m - kk ≤ gg ∧ s7 = .int .i64 kk ∧ Aside0 (Kd.R (Kd.int .i64) 3 wr base ok (.slice (some ⟨g, 0, none⟩) n cap) (fillV l a x kk)) ∧ Aside0 (w.grownBy wr (some g)))
  case atStart => exact ⟨0, Nat.zero_le _, by omega, rfl, HO, ⟨grown_refl _ _⟩⟩
  case round =>
    clear HO
    obtain ⟨kk, hkk, hg, rfl, HO, HG⟩ := hrel
    have hm := HM.out
    by_cases hlt : kk < m
    · obtain ⟨hx, hf⟩ := Kd.R_celln 0 HO.out ((a + kk : Nat) : Int) (by omega) (by omega)
      simp only [Int.toNat_natCast] at hx hf
      have hk9 : kk < 1000000 := by omega
      clear hm
      have hltz : (kk : Int) < (m : Int) := by omega
      go_wp2
      go_roundg (m - (kk + 1))
      case measure => omega
      case rel =>
        have hp := Kd.R_putg HO.out ((a + kk : Nat) : Int) x
        simp only [Int.toNat_natCast] at hp
        exact ⟨kk + 1, by omega, by omega, by go_num, ⟨hp.1⟩, ⟨grown_then HG.out hp.2⟩⟩
    · have hltz : ¬ (kk : Int) < (m : Int) := by omega
      obtain rfl : kk = m := by omega
      clear hm
      go_wp2
      go_end0
      exact ⟨rfl, HO.out, HG.out⟩
set_option maxHeartbeats 16000000 in
set_option maxRecDepth 100000 in
theorem beside_calls (p : Int → Bool) (q : Int → Int → Option Int) (f1 f2 : Nat) (lb1 lb2 : Array Value) (eg1 : ∀ args w, (callFunc f1 args).run Try.prog w = .ok (.enter f1 args) w) (eg2 : ∀ args w, (callFunc f2 args).run Try.prog w = .ok (.enter f2 args) w)
    (g n cap : Nat) (l : List Int) (base : Nat) (ok : Nat → Prop) (w : World) (ho : Kd.R (Kd.int .i64) 3 w base ok (.slice (some ⟨g, 0, none⟩) n cap) l) (hn : n ≤ 1000000) (hcap : n ≤ cap)
    (hp : ∀ W x, w.grownBy W (some g) → Calls Try.prog f1 (#[.int .i64 x] ++ lb1) W fun e w' => e = .returned (.bool (p x)) ∧ Drawn0 W w')
    (hd : ∀ W l' a m y z, w.grownBy W (some g) → Kd.R (Kd.int .i64) 3 W base ok (.slice (some ⟨g, 0, none⟩) n cap) l' → a + m ≤ n → 0 < m → Calls Try.prog f2 (#[.slice (some ⟨g, a, none⟩) m (cap - a), .int .i64 y, .int .i64 z] ++ lb2) W fun e w' => e = .returned (.tuple #[]) ∧ Kd.R (Kd.int .i64) 3 w' base ok (.slice (some ⟨g, 0, none⟩) n cap) (match q y z with | some x => fillV l' a x m | none => l') ∧ W.grownBy w' (some g)) :
    Calls Try.prog 66 #[.slice (some ⟨g, 0, none⟩) n cap, .func (.func f1) #[] lb1, .func (.func f2) #[] lb2] w fun e w' => e = .returned (.tuple #[]) ∧ Kd.R (Kd.int .i64) 3 w' base ok (.slice (some ⟨g, 0, none⟩) n cap) (besideV p q l) ∧ w.grownBy w' (some g) := by
  have hnl := (Kd.R_reads' ho).1
  have HO := Aside0.mk ho
  have HP := Aside0.mk hp
  have HD := Aside0.mk hd
  have HNL := Aside0.mk hnl
  clear ho hp hd hnl
  go_enter Try.func66, Try.ntmps66
  go_wp2
  go_loopg [6, 7, 8, 9] n (fun gg s6 _ _ _ wr => ∃ (fr kk : Nat) (x : List Int), s6 = .int .i64 fr ∧ fr ≤ n ∧ n - fr ≤ kk ∧ kk ≤ gg ∧ Aside0 (Kd.R (Kd.int .i64) 3 wr base ok (.slice (some ⟨g, 0, none⟩) n cap) x) ∧ Aside0 (x.length = n) ∧ Aside0 (w.grownBy wr (some g)) ∧ Aside0 (besideL p q kk x fr = besideV p q l))
  case atStart => exact ⟨0, n, l, rfl, Nat.zero_le _, by omega, Nat.le_refl _, HO, ⟨HNL.out.symm⟩, ⟨grown_refl _ _⟩, ⟨by rw [besideV, HNL.out]⟩⟩
  case round =>
    clear HO
    obtain ⟨fr, kk, x, rfl, hfn, hk, hkg, HO, HXL, HG, HE⟩ := hrel
    by_cases hlt : fr < n
    · have hltz : (fr : Int) < (n : Int) := by omega
      obtain ⟨k1, rfl⟩ : ∃ k1, kk = k1 + 1 := ⟨kk - 1, by omega⟩
      have hlx : fr < x.length := by rw [HXL.out]; exact hlt
      obtain ⟨T, hT⟩ : ∃ T, runE p x fr = T := ⟨_, rfl⟩
      have hT0 : fr ≤ T := by rw [← hT]; exact runE_ge ..
      have hT1 : T ≤ n := by rw [← hT, ← HXL.out]; exact runE_le (by omega)
      have HA := Aside0.mk (fun j (h0 : fr ≤ j) (h1 : j < T) => runE_all (p := p) (l := x) (fr := fr) h0 (by rw [hT]; exact h1))
      have HS := Aside0.mk (fun (h : T < n) => show p (x.getD T 0) = false by rw [← hT]; exact runE_stop (by rw [hT, HXL.out]; exact h))
      have HTE := Aside0.mk hT
      have HLX := Aside0.mk hlx
      clear hT hlx
      --BEGIN
      have HM0 := Aside0.mk (show k1 < gk ∧ n - fr ≤ k1 + 1 by omega)
      go_wp2
      go_loopg [7] (T - fr) (fun gi s7 wi => ∃ tt : Nat, s7 = .int .i64 tt ∧ fr ≤ tt ∧ tt ≤ T ∧ T - tt ≤ gi ∧ Aside0 (Kd.R (Kd.int .i64) 3 wi base ok (.slice (some ⟨g, 0, none⟩) n cap) x) ∧ Aside0 (w.grownBy wi (some g)))
      case atStart => exact ⟨fr, rfl, Nat.le_refl _, hT0, Nat.le_refl _, HO, HG⟩
      case round =>
        clear HO HG
        obtain ⟨tt, rfl, h1, h2, h3, HO, HG⟩ := hrel
        by_cases hc : tt < T
        · have htn : tt < n := by omega
          have htz : (tt : Int) < (n : Int) := by omega
          obtain ⟨hx, hf⟩ := Kd.R_celln 0 HO.out (tt : Int) (by omega) htz
          simp only [Int.toNat_natCast] at hx
          have hpp := HA.out tt h1 hc
          have hxe : rdOf 0 x (tt : Int) = x.getD tt 0 := by simp [rdOf]
          rw [hxe] at hx
          clear hxe hf
          generalize x.getD tt 0 = y at hx hpp
          have hcall := HP.out wr y HG.out
          rw [hpp] at hcall
          clear hpp
          have HT3 := Aside0.mk h3
          go_wp2_with (go_at_fn f1; refine hcall.mono ?_; rintro e w' ⟨rfl, hb⟩; obtain ⟨⟨nd, rfl⟩⟩ := hb)
          go_roundg (T - (tt + 1))
          case measure => omega
          case rel => exact ⟨tt + 1, by go_num, by omega, by omega, Nat.le_refl _, ⟨Kd.R_drewN HO.out _⟩, ⟨grown_then HG.out (grown_of_below (pw_below_drewN (Below.refl _ _) _) _)⟩⟩
        · obtain rfl : tt = T := by omega
          clear h2 h3 hc
          have HM := Aside0.mk (show k1 < _ ∧ n - fr ≤ k1 + 1 ∧ fr ≤ tt ∧ tt ≤ n from ⟨HM0.out.1, HM0.out.2, by omega, by omega⟩)
          have hm0 := HM0.out
          clear HM0
          by_cases e1 : tt = fr
          · have hTn : tt < n := by omega
            have htz : (tt : Int) < (n : Int) := by omega
            obtain ⟨hx, hf⟩ := Kd.R_celln 0 HO.out (tt : Int) (by omega) htz
            simp only [Int.toNat_natCast] at hx
            have hpp := HS.out hTn
            have hxe : rdOf 0 x (tt : Int) = x.getD tt 0 := by simp [rdOf]
            rw [hxe] at hx
            clear hxe hf
            obtain ⟨y, hy⟩ : ∃ y, x.getD tt 0 = y := ⟨_, rfl⟩
            rw [hy] at hx hpp
            have HY := Aside0.mk hy
            clear hy
            have hcall := HP.out wr y HG.out
            rw [hpp] at hcall
            clear hpp
            have hef : (tt : Int) = (fr : Int) := by omega
            have hefb : ((tt : Int) == (fr : Int)) = true := beq_iff_eq.mpr hef
            have hfr9 : fr < 1000000 := by omega
            subst e1
            clear hef hm0
            go_wp2_with (go_at_fn f1; refine hcall.mono ?_; rintro e w' ⟨rfl, hb⟩; obtain ⟨⟨nd, rfl⟩⟩ := hb; have n0 := Aside0.mk (Kd.R_drewN HO.out nd); have n1 := Aside0.mk (grown_then HG.out (grown_of_below (pw_below_drewN (Below.refl wr.heap.size wr) nd) (some g))); clear HO HG; have HO := n0; have HG := n1; clear n0 n1)
            go_roundg k1
            case measure => have := HM.out; omega
            case rel => exact ⟨tt + 1, k1, x, by go_num, by have := HM.out; omega, by have := HM.out; omega, Nat.le_refl _, HO, HXL, HG, ⟨by rw [← HE.out, besideL_one HLX.out HTE.out]⟩⟩
          · have hnot : ¬ tt = fr := e1
            by_cases hTn : tt < n
            · by_cases e0 : fr = 0
              · skip
                have htz : (tt : Int) < (n : Int) := by omega
                obtain ⟨hx, hf⟩ := Kd.R_celln 0 HO.out (tt : Int) (by omega) htz
                simp only [Int.toNat_natCast] at hx
                have hpp := HS.out hTn
                have hxe : rdOf 0 x (tt : Int) = x.getD tt 0 := by simp [rdOf]
                rw [hxe] at hx
                clear hxe hf
                obtain ⟨y, hy⟩ : ∃ y, x.getD tt 0 = y := ⟨_, rfl⟩
                rw [hy] at hx hpp
                have HY := Aside0.mk hy
                clear hy
                have hcall := HP.out wr y HG.out
                rw [hpp] at hcall
                clear hpp
                have hefb : ((tt : Int) == (fr : Int)) = false := beq_eq_false_iff_ne.mpr (by omega)
                have hcut : ∀ W : World, (Instr.slice 22 (.slice (some ⟨g, 0, none⟩) n cap) (some (.int .i64 fr)) (some (.int .i64 tt)) none).run Try.prog W = .ok (.slice (some ⟨g, fr, none⟩) (tt - fr) (cap - fr)) W := by
                  intro W
                  obtain ⟨i0, hi0, hz1, hz2, hz3⟩ := info_parts info3
                  have h := cut_mid (P := Try.prog) 22 3 .i64 .i64 Try.underlying22 hi0 1 hz2 (some ⟨g, 0, none⟩) n cap (fr : Int) (tt : Int) (by omega) (by omega) (by omega) hcap W
                  simpa [show ¬ cap = fr by omega, add_plain] using h
                have htc : tt ≤ cap := by omega
                have hz0 : fr = 0 := e0
                subst hz0
                have hdo := fun W hg hr => HD.out W x 0 tt 0 y hg hr (by omega) (by omega)
                simp only [Nat.sub_zero] at hdo
                have HDO := Aside0.mk hdo
                have HDN := Aside0.mk hnot
                have HQ := Aside0.mk (show subV q x 0 tt = (match q 0 y with | some u => fillV x 0 u tt | none => x) by rw [subV, if_pos rfl, if_pos (by rw [HXL.out]; exact hTn), HY.out, Nat.sub_zero])
                have HFT := Aside0.mk (show 0 < tt by omega)
                have HLT := Aside0.mk (show tt ≤ n by omega)
                clear hm0 hdo hnot hT0 hT1 hk hkg hfn hlt hTn
                go_wp2_with (first | (go_at_fn f1; refine hcall.mono ?_; rintro e w' ⟨rfl, hb⟩; obtain ⟨⟨nd, rfl⟩⟩ := hb; have n0 := Aside0.mk (Kd.R_drewN HO.out nd); have n1 := Aside0.mk (grown_then HG.out (grown_of_below (pw_below_drewN (Below.refl wr.heap.size wr) nd) (some g))); clear HO HG; have HO := n0; have HG := n1; clear n0 n1) | (go_at_fn f2; refine (HDO.out _ HG.out HO.out).mono ?_; rintro e w' ⟨rfl, hr, hg⟩; rw [← HQ.out] at hr; have n0 := Aside0.mk hr; have n1 := Aside0.mk (grown_then HG.out hg); clear HO HG hr hg; have HO := n0; have HG := n1; clear n0 n1))
                go_roundg k1
                case measure => have := HM.out; omega
                case rel => exact ⟨tt, k1, _, rfl, HLT.out, by have := HM.out; omega, Nat.le_refl _, HO, ⟨by rw [subV_length]; exact HXL.out⟩, HG, ⟨by rw [← HE.out, besideL_run HLX.out (by rw [HTE.out]; exact HDN.out), HTE.out]⟩⟩
              · skip
                have htz : (tt : Int) < (n : Int) := by omega
                obtain ⟨hx, hf⟩ := Kd.R_celln 0 HO.out (tt : Int) (by omega) htz
                simp only [Int.toNat_natCast] at hx
                have hpp := HS.out hTn
                have hxe : rdOf 0 x (tt : Int) = x.getD tt 0 := by simp [rdOf]
                rw [hxe] at hx
                clear hxe hf
                obtain ⟨y, hy⟩ : ∃ y, x.getD tt 0 = y := ⟨_, rfl⟩
                rw [hy] at hx hpp
                have HY := Aside0.mk hy
                clear hy
                have hcall := HP.out wr y HG.out
                rw [hpp] at hcall
                clear hpp
                have hefb : ((tt : Int) == (fr : Int)) = false := beq_eq_false_iff_ne.mpr (by omega)
                have hcut : ∀ W : World, (Instr.slice 22 (.slice (some ⟨g, 0, none⟩) n cap) (some (.int .i64 fr)) (some (.int .i64 tt)) none).run Try.prog W = .ok (.slice (some ⟨g, fr, none⟩) (tt - fr) (cap - fr)) W := by
                  intro W
                  obtain ⟨i0, hi0, hz1, hz2, hz3⟩ := info_parts info3
                  have h := cut_mid (P := Try.prog) 22 3 .i64 .i64 Try.underlying22 hi0 1 hz2 (some ⟨g, 0, none⟩) n cap (fr : Int) (tt : Int) (by omega) (by omega) (by omega) hcap W
                  simpa [show ¬ cap = fr by omega, add_plain] using h
                have hz0 : 0 < (fr : Int) := by omega
                obtain ⟨ha, hfa⟩ := Kd.R_celln 0 HO.out ((fr : Int) - 1) (by omega) (by omega)
                have hae : rdOf 0 x ((fr : Int) - 1) = x.getD (fr - 1) 0 := by simp [rdOf, show ((fr : Int) - 1).toNat = fr - 1 by omega]
                rw [hae, show ((fr : Int) - 1).toNat = fr - 1 by omega] at ha
                clear hae hfa
                obtain ⟨ya, hya⟩ : ∃ y, x.getD (fr - 1) 0 = y := ⟨_, rfl⟩
                rw [hya] at ha
                have HYA := Aside0.mk hya
                clear hya
                have hw1 : IntKind.i64.wrap ((fr : Int) - 1) = (fr : Int) - 1 := IntWalk.i64_in _ (by omega)
                have hw2 : ((fr : Int) - 1).toNat = fr - 1 := by omega
                have hw3 : 0 ≤ (fr : Int) - 1 := by omega
                have hw4 : (fr : Int) - 1 < (n : Int) := by omega
                have hdo := fun W hg hr => HD.out W x fr (tt - fr) ya y hg hr (by omega) (by omega)
                have HDO := Aside0.mk hdo
                have HDN := Aside0.mk hnot
                have HQ := Aside0.mk (show subV q x fr tt = (match q ya y with | some u => fillV x fr u (tt - fr) | none => x) by rw [subV, if_neg e0, HYA.out, if_pos (by rw [HXL.out]; exact hTn), HY.out])
                have HFT := Aside0.mk (show fr < tt by omega)
                have HLT := Aside0.mk (show tt ≤ n by omega)
                clear hm0 hdo hnot hT0 hT1 hk hkg hfn hlt hTn e0
                go_wp2_with (first | (go_at_fn f1; refine hcall.mono ?_; rintro e w' ⟨rfl, hb⟩; obtain ⟨⟨nd, rfl⟩⟩ := hb; have n0 := Aside0.mk (Kd.R_drewN HO.out nd); have n1 := Aside0.mk (grown_then HG.out (grown_of_below (pw_below_drewN (Below.refl wr.heap.size wr) nd) (some g))); clear HO HG; have HO := n0; have HG := n1; clear n0 n1) | (go_at_fn f2; refine (HDO.out _ HG.out HO.out).mono ?_; rintro e w' ⟨rfl, hr, hg⟩; rw [← HQ.out] at hr; have n0 := Aside0.mk hr; have n1 := Aside0.mk (grown_then HG.out hg); clear HO HG hr hg; have HO := n0; have HG := n1; clear n0 n1))
                go_roundg k1
                case measure => have := HM.out; omega
                case rel => exact ⟨tt, k1, _, rfl, HLT.out, by have := HM.out; omega, Nat.le_refl _, HO, ⟨by rw [subV_length]; exact HXL.out⟩, HG, ⟨by rw [← HE.out, besideL_run HLX.out (by rw [HTE.out]; exact HDN.out), HTE.out]⟩⟩
            · by_cases e0 : fr = 0
              · skip
                have htz : ¬ (tt : Int) < (n : Int) := by omega
                have hefb : ((tt : Int) == (fr : Int)) = false := beq_eq_false_iff_ne.mpr (by omega)
                have hcut : ∀ W : World, (Instr.slice 22 (.slice (some ⟨g, 0, none⟩) n cap) (some (.int .i64 fr)) (some (.int .i64 tt)) none).run Try.prog W = .ok (.slice (some ⟨g, fr, none⟩) (tt - fr) (cap - fr)) W := by
                  intro W
                  obtain ⟨i0, hi0, hz1, hz2, hz3⟩ := info_parts info3
                  have h := cut_mid (P := Try.prog) 22 3 .i64 .i64 Try.underlying22 hi0 1 hz2 (some ⟨g, 0, none⟩) n cap (fr : Int) (tt : Int) (by omega) (by omega) (by omega) hcap W
                  simpa [show ¬ cap = fr by omega, add_plain] using h
                have htc : tt ≤ cap := by omega
                have hz0 : fr = 0 := e0
                subst hz0
                have hdo := fun W hg hr => HD.out W x 0 tt 0 0 hg hr (by omega) (by omega)
                simp only [Nat.sub_zero] at hdo
                have HDO := Aside0.mk hdo
                have HDN := Aside0.mk hnot
                have HQ := Aside0.mk (show subV q x 0 tt = (match q 0 0 with | some u => fillV x 0 u tt | none => x) by rw [subV, if_pos rfl, if_neg (by rw [HXL.out]; exact hTn), Nat.sub_zero])
                have HFT := Aside0.mk (show 0 < tt by omega)
                have HLT := Aside0.mk (show tt ≤ n by omega)
                clear hm0 hdo hnot hT0 hT1 hk hkg hfn hlt hTn
                go_wp2_with (first | (go_at_fn f1; refine hcall.mono ?_; rintro e w' ⟨rfl, hb⟩; obtain ⟨⟨nd, rfl⟩⟩ := hb; have n0 := Aside0.mk (Kd.R_drewN HO.out nd); have n1 := Aside0.mk (grown_then HG.out (grown_of_below (pw_below_drewN (Below.refl wr.heap.size wr) nd) (some g))); clear HO HG; have HO := n0; have HG := n1; clear n0 n1) | (go_at_fn f2; refine (HDO.out _ HG.out HO.out).mono ?_; rintro e w' ⟨rfl, hr, hg⟩; rw [← HQ.out] at hr; have n0 := Aside0.mk hr; have n1 := Aside0.mk (grown_then HG.out hg); clear HO HG hr hg; have HO := n0; have HG := n1; clear n0 n1))
                go_roundg k1
                case measure => have := HM.out; omega
                case rel => exact ⟨tt, k1, _, rfl, HLT.out, by have := HM.out; omega, Nat.le_refl _, HO, ⟨by rw [subV_length]; exact HXL.out⟩, HG, ⟨by rw [← HE.out, besideL_run HLX.out (by rw [HTE.out]; exact HDN.out), HTE.out]⟩⟩
              · skip
                have htz : ¬ (tt : Int) < (n : Int) := by omega
                have hefb : ((tt : Int) == (fr : Int)) = false := beq_eq_false_iff_ne.mpr (by omega)
                have hcut : ∀ W : World, (Instr.slice 22 (.slice (some ⟨g, 0, none⟩) n cap) (some (.int .i64 fr)) (some (.int .i64 tt)) none).run Try.prog W = .ok (.slice (some ⟨g, fr, none⟩) (tt - fr) (cap - fr)) W := by
                  intro W
                  obtain ⟨i0, hi0, hz1, hz2, hz3⟩ := info_parts info3
                  have h := cut_mid (P := Try.prog) 22 3 .i64 .i64 Try.underlying22 hi0 1 hz2 (some ⟨g, 0, none⟩) n cap (fr : Int) (tt : Int) (by omega) (by omega) (by omega) hcap W
                  simpa [show ¬ cap = fr by omega, add_plain] using h
                have hz0 : 0 < (fr : Int) := by omega
                obtain ⟨ha, hfa⟩ := Kd.R_celln 0 HO.out ((fr : Int) - 1) (by omega) (by omega)
                have hae : rdOf 0 x ((fr : Int) - 1) = x.getD (fr - 1) 0 := by simp [rdOf, show ((fr : Int) - 1).toNat = fr - 1 by omega]
                rw [hae, show ((fr : Int) - 1).toNat = fr - 1 by omega] at ha
                clear hae hfa
                obtain ⟨ya, hya⟩ : ∃ y, x.getD (fr - 1) 0 = y := ⟨_, rfl⟩
                rw [hya] at ha
                have HYA := Aside0.mk hya
                clear hya
                have hw1 : IntKind.i64.wrap ((fr : Int) - 1) = (fr : Int) - 1 := IntWalk.i64_in _ (by omega)
                have hw2 : ((fr : Int) - 1).toNat = fr - 1 := by omega
                have hw3 : 0 ≤ (fr : Int) - 1 := by omega
                have hw4 : (fr : Int) - 1 < (n : Int) := by omega
                have hdo := fun W hg hr => HD.out W x fr (tt - fr) ya 0 hg hr (by omega) (by omega)
                have HDO := Aside0.mk hdo
                have HDN := Aside0.mk hnot
                have HQ := Aside0.mk (show subV q x fr tt = (match q ya 0 with | some u => fillV x fr u (tt - fr) | none => x) by rw [subV, if_neg e0, HYA.out, if_neg (by rw [HXL.out]; exact hTn)])
                have HFT := Aside0.mk (show fr < tt by omega)
                have HLT := Aside0.mk (show tt ≤ n by omega)
                clear hm0 hdo hnot hT0 hT1 hk hkg hfn hlt hTn e0
                go_wp2_with (first | (go_at_fn f1; refine hcall.mono ?_; rintro e w' ⟨rfl, hb⟩; obtain ⟨⟨nd, rfl⟩⟩ := hb; have n0 := Aside0.mk (Kd.R_drewN HO.out nd); have n1 := Aside0.mk (grown_then HG.out (grown_of_below (pw_below_drewN (Below.refl wr.heap.size wr) nd) (some g))); clear HO HG; have HO := n0; have HG := n1; clear n0 n1) | (go_at_fn f2; refine (HDO.out _ HG.out HO.out).mono ?_; rintro e w' ⟨rfl, hr, hg⟩; rw [← HQ.out] at hr; have n0 := Aside0.mk hr; have n1 := Aside0.mk (grown_then HG.out hg); clear HO HG hr hg; have HO := n0; have HG := n1; clear n0 n1))
                go_roundg k1
                case measure => have := HM.out; omega
                case rel => exact ⟨tt, k1, _, rfl, HLT.out, by have := HM.out; omega, Nat.le_refl _, HO, ⟨by rw [subV_length]; exact HXL.out⟩, HG, ⟨by rw [← HE.out, besideL_run HLX.out (by rw [HTE.out]; exact HDN.out), HTE.out]⟩⟩
      --END
    · have hltz : ¬ (fr : Int) < (n : Int) := by omega
      have e : x = besideV p q l := by rw [← HE.out, besideL_end (by rw [HXL.out]; exact hlt)]
      subst e
      go_wp2
      go_end0
      exact ⟨rfl, HO.out, HG.out⟩


end Go.Proofs.Ytojehfdioeglgaa.S
