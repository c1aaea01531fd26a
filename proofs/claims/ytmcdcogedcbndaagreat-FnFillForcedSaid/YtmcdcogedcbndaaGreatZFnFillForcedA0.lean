/- Of drawn letters, spans, a width and a way: a line that is too wide is one cluster; one that ends within a word ends with a cluster, and the word has no room on it; the lines are the reference's. No condition beyond the statement's own. (text 1 of 7 of this claim: functions of the program and of the reference as plain Lean functions, what a call of each comes to, and what follows.) -/
import Derived.Test.YtmcdcogedcbndaaGreatProg
import Derived.Test.YtmcdcogedcbndaaGreatZWWords
import Derived.Test.YtmcdcogedcbndaaGreatZWLast
import Derived.Test.YtmcdcogedcbndaaGreatZWTab
import Derived.Test.YtmcdcogedcbndaaGreatZWQPut
import Derived.Test.YtmcdcogedcbndaaGreatZWApart
import Derived.Test.YtmcdcogedcbndaaGreatZWArr
import Derived.Test.YtmcdcogedcbndaaGreatZWZeros
import Derived.Test.YtmcdcogedcbndaaGreatZWFoot
import Derived.Test.YtmcdcogedcbndaaGreatZWKept
import Derived.Test.YtmcdcogedcbndaaGreatZWShare
import Derived.Test.YtmcdcogedcbndaaGreatZWN
import Derived.Test.YtmcdcogedcbndaaGreatZWRepsOne
import Derived.Test.YtmcdcogedcbndaaGreatZWNEv
import Derived.Test.YtmcdcogedcbndaaGreatZWMore
import Derived.Below
import Derived.Deep.Draws
import Derived.Deep.AppendLies
import Derived.Maps.AppendAt
import Derived.OwnWalk
import Derived.Laws.BytesArg
import Derived.Laws.MakeOwn
import Derived.Laws.OwnMore
import Derived.Deep.OwnRows
import Derived.Tactics
import Derived.Lib.ConvBytes
import Derived.Laws.Slices
import Derived.WalkKit
import Derived.KernelRfl
import Derived.RowKit3
import Derived.Deep.LoopGhost
import Derived.Deep.QuietTactic
import Derived.BigQuiet
import Derived.WideLaws
import Derived.Deep.DeepCutAuto
import Derived.Deep.CutBlock
import Derived.Deep.RegionHeld3
import Derived.Laws.Rows
import Derived.Lib.AppendStr
import Derived.ArgAppend
import Derived.Laws.IdiomCopy
import Derived.OrdersHeld
import Derived.Laws.BitsLemmas
import Derived.RowKit
import Derived.Maps.Own
import Derived.Maps.OwnOps
import Derived.Maps.Views
import Derived.Shelf.Abstract
import Derived.BigRegion
import Derived.Deep.CutRange
import Derived.Deep.DeepMust
import Derived.Deep.RegionLaw
import Derived.LoopIn
import Derived.LoopNIn
import Derived.OwnWalkIn
import Derived.RangeFuncBound
import Derived.RangeFuncBox
import Derived.RangeFuncCalls
import Derived.RangeFuncFrom
import Derived.RangeFuncLeaves
import Derived.RangeFuncNested
import Derived.RegionTactic
import Derived.Shelf.RegionOpen
import Derived.TacticsInMore
import Derived.WalkArith
set_option maxHeartbeats 16000000
set_option maxRecDepth 100000
set_option linter.unusedVariables false
set_option linter.unusedSimpArgs false
namespace Go.Proofs.YtmcdcogedcbndaaGreat
set_option linter.unusedVariables false
theorem zB {p : Prop} (h : p := by first | rfl | (simp; done) | (simp [*]; done)) : p := h
theorem zD {p : Prop} (h : p := by repeat (first | exact Drawn0.refl _ | apply Drawn0.step)) : p := h
theorem zE {p q0 : Prop} (h0 : q0) (h : q0 → p := by intro zq0_; have := zq0_; omega) : p := h h0
theorem zC {p : Prop} (h : p := by (try simp only [List.map_toArray, List.map_cons, List.map_nil]); first | done | rfl) : p := h
theorem zA {p q0 : Prop} (h0 : q0) (h : q0 → p := by intro zq0_; repeat (first | (with_reducible first | exact zq0_ | apply below_alloc | apply pw_below_drewN | apply below_drew1) | exact zq0_)) : p := h h0
theorem zG {p : Prop} (h : p := by first | rfl | (simp [errW_none, errW_some] <;> rfl) | (simp [*, errW_none, errW_some] <;> rfl)) : p := h
theorem zK {p q0 q1 : Prop} (h0 : q0) (h1 : q1) (h : q0 → q1 → p := by intro zq0_ zq1_; repeat (first | (with_reducible first | exact zq0_ | apply below_alloc | apply pw_below_drewN | apply below_drew1 | refine below_set ?_ zq1_) | exact zq0_)) : p := h h0 h1
theorem zF {p q0 : Prop} (h0 : q0) (h : q0 → p := by intro zq0_; (with_reducible repeat (first | apply Kd.R_alloc | apply Kd.R_drewN | apply Kd.R_drew)); exact zq0_) : p := h h0
theorem zR {p q0 : Prop} (h0 : q0) (h : q0 → p := by intro zq0_; repeat (first | exact (Kd.R_reads' zq0_).2.2 | (with_reducible refine Kd.C_alloc ?_ _) | (with_reducible refine Kd.C_drewN ?_ _) | (with_reducible refine Kd.C_drew ?_))) : p := h h0
theorem zI {p : Prop} (h : p := by first | omega | exact Nat.le_refl _) : p := h
theorem zU {p : Prop} (h : p := by first | exact Kd.R_nil _ _ _ _ _ | exact Kd.N_nil _ _ _ _ _ | exact Kd.V_nil _ _ _ _ _ | exact Kd.Q_nil _ _ _ _ _ | exact Kd.S_nil _ _ _ _ _) : p := h
theorem zN {p q0 : Prop} (h0 : q0) (h : q0 → p := by intro zq0_; repeat (first | exact zq0_ | (with_reducible refine Kd.C_alloc ?_ _) | (with_reducible refine Kd.C_drewN ?_ _) | (with_reducible refine Kd.C_drew ?_))) : p := h h0
theorem zM {p q0 q1 : Prop} (h0 : q0) (h1 : q1) (h : q0 → q1 → p := by intro zq0_ zq1_; repeat (first | exact (Kd.C_below zq0_ zq1_) | (with_reducible refine Kd.C_alloc ?_ _) | (with_reducible refine Kd.C_drewN ?_ _) | (with_reducible refine Kd.C_drew ?_))) : p := h h0 h1
theorem zJ {p q0 : Prop} (h0 : q0) (h : q0 → p := by intro zq0_; have := zq0_; first | omega | exact Nat.le_refl _) : p := h h0
theorem zO {p q0 q1 : Prop} (h0 : q0) (h1 : q1) (h : q0 → q1 → p := by intro zq0_ zq1_; have := zq0_; have := zq1_; first | omega | exact Nat.le_refl _) : p := h h0 h1
theorem zS {p q0 q1 q2 : Prop} (h0 : q0) (h1 : q1) (h2 : q2) (h : q0 → q1 → q2 → p := by intro zq0_ zq1_ zq2_; have := zq0_; have := zq1_; have := zq2_; first | omega | exact Nat.le_refl _) : p := h h0 h1 h2
theorem zP {p q0 : Prop} (h0 : q0) (h : q0 → p := by intro zq0_; (with_reducible repeat (first | refine blk_drewN ?_ _ | refine blk_drew ?_ | refine blk_alloc ?_ _)); exact zq0_) : p := h h0
theorem zX {p q0 q1 q2 : Prop} (h0 : q0) (h1 : q1) (h2 : q2) (h : q0 → q1 → q2 → p := by intro zq0_ zq1_ zq2_; repeat (first | (with_reducible first | exact zq0_ | apply below_alloc | apply pw_below_drewN | apply below_drew1 | refine below_set ?_ zq1_ | refine below_set ?_ zq2_) | exact zq0_)) : p := h h0 h1 h2
theorem zQ {p q0 : Prop} (h0 : q0) (h : q0 → p := by intro zq0_; (with_reducible repeat (first | apply Kd.R_alloc | apply Kd.R_drewN | apply Kd.R_drew)); exact Kd.R_mono zq0_ (fun _ hk => hk.2)) : p := h h0
theorem zV {p q0 : Prop} (h0 : q0) (h : q0 → p := by intro zq0_; (with_reducible repeat (first | apply Kd.R_alloc | apply Kd.R_drewN | apply Kd.R_drew)); exact Kd.R_mono zq0_ (fun _ hk => ⟨trivial, hk⟩)) : p := h h0
theorem zH {p : Prop} (h : p := by with_reducible assumption) : p := h
theorem zL {p q0 q1 : Prop} (h0 : q0) (h1 : q1) (h : q0 → q1 → p := by intro zq0_ zq1_; have := zq0_; have := zq1_; omega) : p := h h0 h1
theorem zW {p q0 : Prop} (h0 : q0) (h : q0 → p := by intro zq0_; repeat (first | (with_reducible first | exact zq0_ | apply Kept.alloc | apply Kept.drewN | apply Kept.drew) | exact zq0_)) : p := h h0
theorem zT {p q0 q1 : Prop} (h0 : q0) (h1 : q1) (h : q0 → q1 → p := by intro zq0_ zq1_; repeat (first | (with_reducible first | exact zq0_ | apply below_alloc | apply pw_below_drewN | apply below_drew1 | refine below_set ?_ (IsS86.ge zq1_)) | exact zq0_)) : p := h h0 h1
end Go.Proofs.YtmcdcogedcbndaaGreat
namespace Go.Proofs.YtmcdcogedcbndaaGreat.S
open Go.RowKit Go.Proofs.YtmcdcogedcbndaaGreatW.PrintWords Go.Proofs.YtmcdcogedcbndaaGreatW.PrintLast
theorem az {p : Prop} (h : p) : Aside0 p := ⟨h⟩
set_option linter.unusedVariables false
set_option linter.unusedSimpArgs false
def errW : Option Int → Value
 | none => .nilIface
 | some c => .iface 0 (.int .i64 c)
theorem errW_none : errW none = .nilIface := rfl
theorem errW_some (c : Int) : errW (some c) = .iface 0 (.int .i64 c) := rfl
theorem info3 : (Tryz.prog.info? 3).map (fun i => (i.zero, i.size, i.bytes)) = some (some (.int .i64 0), 1, 8) := by kernel_rfl
theorem info4 : (Tryz.prog.info? 4).map (fun i => (i.zero, i.size, i.bytes)) = some (some (.bool false), 1, 1) := by kernel_rfl
theorem info5 : (Tryz.prog.info? 5).map (fun i => (i.zero, i.size, i.bytes)) = some (some (.int .u8 0), 1, 1) := by kernel_rfl
theorem info50 : (Tryz.prog.info? 50).map (fun i => (i.zero, i.size, i.bytes)) = some (some (.agg #[(.int .i64 0), (.int .i64 0), (.int .i64 0), (.int .i64 0)]), 4, 32) := by kernel_rfl
structure S52 where
 f0 : Int
 f1 : Int
 f2 : Int
 f3 : Int
structure S50 where
 f0 : Int
 f1 : Int
 f2 : Int
 f3 : Int
def z50 : S50 := ⟨(0 : Int), (0 : Int), (0 : Int), (0 : Int)⟩
def k50 : Kd S50 := Kd.iso (Kd.pair (Kd.int .i64) (Kd.pair (Kd.int .i64) (Kd.pair (Kd.int .i64) (Kd.int .i64)))) (fun x : S50 => (x.f0, x.f1, x.f2, x.f3))
theorem k50_open {w : World} {x : S50} {cs : List Value} (h : k50.K w x cs) : cs = [.int .i64 x.f0, .int .i64 x.f1, .int .i64 x.f2, .int .i64 x.f3] := by
 obtain ⟨_, _, rfl, rfl, ⟨_, _, rfl, rfl, ⟨_, _, rfl, rfl, rfl⟩⟩⟩ := h
 exact rfl
theorem k50_openM {w : World} {base : Nat} {ok : Nat → Prop} {x : S50} {cs : List Value} (h : k50.M w base ok x cs) : cs = [.int .i64 x.f0, .int .i64 x.f1, .int .i64 x.f2, .int .i64 x.f3] := by
 obtain ⟨_, _, rfl, rfl, ⟨_, _, rfl, rfl, ⟨_, _, rfl, rfl, rfl⟩⟩⟩ := h
 exact rfl
theorem k50_mkM (w : World) (base : Nat) (ok : Nat → Prop) (x : S50)  : k50.M w base ok x [.int .i64 x.f0, .int .i64 x.f1, .int .i64 x.f2, .int .i64 x.f3] := ⟨[.int .i64 x.f0], [.int .i64 x.f1, .int .i64 x.f2, .int .i64 x.f3], rfl, rfl, ⟨[.int .i64 x.f1], [.int .i64 x.f2, .int .i64 x.f3], rfl, rfl, ⟨[.int .i64 x.f2], [.int .i64 x.f3], rfl, rfl, rfl⟩⟩⟩
def rd_T50 (xs : List S50) (i : Int) : S50 := xs.getD i.toNat z50
theorem at_T50 {w : World} {A : Option Addr} {n : Nat} {xs : List S50} (h : Kd.C k50 w A n xs) (i : Int) (h0 : 0 ≤ i) (h1 : i < n) : ∃ ad , A = some ad ∧ w.cell? (ad.add (i.toNat * 4)) = some (.int .i64 (rd_T50 xs i).f0) ∧ w.cell? ⟨(ad.add (i.toNat * 4)).block, (ad.add (i.toNat * 4)).off + 1, none⟩ = some (.int .i64 (rd_T50 xs i).f1) ∧ w.cell? ⟨(ad.add (i.toNat * 4)).block, (ad.add (i.toNat * 4)).off + 2, none⟩ = some (.int .i64 (rd_T50 xs i).f2) ∧ w.cell? ⟨(ad.add (i.toNat * 4)).block, (ad.add (i.toNat * 4)).off + 3, none⟩ = some (.int .i64 (rd_T50 xs i).f3) := by
 obtain ⟨ad, c, e, _, hK, hc0⟩ := Kd.C_get h z50 i h0 h1
 have hc : ∀ j u, c[j]? = some u → w.cell? (ad.add (i.toNat * 4 + j)) = some u := hc0
 obtain rfl := k50_open hK
 exact ⟨ad, e, hc 0 _ rfl, by rw [← add_field _ _ 1 (by omega)]; exact hc 1 _ rfl, by rw [← add_field _ _ 2 (by omega)]; exact hc 2 _ rfl, by rw [← add_field _ _ 3 (by omega)]; exact hc 3 _ rfl⟩
structure S105 where
 f0 : Int
 f1 : Int
structure S120 where
 f0 : Int
 f1 : Int
 f2 : Int
def z120 : S120 := ⟨(0 : Int), (0 : Int), (0 : Int)⟩
def k120 : Kd S120 := Kd.iso (Kd.pair (Kd.int .i64) (Kd.pair (Kd.int .i64) (Kd.int .i64))) (fun x : S120 => (x.f0, x.f1, x.f2))
theorem k120_open {w : World} {x : S120} {cs : List Value} (h : k120.K w x cs) : cs = [.int .i64 x.f0, .int .i64 x.f1, .int .i64 x.f2] := by
 obtain ⟨_, _, rfl, rfl, ⟨_, _, rfl, rfl, rfl⟩⟩ := h
 exact rfl
theorem k120_mkM (w : World) (base : Nat) (ok : Nat → Prop) (x : S120)  : k120.M w base ok x [.int .i64 x.f0, .int .i64 x.f1, .int .i64 x.f2] := ⟨[.int .i64 x.f0], [.int .i64 x.f1, .int .i64 x.f2], rfl, rfl, ⟨[.int .i64 x.f1], [.int .i64 x.f2], rfl, rfl, rfl⟩⟩
def rd_T120 (xs : List S120) (i : Int) : S120 := xs.getD i.toNat z120
theorem at_T120 {w : World} {A : Option Addr} {n : Nat} {xs : List S120} (h : Kd.C k120 w A n xs) (i : Int) (h0 : 0 ≤ i) (h1 : i < n) : ∃ ad , A = some ad ∧ w.cell? (ad.add (i.toNat * 3)) = some (.int .i64 (rd_T120 xs i).f0) ∧ w.cell? ⟨(ad.add (i.toNat * 3)).block, (ad.add (i.toNat * 3)).off + 1, none⟩ = some (.int .i64 (rd_T120 xs i).f1) ∧ w.cell? ⟨(ad.add (i.toNat * 3)).block, (ad.add (i.toNat * 3)).off + 2, none⟩ = some (.int .i64 (rd_T120 xs i).f2) := by
 obtain ⟨ad, c, e, _, hK, hc0⟩ := Kd.C_get h z120 i h0 h1
 have hc : ∀ j u, c[j]? = some u → w.cell? (ad.add (i.toNat * 3 + j)) = some u := hc0
 obtain rfl := k120_open hK
 exact ⟨ad, e, hc 0 _ rfl, by rw [← add_field _ _ 1 (by omega)]; exact hc 1 _ rfl, by rw [← add_field _ _ 2 (by omega)]; exact hc 2 _ rfl⟩
def impl_isLetter.f (a0 : Int) : Option (Bool) := if a0 ≥ 0 then (if a0 ≤ 1114111 then (if a0 < 55296 then (some true) else (some (decide (a0 > 57343)))) else (some false)) else (some false)
theorem impl_isLetter.calls (a0 : Int) (r : Bool) (w : World) (h : impl_isLetter.f a0 = some r) :
  Calls Tryz.prog 77 #[.int .i64 a0] w fun e w' => e = .returned (.bool r) ∧ Drawn0 w w' := by
 have H : (if a0 ≥ 0 then (if a0 ≤ 1114111 then (if a0 < 55296 then (some true) else (some (decide (a0 > 57343)))) else (some false)) else (some false)) = some r := h
 clear h
 by_cases c2 : a0 ≥ 0
 ·
  rw [if_pos c2] at H
  have c2b0 : decide (0 ≤ a0) = true := decide_eq_true c2
  clear c2
  by_cases c3 : a0 ≤ 1114111
  ·
   rw [if_pos c3] at H
   have c3b0 : decide (a0 ≤ 1114111) = true := decide_eq_true c3
   clear c3
   by_cases c4 : a0 < 55296
   ·
    rw [if_pos c4] at H
    have c4b0 : decide (a0 < 55296) = true := decide_eq_true c4
    clear c4
    obtain rfl := Option.some.inj H
    go_enter Tryz.func77, Tryz.ntmps77
    go_wp2
    go_ret
    exact ⟨zB, zD⟩
   ·
    rw [if_neg c4] at H
    have c4b0 : decide (a0 < 55296) = false := decide_eq_false c4
    clear c4
    obtain rfl := Option.some.inj H
    go_enter Tryz.func77, Tryz.ntmps77
    go_wp2
    go_ret
    exact ⟨zB, zD⟩
  ·
   rw [if_neg c3] at H
   have c3b0 : decide (a0 ≤ 1114111) = false := decide_eq_false c3
   clear c3
   obtain rfl := Option.some.inj H
   go_enter Tryz.func77, Tryz.ntmps77
   go_wp2
   go_ret
   exact ⟨zB, zD⟩
 ·
  rw [if_neg c2] at H
  have c2b0 : decide (0 ≤ a0) = false := decide_eq_false c2
  clear c2
  obtain rfl := Option.some.inj H
  go_enter Tryz.func77, Tryz.ntmps77
  go_wp2
  go_ret
  exact ⟨zB, zD⟩
def idxI (p : Int → Bool) (l : List Int) : Int := if l.any p then (l.findIdx p : Int) else -1
theorem idxI_hit {p : Int → Bool} {l : List Int} {k : Nat} (hk : k < l.length) (hp : p (l.getD k 0) = true) (hb : ∀ j, j < k → p (l.getD j 0) = false) : idxI p l = k := by
 have hm : l.getD k 0 = l[k] := by simp [List.getD_eq_getElem?_getD, hk]
 have ha : l.any p = true := List.any_eq_true.2 ⟨l[k], List.getElem_mem hk, by rw [← hm]; exact hp⟩
 have hf : l.findIdx p = k := by
  rw [List.findIdx_eq hk]
  refine ⟨by rw [← hm]; exact hp, fun j hj => ?_⟩
  have := hb j hj
  simpa [List.getD_eq_getElem?_getD, show j < l.length by omega] using this
 rw [idxI, if_pos ha, hf]
theorem idxI_miss {p : Int → Bool} {l : List Int} (hb : ∀ j, j < l.length → p (l.getD j 0) = false) : idxI p l = -1 := by
 have ha : ¬ l.any p = true := by
  rw [List.any_eq_true]
  rintro ⟨x, hx, hp⟩
  obtain ⟨j, hj, rfl⟩ := List.getElem_of_mem hx
  have := hb j hj
  simp [List.getD_eq_getElem?_getD, hj] at this
  rw [this] at hp
  cases hp
 rw [idxI, if_neg ha]
theorem idxI_nonneg (p : Int → Bool) (l : List Int) : decide (0 ≤ idxI p l) = l.any p := by
 unfold idxI
 cases l.any p <;> simp <;> omega
theorem idxI_calls (p : Int → Bool) (g : Nat) (lb : Array Value) (eg : ∀ args w, (callFunc g args).run Tryz.prog w = .ok (.enter g args) w) (A0 : Option Addr) (c0 : Nat) (l0 : List Int) (w : World) (hr0 : Kd.C (Kd.int .i64) w A0 l0.length l0)
  (hn : l0.length ≤ 9223372036854775806) (hp : ∀ W, Below w.heap.size w W → ∀ j, j < l0.length → Calls Tryz.prog g (#[.int .i64 (l0.getD j 0)] ++ lb) W fun e w' => e = .returned (.bool (p (l0.getD j 0))) ∧ Below w.heap.size w w') :
  Calls Tryz.prog 88 #[.slice A0 l0.length c0, .func (.func g) #[] lb] w fun e w' => e = .returned (.int .i64 (idxI p l0)) ∧ Below w.heap.size w w' := by
 have HR0 := az hr0
 have HP := az hp
 clear hr0 hp
 go_enter Tryz.func88, Tryz.ntmps88
 go_wp2
 go_loopg [5, 8] l0.length (fun gg _ s8 wr => ∃ kk : Nat, kk ≤ l0.length ∧ l0.length - kk ≤ gg ∧ s8 = .int .i64 kk ∧ Aside0 (Below w.heap.size w wr) ∧ Aside0 (∀ j, j < kk → p (l0.getD j 0) = false))
 case atStart => exact ⟨0, Nat.zero_le _, by omega, rfl, ⟨Below.refl _ w⟩, ⟨fun j hj => absurd hj (Nat.not_lt_zero _)⟩⟩
 case round =>
  obtain ⟨kk, hkk, hg, rfl, HB, HA⟩ := hrel
  by_cases hlt : kk < l0.length
  ·
   have hltz : (kk : Int) < (l0.length : Int) := by omega
   obtain ⟨ad, rfl, hx⟩ := Kd.at_int HR0.out (kk : Int) (by omega) hltz
   replace hx := (HB.out.cell (World.block_lt_of_cell? w _ hx)).trans hx
   have hcall := HP.out wr HB.out kk hlt
   simp only [rd, Int.toNat_natCast] at hx
   generalize hy : l0.getD kk 0 = y at hx hcall
   have HY := az hy
   clear hy
   cases hq : p y with
   | true =>
    have HQ := az hq
    rw [hq] at hcall
    clear hq
    go_wp2_with (go_at_fn g; refine hcall.mono ?_; rintro e w' ⟨rfl, hb'⟩)
    go_ret
    refine ⟨?_, hb'⟩
    rw [idxI_hit hlt (by rw [HY.out]; exact HQ.out) HA.out]
    rfl
   | false =>
    have HQ := az hq
    rw [hq] at hcall
    clear hq
    go_wp2_with (go_at_fn g; refine hcall.mono ?_; rintro e w' ⟨rfl, hb'⟩)
    go_roundg (l0.length - (kk + 1))
    case measure => omega
    case rel =>
     refine ⟨kk + 1, by omega, by omega, by go_num, ⟨hb'⟩, ⟨fun j hj => ?_⟩⟩
     by_cases e : j = kk
     ·
      subst e
      rw [HY.out]; exact HQ.out
     · exact HA.out j (by omega)
  ·
   have hltz : ¬ (kk : Int) < (l0.length : Int) := by omega
   have hk : kk = l0.length := by omega
   subst hk
   go_wp2
   go_ret
   refine ⟨?_, HB.out⟩
   rw [idxI_miss HA.out]
   rfl
def isLetV (r : Int) : Bool := decide (0 ≤ r) && decide (r ≤ 1114111) && (decide (r < 55296) || decide (57343 < r))
theorem isLet_f (r : Int) : impl_isLetter.f r = some (isLetV r) := by
 unfold impl_isLetter.f isLetV
 by_cases h0 : 0 ≤ r
 ·
  by_cases h1 : r ≤ 1114111
  ·
   by_cases h2 : r < 55296
   · simp [h0, h1, h2]
   · simp [h0, h1, h2]
  · simp [h0, h1]
 · simp [h0]
theorem hasI_calls (p : Int → Bool) (g : Nat) (lb : Array Value) (eg : ∀ args w, (callFunc g args).run Tryz.prog w = .ok (.enter g args) w) (A0 : Option Addr) (c0 : Nat) (l0 : List Int) (w : World) (hr0 : Kd.C (Kd.int .i64) w A0 l0.length l0)
  (hn : l0.length ≤ 9223372036854775806) (hp : ∀ W, Below w.heap.size w W → ∀ j, j < l0.length → Calls Tryz.prog g (#[.int .i64 (l0.getD j 0)] ++ lb) W fun e w' => e = .returned (.bool (p (l0.getD j 0))) ∧ Below w.heap.size w w') :
  Calls Tryz.prog 56 #[.slice A0 l0.length c0, .func (.func g) #[] lb] w fun e w' => e = .returned (.bool (l0.any p)) ∧ Below w.heap.size w w' := by
 rw [← idxI_nonneg]
 go_enter Tryz.func56, Tryz.ntmps56
 go_wp2_with (go_at_call 88; refine (idxI_calls p g lb eg A0 c0 l0 _ hr0 hn hp).mono ?_; rintro e w' ⟨rfl, hb'⟩)
 go_ret
 exact ⟨rfl, hb'⟩
def okV (l : List Int) : Bool := decide (l.length ≤ 80) && l.all isLetV
def impl_lettersOk.f (l0 : List Int) : Option Bool := some (okV l0)
theorem lettersOk_1_calls (x : Int) (W : World) : Calls Tryz.prog 76 #[.int .i64 x] W fun e w' => e = .returned (.bool (!isLetV x)) ∧ Drawn0 W w' := by
 go_enter Tryz.func76, Tryz.ntmps76
 go_wp2_with (go_at_call 77; refine (impl_isLetter.calls x (isLetV x) _ (isLet_f x)).mono ?_; rintro e w' ⟨rfl, ⟨nd, rfl⟩⟩)
 go_ret
 exact ⟨rfl, Drawn0.step (Drawn0.refl _) _⟩
theorem impl_lettersOk.calls (A0 : Option Addr) (c0 : Nat) (l0 : List Int) (r : Bool) (w : World) (hr0 : Kd.C (Kd.int .i64) w A0 l0.length l0) (hc0 : l0.length ≤ c0) (h : impl_lettersOk.f l0 = some r) :
  Calls Tryz.prog 48 #[.slice A0 l0.length c0] w fun e w' => e = .returned (.bool r) ∧ Below w.heap.size w w' := by
 obtain rfl := Option.some.inj h
 clear h
 by_cases hl : l0.length ≤ 80
 ·
  have hd : decide ((l0.length : Int) ≤ 80) = true := decide_eq_true (by omega)
  have e : okV l0 = !(l0.any fun x => !isLetV x) := by simp [okV, hl, List.all_eq_not_any_not]
  have HE := az e
  have HL := az hl
  clear e hl
  go_enter Tryz.func48, Tryz.ntmps48
  go_wp2_with (go_at_call 56; refine (hasI_calls (fun x => !isLetV x) 76 #[] (fun _ _ => by first | rfl | (go_simp; done)) A0 c0 l0 _ hr0 (zE HL.out) (fun W hb j hj => ((lettersOk_1_calls _ W).mono fun _ _ ⟨he, hd⟩ => ⟨he, hb.trans (hd.below.mono hb.size)⟩))).mono ?_; rintro e w' ⟨rfl, hb'⟩)
  go_ret
  exact ⟨by rw [HE.out]; rfl, hb'⟩
 ·
  have hd : decide ((l0.length : Int) ≤ 80) = false := decide_eq_false (by omega)
  have e : okV l0 = false := by simp [okV, hl]
  have HE := az e
  clear e hl
  go_enter Tryz.func48, Tryz.ntmps48
  go_wp2
  go_ret
  exact ⟨by rw [HE.out]; rfl, Below.refl _ _⟩
def cmp_isNaN_int.f (a0 : Int) : Option (Bool) := some (a0 != a0)
theorem cmp_isNaN_int.calls (a0 : Int) (r : Bool) (w : World) (h : cmp_isNaN_int.f a0 = some r) :
  Calls Tryz.prog 142 #[.int .i64 a0] w fun e w' => e = .returned (.bool r) ∧ Drawn0 w w' := by
 have H : (some (a0 != a0)) = some r := h
 clear h
 obtain rfl := Option.some.inj H
 go_enter Tryz.func142, Tryz.ntmps142
 go_wp2
 go_ret
 exact ⟨zB, zD⟩
def cmp_Compare_int.f (a0 : Int) (a1 : Int) : Option (Int) := (cmp_isNaN_int.f a0).bind fun t268 => ((cmp_isNaN_int.f a1).bind fun t269 => (if t268 = true then (if t269 = true then (some 0) else (some (-1))) else (if t269 = true then (some 1) else (if a0 < a1 then (some (-1)) else (if a0 > a1 then (some 1) else (some 0))))))
theorem cmp_Compare_int.calls (a0 : Int) (a1 : Int) (r : Int) (w : World) (h : cmp_Compare_int.f a0 a1 = some r) :
  Calls Tryz.prog 135 #[.int .i64 a0, .int .i64 a1] w fun e w' => e = .returned (.int .i64 r) ∧ Drawn0 w w' := by
 have H : ((cmp_isNaN_int.f a0).bind fun t268 => ((cmp_isNaN_int.f a1).bind fun t269 => (if t268 = true then (if t269 = true then (some 0) else (some (-1))) else (if t269 = true then (some 1) else (if a0 < a1 then (some (-1)) else (if a0 > a1 then (some 1) else (some 0))))))) = some r := h; clear h; replace H := Option.bind_eq_some_iff.mp H; obtain ⟨t268, A30, H⟩ := H; replace H : ((cmp_isNaN_int.f a1).bind fun t269 => (if t268 = true then (if t269 = true then (some 0) else (some (-1))) else (if t269 = true then (some 1) else (if a0 < a1 then (some (-1)) else (if a0 > a1 then (some 1) else (some 0)))))) = some r := H; have A3 := az A30; clear A30; replace H := Option.bind_eq_some_iff.mp H; obtain ⟨t269, A40, H⟩ := H; replace H : (if t268 = true then (if t269 = true then (some 0) else (some (-1))) else (if t269 = true then (some 1) else (if a0 < a1 then (some (-1)) else (if a0 > a1 then (some 1) else (some 0))))) = some r := H; have A4 := az A40; clear A40; by_cases c5 : t268 = true
 ·
  subst c5; have H1 : (if t269 = true then (some 0) else (some (-1))) = some r := by rw [if_pos rfl] at H; exact H
  clear H; have H := H1; clear H1; by_cases c6 : t269 = true
  ·
   subst c6; have H1 : (some 0) = some r := by rw [if_pos rfl] at H; exact H
   clear H; have H := H1; clear H1; obtain rfl := Option.some.inj H; go_enter Tryz.func135, Tryz.ntmps135; go_wp2_with (first | ((with_reducible refine gate_callee (f := 142) rfl ?_); refine goesL_ (some 8) rfl rfl Tryz.func142 (by kernel_rfl) rfl #[.int .i64 a0] rfl zC ?_; (with_reducible refine (cmp_isNaN_int.calls a0 true _ A3.out).mono ?_); rintro e w' ⟨rfl, ⟨nd, rfl⟩⟩; refine ⟨_, rfl, ?_⟩) | ((with_reducible refine gate_callee (f := 142) rfl ?_); refine goesL_ (some 10) rfl rfl Tryz.func142 (by kernel_rfl) rfl #[.int .i64 a1] rfl zC ?_; (with_reducible refine (cmp_isNaN_int.calls a1 true _ A4.out).mono ?_); rintro e w' ⟨rfl, ⟨nd, rfl⟩⟩; refine ⟨_, rfl, ?_⟩)); go_ret; exact ⟨zB, zD⟩
  ·
   replace c6 := Bool.eq_false_iff.mpr c6; subst c6; have H1 : (some (-1)) = some r := by rw [if_neg (show ¬ (false = true) by decide)] at H; exact H
   clear H; have H := H1; clear H1; obtain rfl := Option.some.inj H; go_enter Tryz.func135, Tryz.ntmps135; go_wp2_with (first | ((with_reducible refine gate_callee (f := 142) rfl ?_); refine goesL_ (some 8) rfl rfl Tryz.func142 (by kernel_rfl) rfl #[.int .i64 a0] rfl zC ?_; (with_reducible refine (cmp_isNaN_int.calls a0 true _ A3.out).mono ?_); rintro e w' ⟨rfl, ⟨nd, rfl⟩⟩; refine ⟨_, rfl, ?_⟩) | ((with_reducible refine gate_callee (f := 142) rfl ?_); refine goesL_ (some 10) rfl rfl Tryz.func142 (by kernel_rfl) rfl #[.int .i64 a1] rfl zC ?_; (with_reducible refine (cmp_isNaN_int.calls a1 false _ A4.out).mono ?_); rintro e w' ⟨rfl, ⟨nd, rfl⟩⟩; refine ⟨_, rfl, ?_⟩)); go_ret; exact ⟨zB, zD⟩
 ·
  replace c5 := Bool.eq_false_iff.mpr c5; subst c5; have H1 : (if t269 = true then (some 1) else (if a0 < a1 then (some (-1)) else (if a0 > a1 then (some 1) else (some 0)))) = some r := by rw [if_neg (show ¬ (false = true) by decide)] at H; exact H
  clear H; have H := H1; clear H1; by_cases c7 : t269 = true
  ·
   subst c7; have H1 : (some 1) = some r := by rw [if_pos rfl] at H; exact H
   clear H; have H := H1; clear H1; obtain rfl := Option.some.inj H; go_enter Tryz.func135, Tryz.ntmps135; go_wp2_with (first | ((with_reducible refine gate_callee (f := 142) rfl ?_); refine goesL_ (some 8) rfl rfl Tryz.func142 (by kernel_rfl) rfl #[.int .i64 a0] rfl zC ?_; (with_reducible refine (cmp_isNaN_int.calls a0 false _ A3.out).mono ?_); rintro e w' ⟨rfl, ⟨nd, rfl⟩⟩; refine ⟨_, rfl, ?_⟩) | ((with_reducible refine gate_callee (f := 142) rfl ?_); refine goesL_ (some 10) rfl rfl Tryz.func142 (by kernel_rfl) rfl #[.int .i64 a1] rfl zC ?_; (with_reducible refine (cmp_isNaN_int.calls a1 true _ A4.out).mono ?_); rintro e w' ⟨rfl, ⟨nd, rfl⟩⟩; refine ⟨_, rfl, ?_⟩)); go_ret; exact ⟨zB, zD⟩
  ·
   replace c7 := Bool.eq_false_iff.mpr c7; subst c7; have H1 : (if a0 < a1 then (some (-1)) else (if a0 > a1 then (some 1) else (some 0))) = some r := by rw [if_neg (show ¬ (false = true) by decide)] at H; exact H
   clear H; have H := H1; clear H1; by_cases c8 : a0 < a1
   ·
    rw [if_pos c8] at H; have c8b0 : decide (a0 < a1) = true := decide_eq_true c8; clear c8; obtain rfl := Option.some.inj H; go_enter Tryz.func135, Tryz.ntmps135; go_wp2_with (first | ((with_reducible refine gate_callee (f := 142) rfl ?_); refine goesL_ (some 8) rfl rfl Tryz.func142 (by kernel_rfl) rfl #[.int .i64 a0] rfl zC ?_; (with_reducible refine (cmp_isNaN_int.calls a0 false _ A3.out).mono ?_); rintro e w' ⟨rfl, ⟨nd, rfl⟩⟩; refine ⟨_, rfl, ?_⟩) | ((with_reducible refine gate_callee (f := 142) rfl ?_); refine goesL_ (some 10) rfl rfl Tryz.func142 (by kernel_rfl) rfl #[.int .i64 a1] rfl zC ?_; (with_reducible refine (cmp_isNaN_int.calls a1 false _ A4.out).mono ?_); rintro e w' ⟨rfl, ⟨nd, rfl⟩⟩; refine ⟨_, rfl, ?_⟩)); go_ret; exact ⟨zB, zD⟩
   ·
    rw [if_neg c8] at H; have c8b0 : decide (a0 < a1) = false := decide_eq_false c8; clear c8; by_cases c9 : a0 > a1
    ·
     rw [if_pos c9] at H; have c9b0 : decide (a1 < a0) = true := decide_eq_true c9; clear c9; obtain rfl := Option.some.inj H; go_enter Tryz.func135, Tryz.ntmps135; go_wp2_with (first | ((with_reducible refine gate_callee (f := 142) rfl ?_); refine goesL_ (some 8) rfl rfl Tryz.func142 (by kernel_rfl) rfl #[.int .i64 a0] rfl zC ?_; (with_reducible refine (cmp_isNaN_int.calls a0 false _ A3.out).mono ?_); rintro e w' ⟨rfl, ⟨nd, rfl⟩⟩; refine ⟨_, rfl, ?_⟩) | ((with_reducible refine gate_callee (f := 142) rfl ?_); refine goesL_ (some 10) rfl rfl Tryz.func142 (by kernel_rfl) rfl #[.int .i64 a1] rfl zC ?_; (with_reducible refine (cmp_isNaN_int.calls a1 false _ A4.out).mono ?_); rintro e w' ⟨rfl, ⟨nd, rfl⟩⟩; refine ⟨_, rfl, ?_⟩)); go_ret; exact ⟨zB, zD⟩
    ·
     rw [if_neg c9] at H; have c9b0 : decide (a1 < a0) = false := decide_eq_false c9; clear c9; obtain rfl := Option.some.inj H; go_enter Tryz.func135, Tryz.ntmps135; go_wp2_with (first | ((with_reducible refine gate_callee (f := 142) rfl ?_); refine goesL_ (some 8) rfl rfl Tryz.func142 (by kernel_rfl) rfl #[.int .i64 a0] rfl zC ?_; (with_reducible refine (cmp_isNaN_int.calls a0 false _ A3.out).mono ?_); rintro e w' ⟨rfl, ⟨nd, rfl⟩⟩; refine ⟨_, rfl, ?_⟩) | ((with_reducible refine gate_callee (f := 142) rfl ?_); refine goesL_ (some 10) rfl rfl Tryz.func142 (by kernel_rfl) rfl #[.int .i64 a1] rfl zC ?_; (with_reducible refine (cmp_isNaN_int.calls a1 false _ A4.out).mono ?_); rintro e w' ⟨rfl, ⟨nd, rfl⟩⟩; refine ⟨_, rfl, ?_⟩)); go_ret; exact ⟨zB, zD⟩
def impl_find_1.f (a0_0 : Int) (a0_1 : Int) (a0_2 : Int) (a1 : Int) : Option (Int) := if a1 ≥ a0_0 then (if a1 ≤ a0_1 then (some 0) else ((cmp_Compare_int.f a0_0 a1).bind fun t271 => (some t271))) else ((cmp_Compare_int.f a0_0 a1).bind fun t272 => (some t272))
theorem impl_find_1.calls (a0_0 : Int) (a0_1 : Int) (a0_2 : Int) (a1 : Int) (r : Int) (w : World) (h : impl_find_1.f a0_0 a0_1 a0_2 a1 = some r) :
  Calls Tryz.prog 134 #[.agg #[.int .i64 a0_0, .int .i64 a0_1, .int .i64 a0_2], .int .i64 a1] w fun e w' => e = .returned (.int .i64 r) ∧ Below w.heap.size w w' := by
 have hu120 := Tryz.underlying120; have HB := az (Below.refl w.heap.size w); have H : (if a1 ≥ a0_0 then (if a1 ≤ a0_1 then (some 0) else ((cmp_Compare_int.f a0_0 a1).bind fun t271 => (some t271))) else ((cmp_Compare_int.f a0_0 a1).bind fun t272 => (some t272))) = some r := h; clear h; by_cases c3 : a1 ≥ a0_0
 ·
  rw [if_pos c3] at H; have c3b0 : decide (a0_0 ≤ a1) = true := decide_eq_true c3; clear c3; by_cases c4 : a1 ≤ a0_1
  ·
   rw [if_pos c4] at H; have c4b0 : decide (a1 ≤ a0_1) = true := decide_eq_true c4; clear c4; obtain rfl := Option.some.inj H; go_enter Tryz.func134, Tryz.ntmps134; go_wp2_with (first | ((with_reducible refine gate_dst (N := 2) rfl ?_); refine box_event ?hg (N := 2) ?hd (cs := #[.int .i64 a0_0, .int .i64 a0_1, .int .i64 a0_2]) (t := 120) ?hr ?_; (case hd => rfl); (case hg => rfl); (case hr => first | (go_simp; done) | (go_simp; rfl)); intro gb270 hg w5 hbox hb; have n0_ := az (below_step (zA HB.out) hb); have n1_ := az (hbox); have n2_ := az ((by rw [hg]; exact (below_size (zA HB.out)) : w.heap.size ≤ gb270)); have n3_ := az ((by rw [hg]; exact (below_size (zA HB.out)) : w.heap.size ≤ gb270)); clear HB; have HB := n0_; have BK270 := n1_; have GW270 := n2_; have GE270 := n3_; clear n0_ n1_ n2_ n3_; clear hb hbox hg; have hcz6_0 : w5.cell? ⟨gb270, 0, none⟩ = some (.int .i64 a0_0) := (blk_cell BK270.out 0).trans rfl; have hcz6_1 : w5.cell? ⟨gb270, 1, none⟩ = some (.int .i64 a0_1) := (blk_cell BK270.out 1).trans rfl; have hcz6_2 : w5.cell? ⟨gb270, 2, none⟩ = some (.int .i64 a0_2) := (blk_cell BK270.out 2).trans rfl; have hfz6_0 := blk_frozen BK270.out 0; have hfz6_1 := blk_frozen BK270.out 1; have hfz6_2 := blk_frozen BK270.out 2)); go_ret; exact ⟨zG, zK HB.out GE270.out⟩
  ·
   rw [if_neg c4] at H; have c4b0 : decide (a1 ≤ a0_1) = false := decide_eq_false c4; clear c4; replace H := Option.bind_eq_some_iff.mp H; obtain ⟨t271, A70, H⟩ := H; replace H : (some t271) = some r := H; have A7 := az A70; clear A70; obtain rfl := Option.some.inj H; go_enter Tryz.func134, Tryz.ntmps134; go_wp2_with (first | ((with_reducible refine gate_dst (N := 2) rfl ?_); refine box_event ?hg (N := 2) ?hd (cs := #[.int .i64 a0_0, .int .i64 a0_1, .int .i64 a0_2]) (t := 120) ?hr ?_; (case hd => rfl); (case hg => rfl); (case hr => first | (go_simp; done) | (go_simp; rfl)); intro gb270 hg w8 hbox hb; have n0_ := az (below_step (zA HB.out) hb); have n1_ := az (hbox); have n2_ := az ((by rw [hg]; exact (below_size (zA HB.out)) : w.heap.size ≤ gb270)); have n3_ := az ((by rw [hg]; exact (below_size (zA HB.out)) : w.heap.size ≤ gb270)); clear HB; have HB := n0_; have BK270 := n1_; have GW270 := n2_; have GE270 := n3_; clear n0_ n1_ n2_ n3_; clear hb hbox hg; have hcz9_0 : w8.cell? ⟨gb270, 0, none⟩ = some (.int .i64 a0_0) := (blk_cell BK270.out 0).trans rfl; have hcz9_1 : w8.cell? ⟨gb270, 1, none⟩ = some (.int .i64 a0_1) := (blk_cell BK270.out 1).trans rfl; have hcz9_2 : w8.cell? ⟨gb270, 2, none⟩ = some (.int .i64 a0_2) := (blk_cell BK270.out 2).trans rfl; have hfz9_0 := blk_frozen BK270.out 0; have hfz9_1 := blk_frozen BK270.out 1; have hfz9_2 := blk_frozen BK270.out 2) | ((with_reducible refine gate_callee (f := 135) rfl ?_); refine goesL_ (some 18) rfl rfl Tryz.func135 (by kernel_rfl) rfl #[.int .i64 a0_0, .int .i64 a1] rfl zC ?_; (with_reducible refine (cmp_Compare_int.calls a0_0 a1 t271 _ A7.out).mono ?_); rintro e w' ⟨rfl, ⟨nd, rfl⟩⟩; refine ⟨_, rfl, ?_⟩)); go_ret; exact ⟨zG, zK HB.out GE270.out⟩
 ·
  rw [if_neg c3] at H; have c3b0 : decide (a0_0 ≤ a1) = false := decide_eq_false c3; clear c3; replace H := Option.bind_eq_some_iff.mp H; obtain ⟨t272, A100, H⟩ := H; replace H : (some t272) = some r := H; have A10 := az A100; clear A100; obtain rfl := Option.some.inj H; go_enter Tryz.func134, Tryz.ntmps134; go_wp2_with (first | ((with_reducible refine gate_dst (N := 2) rfl ?_); refine box_event ?hg (N := 2) ?hd (cs := #[.int .i64 a0_0, .int .i64 a0_1, .int .i64 a0_2]) (t := 120) ?hr ?_; (case hd => rfl); (case hg => rfl); (case hr => first | (go_simp; done) | (go_simp; rfl)); intro gb270 hg w11 hbox hb; have n0_ := az (below_step (zA HB.out) hb); have n1_ := az (hbox); have n2_ := az ((by rw [hg]; exact (below_size (zA HB.out)) : w.heap.size ≤ gb270)); have n3_ := az ((by rw [hg]; exact (below_size (zA HB.out)) : w.heap.size ≤ gb270)); clear HB; have HB := n0_; have BK270 := n1_; have GW270 := n2_; have GE270 := n3_; clear n0_ n1_ n2_ n3_; clear hb hbox hg; have hcz12_0 : w11.cell? ⟨gb270, 0, none⟩ = some (.int .i64 a0_0) := (blk_cell BK270.out 0).trans rfl; have hcz12_1 : w11.cell? ⟨gb270, 1, none⟩ = some (.int .i64 a0_1) := (blk_cell BK270.out 1).trans rfl; have hcz12_2 : w11.cell? ⟨gb270, 2, none⟩ = some (.int .i64 a0_2) := (blk_cell BK270.out 2).trans rfl; have hfz12_0 := blk_frozen BK270.out 0; have hfz12_1 := blk_frozen BK270.out 1; have hfz12_2 := blk_frozen BK270.out 2) | ((with_reducible refine gate_callee (f := 135) rfl ?_); refine goesL_ (some 18) rfl rfl Tryz.func135 (by kernel_rfl) rfl #[.int .i64 a0_0, .int .i64 a1] rfl zC ?_; (with_reducible refine (cmp_Compare_int.calls a0_0 a1 t272 _ A10.out).mono ?_); rintro e w' ⟨rfl, ⟨nd, rfl⟩⟩; refine ⟨_, rfl, ?_⟩)); go_ret; exact ⟨zG, zK HB.out GE270.out⟩
def cmpR (x : S120) (r : Int) : Int := if x.f0 ≤ r ∧ r ≤ x.f1 then 0 else if x.f0 < r then -1 else if r < x.f0 then 1 else 0
def bsR (l : List S120) (r : Int) : Nat → Nat → Nat → Nat
 | 0, lo, _ => lo
 | k + 1, lo, hi => if lo < hi then (if cmpR (l.getD ((lo + hi) / 2) z120) r < 0 then bsR l r k ((lo + hi) / 2 + 1) hi else bsR l r k lo ((lo + hi) / 2)) else lo
theorem bsR_end (l : List S120) (r : Int) (k lo : Nat) : bsR l r k lo lo = lo := by cases k <;> simp [bsR]
theorem bsR_lt {l : List S120} {r : Int} {k lo hi : Nat} (h : lo < hi) (hc : cmpR (l.getD ((lo + hi) / 2) z120) r < 0) : bsR l r (k + 1) lo hi = bsR l r k ((lo + hi) / 2 + 1) hi := by
 rw [bsR, if_pos h, if_pos hc]
theorem bsR_ge {l : List S120} {r : Int} {k lo hi : Nat} (h : lo < hi) (hc : ¬ cmpR (l.getD ((lo + hi) / 2) z120) r < 0) : bsR l r (k + 1) lo hi = bsR l r k lo ((lo + hi) / 2) := by
 rw [bsR, if_pos h, if_neg hc]
theorem bsR_more (l : List S120) (r : Int) : ∀ (k k' lo hi : Nat), hi - lo ≤ k → hi - lo ≤ k' → bsR l r k lo hi = bsR l r k' lo hi
 | 0, 0, _, _, _, _ => rfl
 | 0, k' + 1, lo, hi, h, _ => by rw [bsR, bsR, if_neg (by omega)]
 | k + 1, 0, lo, hi, _, h => by rw [bsR, bsR, if_neg (by omega)]
 | k + 1, k' + 1, lo, hi, h, h' => by
  rw [bsR, bsR]
  by_cases hlt : lo < hi
  · rw [if_pos hlt, if_pos hlt, bsR_more l r k k' ((lo + hi) / 2 + 1) hi (by omega) (by omega), bsR_more l r k k' lo ((lo + hi) / 2) (by omega) (by omega)]
  · rw [if_neg hlt, if_neg hlt]
theorem cmpC_f (a b : Int) : cmp_Compare_int.f a b = some (if a < b then -1 else if b < a then 1 else 0) := by
 simp only [cmp_Compare_int.f, cmp_isNaN_int.f, Option.bind_some, bne_self_eq_false, Bool.false_eq_true, if_false, gt_iff_lt]
 split
 · rfl
 · split <;> rfl
theorem cmpR_f (x : S120) (r : Int) : impl_find_1.f x.f0 x.f1 x.f2 r = some (cmpR x r) := by
 simp only [impl_find_1.f, cmpR, cmpC_f, Option.bind_some, ge_iff_le]
 by_cases h0 : x.f0 ≤ r
 ·
  by_cases h1 : r ≤ x.f1
  · simp [h0, h1]
  · simp [h0, h1]
 · simp [h0]
theorem bsR_calls (A0 : Option Addr) (c0 : Nat) (l0 : List S120) (a1 : Int) (w : World) (hr0 : Kd.C k120 w A0 l0.length l0) (hn : l0.length ≤ 1000) :
  Calls Tryz.prog 133 #[.slice A0 l0.length c0, .int .i64 a1, .func (.func 134) #[] #[]] w fun e w' =>
   e = .returned (.tuple #[.int .i64 (bsR l0 a1 l0.length 0 l0.length : Nat), .bool (decide (bsR l0 a1 l0.length 0 l0.length < l0.length) && decide (cmpR (l0.getD (bsR l0 a1 l0.length 0 l0.length) z120) a1 = 0))]) ∧ Below w.heap.size w w' := by
 have HR0 := az hr0
 clear hr0
 go_enter Tryz.func133, Tryz.ntmps133
 go_wp2
 go_loopg [9, 10] l0.length (fun kx s9 s10 wr => ∃ lo hi : Nat, s9 = .int .i64 lo ∧ s10 = .int .i64 hi ∧ lo ≤ hi ∧ hi ≤ l0.length ∧ hi - lo ≤ kx ∧ Aside0 (Below w.heap.size w wr) ∧ Aside0 (bsR l0 a1 (hi - lo) lo hi = bsR l0 a1 l0.length 0 l0.length))
 case atStart => exact ⟨0, l0.length, rfl, rfl, Nat.zero_le _, Nat.le_refl _, by omega, ⟨Below.refl _ _⟩, ⟨rfl⟩⟩
 case round =>
  obtain ⟨lo, hi, rfl, rfl, hlh, hin, hg, HB, HI⟩ := hrel
  by_cases hlt : lo < hi
  ·
   obtain ⟨ad, rfl, hx⟩ := at_T120 HR0.out (((lo + hi) / 2 : Nat) : Int) (by omega) (by omega)
   have HM := az (cmpR_f (l0.getD ((lo + hi) / 2) z120) a1)
   simp only [rd_T120, Int.toNat_natCast] at hx
   obtain ⟨x0, x1, x2⟩ := hx
   replace x0 := (HB.out.cell (World.block_lt_of_cell? w _ x0)).trans x0
   replace x1 := (HB.out.cell (World.block_lt_of_cell? w _ x1)).trans x1
   replace x2 := (HB.out.cell (World.block_lt_of_cell? w _ x2)).trans x2
   generalize hy : l0.getD ((lo + hi) / 2) z120 = y at x0 x1 x2 HM
   have HY := az hy
   clear hy
   by_cases hc : cmpR y a1 < 0
   ·
    have hcb : decide (cmpR y a1 < 0) = true := decide_eq_true hc
    have HC := az hc
    clear hc
    go_wp2_with (go_at_call 134; refine (impl_find_1.calls _ _ _ _ _ _ HM.out).mono ?_; rintro e w' ⟨rfl, hb'⟩)
    go_roundg (hi - ((lo + hi) / 2 + 1))
    case measure => omega
    case rel =>
     refine ⟨(lo + hi) / 2 + 1, hi, by rw [show ((lo : Int) + (hi : Int)) / 2 + 1 = (((lo + hi) / 2 + 1 : Nat) : Int) by omega], rfl, by omega, hin, Nat.le_refl _, ⟨below_then HB.out HB.out.size hb'⟩, ⟨?_⟩⟩
     rw [← HI.out, show hi - lo = (hi - lo - 1) + 1 by omega, bsR_lt hlt (by rw [HY.out]; exact HC.out)]
     exact bsR_more _ _ _ _ _ _ (by omega) (by omega)
   ·
    have hcb : decide (cmpR y a1 < 0) = false := decide_eq_false hc
    have HC := az hc
    clear hc
    go_wp2_with (go_at_call 134; refine (impl_find_1.calls _ _ _ _ _ _ HM.out).mono ?_; rintro e w' ⟨rfl, hb'⟩)
    go_roundg ((lo + hi) / 2 - lo)
    case measure => omega
    case rel =>
     refine ⟨lo, (lo + hi) / 2, rfl, by rw [show ((lo : Int) + (hi : Int)) / 2 = (((lo + hi) / 2 : Nat) : Int) by omega], by omega, by omega, Nat.le_refl _, ⟨below_then HB.out HB.out.size hb'⟩, ⟨?_⟩⟩
     rw [← HI.out, show hi - lo = (hi - lo - 1) + 1 by omega, bsR_ge hlt (by rw [HY.out]; have := HC.out; omega)]
     exact bsR_more _ _ _ _ _ _ (by omega) (by omega)
  ·
   obtain rfl : hi = lo := by omega
   have e : bsR l0 a1 l0.length 0 l0.length = hi := by rw [← HI.out, bsR_end]
   have E := az e
   clear e HI
   by_cases hn2 : hi < l0.length
   ·
    obtain ⟨ad, rfl, hx⟩ := at_T120 HR0.out (hi : Int) (by omega) (by omega)
    have HM := az (cmpR_f (l0.getD hi z120) a1)
    simp only [rd_T120, Int.toNat_natCast] at hx
    obtain ⟨x0, x1, x2⟩ := hx
    replace x0 := (HB.out.cell (World.block_lt_of_cell? w _ x0)).trans x0
    replace x1 := (HB.out.cell (World.block_lt_of_cell? w _ x1)).trans x1
    replace x2 := (HB.out.cell (World.block_lt_of_cell? w _ x2)).trans x2
    generalize hy : l0.getD hi z120 = y at x0 x1 x2 HM
    have HY := az hy
    clear hy
    by_cases hyx : cmpR y a1 = 0
    ·
     go_wp2_with (go_at_call 134; refine (impl_find_1.calls _ _ _ _ _ _ HM.out).mono ?_; rintro e w' ⟨rfl, hb'⟩)
     go_ret2
     exact ⟨by rw [E.out, HY.out]; simp [hn2, hyx], below_then HB.out HB.out.size hb'⟩
    ·
     go_wp2_with (go_at_call 134; refine (impl_find_1.calls _ _ _ _ _ _ HM.out).mono ?_; rintro e w' ⟨rfl, hb'⟩)
     go_ret2
     exact ⟨by rw [E.out, HY.out]; simp [hn2, hyx], below_then HB.out HB.out.size hb'⟩
   ·
    go_wp2
    go_ret2
    exact ⟨by rw [E.out]; simp [hn2], HB.out⟩
def findV (l0 : List S120) (a1 a2 : Int) : Int := if bsR l0 a1 l0.length 0 l0.length < l0.length ∧ cmpR (l0.getD (bsR l0 a1 l0.length 0 l0.length) z120) a1 = 0 then (l0.getD (bsR l0 a1 l0.length 0 l0.length) z120).f2 else a2
def impl_find.f (l0 : List S120) (a1 a2 : Int) : Option Int := if l0.length ≤ 1000 then some (findV l0 a1 a2) else none
theorem impl_find.calls (A0 : Option Addr) (c0 : Nat) (l0 : List (S120)) (a1 : Int) (a2 : Int) (r : Int) (w : World) (hr0 : Kd.C k120 w A0 l0.length l0) (hc0 : l0.length ≤ c0) (h : impl_find.f l0 a1 a2 = some r) :
  Calls Tryz.prog 116 #[.slice A0 l0.length c0, .int .i64 a1, .int .i64 a2] w fun e w' => e = .returned (.int .i64 r) ∧ Below w.heap.size w w' := by
 unfold impl_find.f at h
 by_cases hn : l0.length ≤ 1000
 ·
  rw [if_pos hn] at h
  obtain rfl := Option.some.inj h
  have HC := az (bsR_calls A0 c0 l0 a1)
  have HR := az hr0
  unfold findV
  clear h hc0
  generalize hi : bsR l0 a1 l0.length 0 l0.length = i at HC
  clear hi
  by_cases h1 : i < l0.length
  ·
   by_cases h2 : cmpR (l0.getD i z120) a1 = 0
   ·
    rw [if_pos ⟨h1, h2⟩]
    simp only [decide_eq_true h1, decide_eq_true h2, Bool.and_self] at HC
    clear h2
    obtain ⟨ad, rfl, hx⟩ := at_T120 hr0 (i : Int) (by omega) (by omega)
    simp only [rd_T120, Int.toNat_natCast] at hx
    obtain ⟨x0, x1, x2⟩ := hx
    clear hr0
    have HX := az x2
    clear x0 x1 x2
    have h1' : (i : Int) < (l0.length : Int) := by omega
    generalize l0.getD i z120 = y at HX
    go_enter Tryz.func116, Tryz.ntmps116
    go_wp2_with (go_at_call 133; refine (HC.out _ HR.out hn).mono ?_; rintro e w' ⟨rfl, hb'⟩; have hx2 := (hb'.cell (World.block_lt_of_cell? w _ HX.out)).trans HX.out)
    go_ret
    exact ⟨rfl, hb'⟩
   ·
    rw [if_neg (fun h => h2 h.2)]
    simp only [decide_eq_false h2, Bool.and_false] at HC
    go_enter Tryz.func116, Tryz.ntmps116
    go_wp2_with (go_at_call 133; refine (HC.out _ HR.out hn).mono ?_; rintro e w' ⟨rfl, hb'⟩)
    go_ret
    exact ⟨rfl, hb'⟩
  ·
   rw [if_neg (fun h => h1 h.1)]
   simp only [decide_eq_false h1, Bool.false_and] at HC
   go_enter Tryz.func116, Tryz.ntmps116
   go_wp2_with (go_at_call 133; refine (HC.out _ HR.out hn).mono ?_; rintro e w' ⟨rfl, hb'⟩)
   go_ret
   exact ⟨rfl, hb'⟩
 ·
  rw [if_neg hn] at h
  exact absurd h (by simp)
def impl_bidiReaches.f  : Option ((List (S120))) := some (([(⟨9, 9, 11⟩ : S120), (⟨32, 32, 12⟩ : S120), (⟨35, 37, 6⟩ : S120), (⟨43, 43, 5⟩ : S120), (⟨44, 44, 8⟩ : S120), (⟨45, 45, 5⟩ : S120), (⟨46, 47, 8⟩ : S120), (⟨48, 57, 4⟩ : S120), (⟨58, 58, 8⟩ : S120), (⟨65, 90, 1⟩ : S120), (⟨97, 122, 1⟩ : S120), (⟨173, 173, 10⟩ : S120), (⟨768, 879, 9⟩ : S120), (⟨1488, 1514, 2⟩ : S120), (⟨1569, 1610, 3⟩ : S120), (⟨1632, 1641, 7⟩ : S120), (⟨8203, 8203, 10⟩ : S120), (⟨8205, 8205, 10⟩ : S120), (⟨8234, 8234, 14⟩ : S120), (⟨8235, 8235, 15⟩ : S120), (⟨8236, 8236, 16⟩ : S120), (⟨8237, 8237, 17⟩ : S120), (⟨8238, 8238, 18⟩ : S120), (⟨8294, 8294, 19⟩ : S120), (⟨8295, 8295, 20⟩ : S120), (⟨8296, 8296, 21⟩ : S120), (⟨8297, 8297, 22⟩ : S120), (⟨19968, 40959, 1⟩ : S120)] : List (S120)))
theorem impl_bidiReaches.calls  (r : List (S120)) (w : World) (h : impl_bidiReaches.f  = some r) :
  Calls Tryz.prog 132 #[] w fun e w' => ∃ v0_ : Value, e = .returned (v0_) ∧ Kd.R k120 120 w' w.heap.size (fun _ => True) v0_ r ∧ Below w.heap.size w w' := by
 have hu120 := Tryz.underlying120; have HB := az (Below.refl w.heap.size w); have H : (some (([(⟨9, 9, 11⟩ : S120), (⟨32, 32, 12⟩ : S120), (⟨35, 37, 6⟩ : S120), (⟨43, 43, 5⟩ : S120), (⟨44, 44, 8⟩ : S120), (⟨45, 45, 5⟩ : S120), (⟨46, 47, 8⟩ : S120), (⟨48, 57, 4⟩ : S120), (⟨58, 58, 8⟩ : S120), (⟨65, 90, 1⟩ : S120), (⟨97, 122, 1⟩ : S120), (⟨173, 173, 10⟩ : S120), (⟨768, 879, 9⟩ : S120), (⟨1488, 1514, 2⟩ : S120), (⟨1569, 1610, 3⟩ : S120), (⟨1632, 1641, 7⟩ : S120), (⟨8203, 8203, 10⟩ : S120), (⟨8205, 8205, 10⟩ : S120), (⟨8234, 8234, 14⟩ : S120), (⟨8235, 8235, 15⟩ : S120), (⟨8236, 8236, 16⟩ : S120), (⟨8237, 8237, 17⟩ : S120), (⟨8238, 8238, 18⟩ : S120), (⟨8294, 8294, 19⟩ : S120), (⟨8295, 8295, 20⟩ : S120), (⟨8296, 8296, 21⟩ : S120), (⟨8297, 8297, 22⟩ : S120), (⟨19968, 40959, 1⟩ : S120)] : List (S120)))) = some r := h; clear h; obtain ⟨y273, hy273⟩ : ∃ y_ : List (S120), y_ = (([(⟨9, 9, 11⟩ : S120), (⟨32, 32, 12⟩ : S120), (⟨35, 37, 6⟩ : S120), (⟨43, 43, 5⟩ : S120), (⟨44, 44, 8⟩ : S120), (⟨45, 45, 5⟩ : S120), (⟨46, 47, 8⟩ : S120), (⟨48, 57, 4⟩ : S120), (⟨58, 58, 8⟩ : S120), (⟨65, 90, 1⟩ : S120), (⟨97, 122, 1⟩ : S120), (⟨173, 173, 10⟩ : S120), (⟨768, 879, 9⟩ : S120), (⟨1488, 1514, 2⟩ : S120), (⟨1569, 1610, 3⟩ : S120), (⟨1632, 1641, 7⟩ : S120), (⟨8203, 8203, 10⟩ : S120), (⟨8205, 8205, 10⟩ : S120), (⟨8234, 8234, 14⟩ : S120), (⟨8235, 8235, 15⟩ : S120), (⟨8236, 8236, 16⟩ : S120), (⟨8237, 8237, 17⟩ : S120), (⟨8238, 8238, 18⟩ : S120), (⟨8294, 8294, 19⟩ : S120), (⟨8295, 8295, 20⟩ : S120), (⟨8296, 8296, 21⟩ : S120), (⟨8297, 8297, 22⟩ : S120), (⟨19968, 40959, 1⟩ : S120)] : List (S120))) := ⟨_, rfl⟩; replace H : (some y273) = some r := by first | (rw [hy273]; with_reducible exact H) | (have H2_ := (Option.bind_some _ _).symm.trans H; rw [hy273]; with_reducible exact H2_) | (have H2_ := (Option.bind_some _ _).symm.trans H; with_reducible exact H2_) | with_reducible exact H | (rw [hy273]; exact H) | exact H
 have Ny273 := az hy273; clear hy273; obtain rfl := Option.some.inj H; go_enter Tryz.func132, Tryz.ntmps132; go_wp2_with (first | ((with_reducible refine gate_dst (N := 29) rfl ?_); refine Kd.R_lit k120 _ 120 ?hg (N := 29) ?hd (xs := ([(⟨9, 9, 11⟩ : S120), (⟨32, 32, 12⟩ : S120), (⟨35, 37, 6⟩ : S120), (⟨43, 43, 5⟩ : S120), (⟨44, 44, 8⟩ : S120), (⟨45, 45, 5⟩ : S120), (⟨46, 47, 8⟩ : S120), (⟨48, 57, 4⟩ : S120), (⟨58, 58, 8⟩ : S120), (⟨65, 90, 1⟩ : S120), (⟨97, 122, 1⟩ : S120), (⟨173, 173, 10⟩ : S120), (⟨768, 879, 9⟩ : S120), (⟨1488, 1514, 2⟩ : S120), (⟨1569, 1610, 3⟩ : S120), (⟨1632, 1641, 7⟩ : S120), (⟨8203, 8203, 10⟩ : S120), (⟨8205, 8205, 10⟩ : S120), (⟨8234, 8234, 14⟩ : S120), (⟨8235, 8235, 15⟩ : S120), (⟨8236, 8236, 16⟩ : S120), (⟨8237, 8237, 17⟩ : S120), (⟨8238, 8238, 18⟩ : S120), (⟨8294, 8294, 19⟩ : S120), (⟨8295, 8295, 20⟩ : S120), (⟨8296, 8296, 21⟩ : S120), (⟨8297, 8297, 22⟩ : S120), (⟨19968, 40959, 1⟩ : S120)] : List (S120))) (inner := [.int .i64 9, .int .i64 9, .int .i64 11, .int .i64 32, .int .i64 32, .int .i64 12, .int .i64 35, .int .i64 37, .int .i64 6, .int .i64 43, .int .i64 43, .int .i64 5, .int .i64 44, .int .i64 44, .int .i64 8, .int .i64 45, .int .i64 45, .int .i64 5, .int .i64 46, .int .i64 47, .int .i64 8, .int .i64 48, .int .i64 57, .int .i64 4, .int .i64 58, .int .i64 58, .int .i64 8, .int .i64 65, .int .i64 90, .int .i64 1, .int .i64 97, .int .i64 122, .int .i64 1, .int .i64 173, .int .i64 173, .int .i64 10, .int .i64 768, .int .i64 879, .int .i64 9, .int .i64 1488, .int .i64 1514, .int .i64 2, .int .i64 1569, .int .i64 1610, .int .i64 3, .int .i64 1632, .int .i64 1641, .int .i64 7, .int .i64 8203, .int .i64 8203, .int .i64 10, .int .i64 8205, .int .i64 8205, .int .i64 10, .int .i64 8234, .int .i64 8234, .int .i64 14, .int .i64 8235, .int .i64 8235, .int .i64 15, .int .i64 8236, .int .i64 8236, .int .i64 16, .int .i64 8237, .int .i64 8237, .int .i64 17, .int .i64 8238, .int .i64 8238, .int .i64 18, .int .i64 8294, .int .i64 8294, .int .i64 19, .int .i64 8295, .int .i64 8295, .int .i64 20, .int .i64 8296, .int .i64 8296, .int .i64 21, .int .i64 8297, .int .i64 8297, .int .i64 22, .int .i64 19968, .int .i64 40959, .int .i64 1]) (ok := fun _ => True) (okp := fun _ => True) ?hr ?hp (fun _ hk => hk) trivial (Below.refl _ _) (Nat.le_refl _) (by simp) ?_; (case hd => rfl); (case hg => rfl); (case hr => first | (go_simp; done) | (go_simp; rfl)); (case hp => exact (Reps.c3 (show Kd.M k120 _ _ _ (⟨9, 9, 11⟩ : S120) [.int .i64 9, .int .i64 9, .int .i64 11] from (k120_mkM _ _ _ (⟨9, 9, 11⟩ : S120) )) (Reps.c3 (show Kd.M k120 _ _ _ (⟨32, 32, 12⟩ : S120) [.int .i64 32, .int .i64 32, .int .i64 12] from (k120_mkM _ _ _ (⟨32, 32, 12⟩ : S120) )) (Reps.c3 (show Kd.M k120 _ _ _ (⟨35, 37, 6⟩ : S120) [.int .i64 35, .int .i64 37, .int .i64 6] from (k120_mkM _ _ _ (⟨35, 37, 6⟩ : S120) )) (Reps.c3 (show Kd.M k120 _ _ _ (⟨43, 43, 5⟩ : S120) [.int .i64 43, .int .i64 43, .int .i64 5] from (k120_mkM _ _ _ (⟨43, 43, 5⟩ : S120) )) (Reps.c3 (show Kd.M k120 _ _ _ (⟨44, 44, 8⟩ : S120) [.int .i64 44, .int .i64 44, .int .i64 8] from (k120_mkM _ _ _ (⟨44, 44, 8⟩ : S120) )) (Reps.c3 (show Kd.M k120 _ _ _ (⟨45, 45, 5⟩ : S120) [.int .i64 45, .int .i64 45, .int .i64 5] from (k120_mkM _ _ _ (⟨45, 45, 5⟩ : S120) )) (Reps.c3 (show Kd.M k120 _ _ _ (⟨46, 47, 8⟩ : S120) [.int .i64 46, .int .i64 47, .int .i64 8] from (k120_mkM _ _ _ (⟨46, 47, 8⟩ : S120) )) (Reps.c3 (show Kd.M k120 _ _ _ (⟨48, 57, 4⟩ : S120) [.int .i64 48, .int .i64 57, .int .i64 4] from (k120_mkM _ _ _ (⟨48, 57, 4⟩ : S120) )) (Reps.c3 (show Kd.M k120 _ _ _ (⟨58, 58, 8⟩ : S120) [.int .i64 58, .int .i64 58, .int .i64 8] from (k120_mkM _ _ _ (⟨58, 58, 8⟩ : S120) )) (Reps.c3 (show Kd.M k120 _ _ _ (⟨65, 90, 1⟩ : S120) [.int .i64 65, .int .i64 90, .int .i64 1] from (k120_mkM _ _ _ (⟨65, 90, 1⟩ : S120) )) (Reps.c3 (show Kd.M k120 _ _ _ (⟨97, 122, 1⟩ : S120) [.int .i64 97, .int .i64 122, .int .i64 1] from (k120_mkM _ _ _ (⟨97, 122, 1⟩ : S120) )) (Reps.c3 (show Kd.M k120 _ _ _ (⟨173, 173, 10⟩ : S120) [.int .i64 173, .int .i64 173, .int .i64 10] from (k120_mkM _ _ _ (⟨173, 173, 10⟩ : S120) )) (Reps.c3 (show Kd.M k120 _ _ _ (⟨768, 879, 9⟩ : S120) [.int .i64 768, .int .i64 879, .int .i64 9] from (k120_mkM _ _ _ (⟨768, 879, 9⟩ : S120) )) (Reps.c3 (show Kd.M k120 _ _ _ (⟨1488, 1514, 2⟩ : S120) [.int .i64 1488, .int .i64 1514, .int .i64 2] from (k120_mkM _ _ _ (⟨1488, 1514, 2⟩ : S120) )) (Reps.c3 (show Kd.M k120 _ _ _ (⟨1569, 1610, 3⟩ : S120) [.int .i64 1569, .int .i64 1610, .int .i64 3] from (k120_mkM _ _ _ (⟨1569, 1610, 3⟩ : S120) )) (Reps.c3 (show Kd.M k120 _ _ _ (⟨1632, 1641, 7⟩ : S120) [.int .i64 1632, .int .i64 1641, .int .i64 7] from (k120_mkM _ _ _ (⟨1632, 1641, 7⟩ : S120) )) (Reps.c3 (show Kd.M k120 _ _ _ (⟨8203, 8203, 10⟩ : S120) [.int .i64 8203, .int .i64 8203, .int .i64 10] from (k120_mkM _ _ _ (⟨8203, 8203, 10⟩ : S120) )) (Reps.c3 (show Kd.M k120 _ _ _ (⟨8205, 8205, 10⟩ : S120) [.int .i64 8205, .int .i64 8205, .int .i64 10] from (k120_mkM _ _ _ (⟨8205, 8205, 10⟩ : S120) )) (Reps.c3 (show Kd.M k120 _ _ _ (⟨8234, 8234, 14⟩ : S120) [.int .i64 8234, .int .i64 8234, .int .i64 14] from (k120_mkM _ _ _ (⟨8234, 8234, 14⟩ : S120) )) (Reps.c3 (show Kd.M k120 _ _ _ (⟨8235, 8235, 15⟩ : S120) [.int .i64 8235, .int .i64 8235, .int .i64 15] from (k120_mkM _ _ _ (⟨8235, 8235, 15⟩ : S120) )) (Reps.c3 (show Kd.M k120 _ _ _ (⟨8236, 8236, 16⟩ : S120) [.int .i64 8236, .int .i64 8236, .int .i64 16] from (k120_mkM _ _ _ (⟨8236, 8236, 16⟩ : S120) )) (Reps.c3 (show Kd.M k120 _ _ _ (⟨8237, 8237, 17⟩ : S120) [.int .i64 8237, .int .i64 8237, .int .i64 17] from (k120_mkM _ _ _ (⟨8237, 8237, 17⟩ : S120) )) (Reps.c3 (show Kd.M k120 _ _ _ (⟨8238, 8238, 18⟩ : S120) [.int .i64 8238, .int .i64 8238, .int .i64 18] from (k120_mkM _ _ _ (⟨8238, 8238, 18⟩ : S120) )) (Reps.c3 (show Kd.M k120 _ _ _ (⟨8294, 8294, 19⟩ : S120) [.int .i64 8294, .int .i64 8294, .int .i64 19] from (k120_mkM _ _ _ (⟨8294, 8294, 19⟩ : S120) )) (Reps.c3 (show Kd.M k120 _ _ _ (⟨8295, 8295, 20⟩ : S120) [.int .i64 8295, .int .i64 8295, .int .i64 20] from (k120_mkM _ _ _ (⟨8295, 8295, 20⟩ : S120) )) (Reps.c3 (show Kd.M k120 _ _ _ (⟨8296, 8296, 21⟩ : S120) [.int .i64 8296, .int .i64 8296, .int .i64 21] from (k120_mkM _ _ _ (⟨8296, 8296, 21⟩ : S120) )) (Reps.c3 (show Kd.M k120 _ _ _ (⟨8297, 8297, 22⟩ : S120) [.int .i64 8297, .int .i64 8297, .int .i64 22] from (k120_mkM _ _ _ (⟨8297, 8297, 22⟩ : S120) )) (Reps.c3 (show Kd.M k120 _ _ _ (⟨19968, 40959, 1⟩ : S120) [.int .i64 19968, .int .i64 40959, .int .i64 1] from (k120_mkM _ _ _ (⟨19968, 40959, 1⟩ : S120) )) (Reps.none _ _)))))))))))))))))))))))))))))); intro v274 w1 ho2 hb hg_ hnew_; clear hg_ hnew_; (first | rw [← Ny273.out] at ho2 | (simp only [Int.reduceToNat] at ho2; rw [← Ny273.out] at ho2)); have n0_ := az (Kd.R_lower ho2 (below_size (zA HB.out))); have n1_ := az (below_step (zA HB.out) hb); clear HB; have HO275 := n0_; have HB := n1_; clear n0_ n1_; clear hb ho2))
 go_ret; exact ⟨_, zG, zF HO275.out, zA HB.out⟩
def impl_RuneBidi.f (a0 : Int) : Option (Int) := (impl_bidiReaches.f).bind fun t276 => ((impl_find.f t276 a0 13).bind fun t279 => (some t279))
theorem impl_RuneBidi.calls (a0 : Int) (r : Int) (w : World) (h : impl_RuneBidi.f a0 = some r) :
  Calls Tryz.prog 115 #[.int .i64 a0] w fun e w' => e = .returned (.int .i64 r) ∧ Below w.heap.size w w' := by
 have HB := az (Below.refl w.heap.size w); have H : ((impl_bidiReaches.f).bind fun t276 => ((impl_find.f t276 a0 13).bind fun t279 => (some t279))) = some r := h; clear h; replace H := Option.bind_eq_some_iff.mp H; obtain ⟨t276, A20, H⟩ := H; replace H : ((impl_find.f t276 a0 13).bind fun t279 => (some t279)) = some r := H; have A2 := az A20; clear A20; replace H := Option.bind_eq_some_iff.mp H; obtain ⟨t279, A30, H⟩ := H; replace H : (some t279) = some r := H; have A3 := az A30; clear A30; obtain rfl := Option.some.inj H; go_enter Tryz.func115, Tryz.ntmps115; go_wp2_with (first | ((with_reducible refine gate_callee (f := 132) rfl ?_); refine goesL_ (some 3) rfl rfl Tryz.func132 (by kernel_rfl) rfl #[] rfl zC ?_; (with_reducible refine (impl_bidiReaches.calls  t276 _ A2.out).mono ?_); rintro e w4 ⟨v277, rfl, ho0, hb⟩; refine ⟨_, rfl, ?_⟩; have n0_ := az (Kd.R_lower ho0 (below_size (zA HB.out))); have n1_ := az (below_step (zA HB.out) hb); clear HB; have HO278 := n0_; have HB := n1_; clear n0_ n1_; (try clear hb); (try clear hb2); (try clear hk); (try clear hi); (try clear ho0); obtain ⟨Ao5, co5, eo5⟩ := Kd.R_slice HO278.out; subst eo5) | ((with_reducible refine gate_callee (f := 116) rfl ?_); refine goesL_ (some 5) rfl rfl Tryz.func116 (by kernel_rfl) rfl #[.slice Ao5 t276.length co5, .int .i64 a0, .int .i64 13] rfl zC ?_; (with_reducible refine (impl_find.calls _ _ t276 a0 13 t279 _ ?side1 ?side2 A3.out).mono ?_); (case side1 => exact (zR HO278.out)); (case side2 => exact (Kd.R_reads' HO278.out).2.1); rintro e w6 ⟨rfl, hb⟩; refine ⟨_, rfl, ?_⟩; have n0_ := az (Kd.R_below (zF HO278.out) hb); have n1_ := az (below_step (zA HB.out) hb); clear HO278; clear HB; have HO278 := n0_; have HB := n1_; clear n0_ n1_; (try clear hb); (try clear hb2); (try clear hk); (try clear hi))); go_ret; exact ⟨zG, zA HB.out⟩
def impl_isRegional.f (a0 : Int) : Option (Bool) := if a0 ≥ 127462 then (some (decide (a0 ≤ 127487))) else (some false)
theorem impl_isRegional.calls (a0 : Int) (r : Bool) (w : World) (h : impl_isRegional.f a0 = some r) :
  Calls Tryz.prog 131 #[.int .i64 a0] w fun e w' => e = .returned (.bool r) ∧ Drawn0 w w' := by
 have H : (if a0 ≥ 127462 then (some (decide (a0 ≤ 127487))) else (some false)) = some r := h
 clear h
 by_cases c2 : a0 ≥ 127462
 ·
  rw [if_pos c2] at H
  have c2b0 : decide (127462 ≤ a0) = true := decide_eq_true c2
  clear c2
  obtain rfl := Option.some.inj H
  go_enter Tryz.func131, Tryz.ntmps131
  go_wp2
  go_ret
  exact ⟨zB, zD⟩
 ·
  rw [if_neg c2] at H
  have c2b0 : decide (127462 ≤ a0) = false := decide_eq_false c2
  clear c2
  obtain rfl := Option.some.inj H
  go_enter Tryz.func131, Tryz.ntmps131
  go_wp2
  go_ret
  exact ⟨zB, zD⟩
def impl_joining_joins.j0 : Nat → Int → Int → Bool → Option (Bool)
 | 0, _, _, _ => none
 | k + 1, x0, x1, x8 => if x8 = true then (if x0 = 1 then (some (x1 == 10)) else (some false)) else ((impl_RuneBidi.f x1).bind fun t310 => (if t310 = 9 then (some true) else (if x1 = 8205 then (some true) else ((impl_isRegional.f x1).bind fun t311 => (if t311 = true then (some (x0 == 3)) else (some false))))))
def impl_joining_joins.f (k : Nat) (a0 : Int) (a1 : Int) : Option (Bool) := if a0 = 0 then (some false) else (if a0 = 2 then (impl_joining_joins.j0 k a0 a1 true) else (impl_joining_joins.j0 k a0 a1 (a1 == 10)))
theorem impl_joining_joins.mono_l : ∀ k, (∀ y0 y1 y2, LeO (impl_joining_joins.j0 k y0 y1 y2) (impl_joining_joins.j0 (k + 1) y0 y1 y2))
 | 0 => fun _ _ _ r h => by simp [impl_joining_joins.j0] at h
 | k + 1 => by
  have ih0 := impl_joining_joins.mono_l k
  ·
   intro y0 y1 y2; unfold impl_joining_joins.j0
   repeat' first
   | (with_reducible exact ih0 _ _ _)
   | (with_reducible exact LeO.refl _)
   | (with_reducible exact LeO.none _)
   | (with_reducible refine LeO.ite ?_ ?_)
   | (with_reducible refine LeO.bind ?_ (fun _ => ?_))
   | exact ih0 _ _ _
   | exact LeO.none _
   | refine LeO.ite ?_ ?_
   | refine LeO.bind ?_ (fun _ => ?_)
theorem impl_joining_joins.mono : ∀ a0 a1 k, LeO (impl_joining_joins.f k a0 a1) (impl_joining_joins.f (k + 1) a0 a1) := by
 intro a0 a1 k; have ih0 := impl_joining_joins.mono_l k; unfold impl_joining_joins.f
 repeat' first
   | (with_reducible exact ih0 _ _ _)
   | (with_reducible exact LeO.refl _)
   | (with_reducible exact LeO.none _)
   | (with_reducible refine LeO.ite ?_ ?_)
   | (with_reducible refine LeO.bind ?_ (fun _ => ?_))
   | exact ih0 _ _ _
   | exact LeO.none _
   | refine LeO.ite ?_ ?_
   | refine LeO.bind ?_ (fun _ => ?_)
theorem impl_joining_joins.calls (k : Nat) (a0 : Int) (a1 : Int) (r : Bool) (w : World) (h : impl_joining_joins.f k a0 a1 = some r) :
  Calls Tryz.prog 99 #[.int .i64 a0, .int .i64 a1] w fun e w' => e = .returned (.bool r) ∧ Below w.heap.size w w' := by
 have HB := az (Below.refl w.heap.size w); have H : (if a0 = 0 then (some false) else (if a0 = 2 then (impl_joining_joins.j0 k a0 a1 true) else (impl_joining_joins.j0 k a0 a1 (a1 == 10)))) = some r := h; clear h; by_cases c3 : a0 = 0
 ·
  rw [if_pos c3] at H; have c3b0 : (a0 == 0) = true := beq_iff_eq.mpr c3; have c3b1 : (a0 != 0) = false := bne_eq_false_iff_eq.mpr c3; clear c3; obtain rfl := Option.some.inj H; go_enter Tryz.func99, Tryz.ntmps99; go_wp2; go_ret; exact ⟨zG, zA HB.out⟩
 ·
  rw [if_neg c3] at H; have c3b0 : (a0 == 0) = false := beq_eq_false_iff_ne.mpr c3; have c3b1 : (a0 != 0) = true := bne_iff_ne.mpr c3; have HC4 := az H; clear H; go_enter Tryz.func99, Tryz.ntmps99; go_upto_region 3 with (fail)
  go_cut [8] (fun v8 wc => ∃ (kq : Nat) (x8_3 : Bool), v8 = .bool x8_3 ∧ Aside0 (impl_joining_joins.j0 kq a0 a1 x8_3 = some r) ∧ Aside0 (kq ≤ k) ∧ Aside0 (Below w.heap.size w wc))
  case first =>
   have H := HC4.out; clear HC4; by_cases c5 : a0 = 2
   ·
    rw [if_pos c5] at H; have c5b0 : (a0 == 2) = true := beq_iff_eq.mpr c5; have c5b1 : (a0 != 2) = false := bne_eq_false_iff_eq.mpr c5; clear c5; (first | rw [c5b0] | (simp only [i64_w, i32_w]; rw [c5b0]) | skip); have H' := az H; clear H; go_wp2; go_meet
    case rel => exact ⟨_, (true), zB, H', ⟨zI⟩, ⟨zA HB.out⟩⟩
   ·
    rw [if_neg c5] at H; have c5b0 : (a0 == 2) = false := beq_eq_false_iff_ne.mpr c5; have c5b1 : (a0 != 2) = true := bne_iff_ne.mpr c5; (first | rw [c5b0] | (simp only [i64_w, i32_w]; rw [c5b0]) | skip); have H' := az H; clear H; go_wp2; go_meet
    case rel => exact ⟨_, ((a1 == 10)), zB, H', ⟨zI⟩, ⟨zA HB.out⟩⟩
  case rest =>
   clear HC4; (try clear p2); (try clear c3); (try clear c3b0); (try clear c3b1); (try clear c5); (try clear c5b0); (try clear c5b1); obtain ⟨kq, x8_3, rfl, HA, HJ3, HB⟩ := hcut
   cases kq with
   | zero => exact absurd HA.out (by simp [impl_joining_joins.j0])
   | succ kj3 =>
    have H := HA.out; clear HA; simp only [impl_joining_joins.j0] at H; by_cases c6 : x8_3 = true
    ·
     subst c6; have H1 : (if a0 = 1 then (some (a1 == 10)) else (some false)) = some r := by rw [if_pos rfl] at H; exact H
     clear H; have H := H1; clear H1; by_cases c7 : a0 = 1
     ·
      rw [if_pos c7] at H; have c7b0 : (a0 == 1) = true := beq_iff_eq.mpr c7; have c7b1 : (a0 != 1) = false := bne_eq_false_iff_eq.mpr c7; clear c7; obtain rfl := Option.some.inj H; go_wp2; go_ret; exact ⟨zG, zA HB.out⟩
     ·
      rw [if_neg c7] at H; have c7b0 : (a0 == 1) = false := beq_eq_false_iff_ne.mpr c7; have c7b1 : (a0 != 1) = true := bne_iff_ne.mpr c7; obtain rfl := Option.some.inj H; go_wp2; go_ret; exact ⟨zG, zA HB.out⟩
    ·
     replace c6 := Bool.eq_false_iff.mpr c6; subst c6; have H1 : ((impl_RuneBidi.f a1).bind fun t310 => (if t310 = 9 then (some true) else (if a1 = 8205 then (some true) else ((impl_isRegional.f a1).bind fun t311 => (if t311 = true then (some (a0 == 3)) else (some false)))))) = some r := by rw [if_neg (show ¬ (false = true) by decide)] at H; exact H
     clear H; have H := H1; clear H1; replace H := Option.bind_eq_some_iff.mp H; obtain ⟨t310, A80, H⟩ := H; replace H : (if t310 = 9 then (some true) else (if a1 = 8205 then (some true) else ((impl_isRegional.f a1).bind fun t311 => (if t311 = true then (some (a0 == 3)) else (some false))))) = some r := H; have A8 := az A80; clear A80; by_cases c9 : t310 = 9
     ·
      rw [if_pos c9] at H; have c9b0 : (t310 == 9) = true := beq_iff_eq.mpr c9; have c9b1 : (t310 != 9) = false := bne_eq_false_iff_eq.mpr c9; clear c9; obtain rfl := Option.some.inj H; go_wp2_with (first | ((with_reducible refine gate_callee (f := 115) rfl ?_); refine goesL_ (some 23) rfl rfl Tryz.func115 (by kernel_rfl) rfl #[.int .i64 a1] rfl zC ?_; (with_reducible refine (impl_RuneBidi.calls a1 t310 _ A8.out).mono ?_); rintro e w10 ⟨rfl, hb⟩; refine ⟨_, rfl, ?_⟩; have n0_ := az (below_step (zA HB.out) hb); clear HB; have HB := n0_; clear n0_; (try clear hb); (try clear hb2); (try clear hk); (try clear hi))); go_ret; exact ⟨zG, zA HB.out⟩
     ·
      rw [if_neg c9] at H; have c9b0 : (t310 == 9) = false := beq_eq_false_iff_ne.mpr c9; have c9b1 : (t310 != 9) = true := bne_iff_ne.mpr c9; by_cases c11 : a1 = 8205
      ·
       rw [if_pos c11] at H; have c11b0 : (a1 == 8205) = true := beq_iff_eq.mpr c11; have c11b1 : (a1 != 8205) = false := bne_eq_false_iff_eq.mpr c11; clear c11; obtain rfl := Option.some.inj H; go_wp2_with (first | ((with_reducible refine gate_callee (f := 115) rfl ?_); refine goesL_ (some 23) rfl rfl Tryz.func115 (by kernel_rfl) rfl #[.int .i64 a1] rfl zC ?_; (with_reducible refine (impl_RuneBidi.calls a1 t310 _ A8.out).mono ?_); rintro e w12 ⟨rfl, hb⟩; refine ⟨_, rfl, ?_⟩; have n0_ := az (below_step (zA HB.out) hb); clear HB; have HB := n0_; clear n0_; (try clear hb); (try clear hb2); (try clear hk); (try clear hi))); go_ret; exact ⟨zG, zA HB.out⟩
      ·
       rw [if_neg c11] at H; have c11b0 : (a1 == 8205) = false := beq_eq_false_iff_ne.mpr c11; have c11b1 : (a1 != 8205) = true := bne_iff_ne.mpr c11; replace H := Option.bind_eq_some_iff.mp H; obtain ⟨t311, A130, H⟩ := H; replace H : (if t311 = true then (some (a0 == 3)) else (some false)) = some r := H; have A13 := az A130; clear A130; by_cases c14 : t311 = true
       ·
        subst c14; have H1 : (some (a0 == 3)) = some r := by rw [if_pos rfl] at H; exact H
        clear H; have H := H1; clear H1; obtain rfl := Option.some.inj H; go_wp2_with (first | ((with_reducible refine gate_callee (f := 115) rfl ?_); refine goesL_ (some 23) rfl rfl Tryz.func115 (by kernel_rfl) rfl #[.int .i64 a1] rfl zC ?_; (with_reducible refine (impl_RuneBidi.calls a1 t310 _ A8.out).mono ?_); rintro e w15 ⟨rfl, hb⟩; refine ⟨_, rfl, ?_⟩; have n0_ := az (below_step (zA HB.out) hb); clear HB; have HB := n0_; clear n0_; (try clear hb); (try clear hb2); (try clear hk); (try clear hi)) | ((with_reducible refine gate_callee (f := 131) rfl ?_); refine goesL_ (some 30) rfl rfl Tryz.func131 (by kernel_rfl) rfl #[.int .i64 a1] rfl zC ?_; (with_reducible refine (impl_isRegional.calls a1 true _ A13.out).mono ?_); rintro e w' ⟨rfl, ⟨nd, rfl⟩⟩; refine ⟨_, rfl, ?_⟩)); go_ret; exact ⟨zG, zA HB.out⟩
       ·
        replace c14 := Bool.eq_false_iff.mpr c14; subst c14; have H1 : (some false) = some r := by rw [if_neg (show ¬ (false = true) by decide)] at H; exact H
        clear H; have H := H1; clear H1; obtain rfl := Option.some.inj H; go_wp2_with (first | ((with_reducible refine gate_callee (f := 115) rfl ?_); refine goesL_ (some 23) rfl rfl Tryz.func115 (by kernel_rfl) rfl #[.int .i64 a1] rfl zC ?_; (with_reducible refine (impl_RuneBidi.calls a1 t310 _ A8.out).mono ?_); rintro e w16 ⟨rfl, hb⟩; refine ⟨_, rfl, ?_⟩; have n0_ := az (below_step (zA HB.out) hb); clear HB; have HB := n0_; clear n0_; (try clear hb); (try clear hb2); (try clear hk); (try clear hi)) | ((with_reducible refine gate_callee (f := 131) rfl ?_); refine goesL_ (some 30) rfl rfl Tryz.func131 (by kernel_rfl) rfl #[.int .i64 a1] rfl zC ?_; (with_reducible refine (impl_isRegional.calls a1 false _ A13.out).mono ?_); rintro e w' ⟨rfl, ⟨nd, rfl⟩⟩; refine ⟨_, rfl, ?_⟩)); go_ret; exact ⟨zG, zA HB.out⟩
def impl_joining_next.j0 : Nat → Int → Bool → Option (Int)
 | 0, _, _ => none
 | k + 1, x1, x11 => if x11 = true then (some 4) else ((impl_isRegional.f x1).bind fun t313 => (if t313 = true then (some 3) else (some 5)))
def impl_joining_next.f (k : Nat) (a0 : Int) (a1 : Int) : Option (Int) := if a1 = 13 then (some 1) else (if a1 = 10 then (some 2) else ((impl_isRegional.f a1).bind fun t312 => (if t312 = true then (impl_joining_next.j0 k a1 (a0 == 3)) else (impl_joining_next.j0 k a1 false))))
theorem impl_joining_next.mono_l : ∀ k, (∀ y0 y1, LeO (impl_joining_next.j0 k y0 y1) (impl_joining_next.j0 (k + 1) y0 y1))
 | 0 => fun _ _ r h => by simp [impl_joining_next.j0] at h
 | k + 1 => by
  have ih0 := impl_joining_next.mono_l k
  ·
   intro y0 y1; unfold impl_joining_next.j0
   repeat' first
   | (with_reducible exact ih0 _ _)
   | (with_reducible exact LeO.refl _)
   | (with_reducible exact LeO.none _)
   | (with_reducible refine LeO.ite ?_ ?_)
   | (with_reducible refine LeO.bind ?_ (fun _ => ?_))
   | exact ih0 _ _
   | exact LeO.none _
   | refine LeO.ite ?_ ?_
   | refine LeO.bind ?_ (fun _ => ?_)
theorem impl_joining_next.mono : ∀ a0 a1 k, LeO (impl_joining_next.f k a0 a1) (impl_joining_next.f (k + 1) a0 a1) := by
 intro a0 a1 k; have ih0 := impl_joining_next.mono_l k; unfold impl_joining_next.f
 repeat' first
   | (with_reducible exact ih0 _ _)
   | (with_reducible exact LeO.refl _)
   | (with_reducible exact LeO.none _)
   | (with_reducible refine LeO.ite ?_ ?_)
   | (with_reducible refine LeO.bind ?_ (fun _ => ?_))
   | exact ih0 _ _
   | exact LeO.none _
   | refine LeO.ite ?_ ?_
   | refine LeO.bind ?_ (fun _ => ?_)
theorem impl_joining_next.calls (k : Nat) (a0 : Int) (a1 : Int) (r : Int) (w : World) (h : impl_joining_next.f k a0 a1 = some r) :
  Calls Tryz.prog 100 #[.int .i64 a0, .int .i64 a1] w fun e w' => e = .returned (.int .i64 r) ∧ Drawn0 w w' := by
 have H : (if a1 = 13 then (some 1) else (if a1 = 10 then (some 2) else ((impl_isRegional.f a1).bind fun t312 => (if t312 = true then (impl_joining_next.j0 k a1 (a0 == 3)) else (impl_joining_next.j0 k a1 false))))) = some r := h; clear h; by_cases c3 : a1 = 13
 ·
  rw [if_pos c3] at H; have c3b0 : (a1 == 13) = true := beq_iff_eq.mpr c3; have c3b1 : (a1 != 13) = false := bne_eq_false_iff_eq.mpr c3; clear c3; obtain rfl := Option.some.inj H; go_enter Tryz.func100, Tryz.ntmps100; go_wp2; go_ret; exact ⟨zB, zD⟩
 ·
  rw [if_neg c3] at H; have c3b0 : (a1 == 13) = false := beq_eq_false_iff_ne.mpr c3; have c3b1 : (a1 != 13) = true := bne_iff_ne.mpr c3; by_cases c4 : a1 = 10
  ·
   rw [if_pos c4] at H; have c4b0 : (a1 == 10) = true := beq_iff_eq.mpr c4; have c4b1 : (a1 != 10) = false := bne_eq_false_iff_eq.mpr c4; clear c4; obtain rfl := Option.some.inj H; go_enter Tryz.func100, Tryz.ntmps100; go_wp2; go_ret; exact ⟨zB, zD⟩
  ·
   rw [if_neg c4] at H; have c4b0 : (a1 == 10) = false := beq_eq_false_iff_ne.mpr c4; have c4b1 : (a1 != 10) = true := bne_iff_ne.mpr c4; have HC5 := az H; clear H; go_enter Tryz.func100, Tryz.ntmps100; go_upto_region 5 with (fail)
   go_cut [11] (fun v11 wc => ∃ (kq : Nat) (x11_4 : Bool), v11 = .bool x11_4 ∧ Aside0 (impl_joining_next.j0 kq a1 x11_4 = some r) ∧ Aside0 (kq ≤ k) ∧ Drawn0 w wc)
   case first =>
    have H := HC5.out; clear HC5; replace H := Option.bind_eq_some_iff.mp H; obtain ⟨t312, A60, H⟩ := H; replace H : (if t312 = true then (impl_joining_next.j0 k a1 (a0 == 3)) else (impl_joining_next.j0 k a1 false)) = some r := H; have A6 := az A60; clear A60; by_cases c7 : t312 = true
    ·
     subst c7; have H1 : (impl_joining_next.j0 k a1 (a0 == 3)) = some r := by rw [if_pos rfl] at H; exact H
     clear H; have H := H1; clear H1; have H' := az H; clear H; go_wp2_with (first | ((with_reducible refine gate_callee (f := 131) rfl ?_); refine goesL_ (some 13) rfl rfl Tryz.func131 (by kernel_rfl) rfl #[.int .i64 a1] rfl zC ?_; (with_reducible refine (impl_isRegional.calls a1 true _ A6.out).mono ?_); rintro e w' ⟨rfl, ⟨nd, rfl⟩⟩; refine ⟨_, rfl, ?_⟩)); go_meet
     case rel => exact ⟨_, ((a0 == 3)), zB, H', ⟨zI⟩, zD⟩
    ·
     replace c7 := Bool.eq_false_iff.mpr c7; subst c7; have H1 : (impl_joining_next.j0 k a1 false) = some r := by rw [if_neg (show ¬ (false = true) by decide)] at H; exact H
     clear H; have H := H1; clear H1; have H' := az H; clear H; go_wp2_with (first | ((with_reducible refine gate_callee (f := 131) rfl ?_); refine goesL_ (some 13) rfl rfl Tryz.func131 (by kernel_rfl) rfl #[.int .i64 a1] rfl zC ?_; (with_reducible refine (impl_isRegional.calls a1 false _ A6.out).mono ?_); rintro e w' ⟨rfl, ⟨nd, rfl⟩⟩; refine ⟨_, rfl, ?_⟩)); go_meet
     case rel => exact ⟨_, (false), zB, H', ⟨zI⟩, zD⟩
   case rest =>
    clear HC5; (try clear c1); (try clear p2); (try clear c3); (try clear c3b0); (try clear c3b1); (try clear c4); (try clear c4b0); (try clear c4b1); (try clear c7); obtain ⟨kq, x11_4, rfl, HA, HJ4, ⟨mc4, rfl⟩⟩ := hcut
    cases kq with
    | zero => exact absurd HA.out (by simp [impl_joining_next.j0])
    | succ kj4 =>
     have H := HA.out; clear HA; simp only [impl_joining_next.j0] at H; by_cases c8 : x11_4 = true
     ·
      subst c8; have H1 : (some 4) = some r := by rw [if_pos rfl] at H; exact H
      clear H; have H := H1; clear H1; obtain rfl := Option.some.inj H; go_wp2; go_ret; exact ⟨zB, zD⟩
     ·
      replace c8 := Bool.eq_false_iff.mpr c8; subst c8; have H1 : ((impl_isRegional.f a1).bind fun t313 => (if t313 = true then (some 3) else (some 5))) = some r := by rw [if_neg (show ¬ (false = true) by decide)] at H; exact H
      clear H; have H := H1; clear H1; replace H := Option.bind_eq_some_iff.mp H; obtain ⟨t313, A90, H⟩ := H; replace H : (if t313 = true then (some 3) else (some 5)) = some r := H; have A9 := az A90; clear A90; by_cases c10 : t313 = true
      ·
       subst c10; have H1 : (some 3) = some r := by rw [if_pos rfl] at H; exact H
       clear H; have H := H1; clear H1; obtain rfl := Option.some.inj H; go_wp2_with (first | ((with_reducible refine gate_callee (f := 131) rfl ?_); refine goesL_ (some 20) rfl rfl Tryz.func131 (by kernel_rfl) rfl #[.int .i64 a1] rfl zC ?_; (with_reducible refine (impl_isRegional.calls a1 true _ A9.out).mono ?_); rintro e w' ⟨rfl, ⟨nd, rfl⟩⟩; refine ⟨_, rfl, ?_⟩)); go_ret; exact ⟨zB, zD⟩
      ·
       replace c10 := Bool.eq_false_iff.mpr c10; subst c10; have H1 : (some 5) = some r := by rw [if_neg (show ¬ (false = true) by decide)] at H; exact H
       clear H; have H := H1; clear H1; obtain rfl := Option.some.inj H; go_wp2_with (first | ((with_reducible refine gate_callee (f := 131) rfl ?_); refine goesL_ (some 20) rfl rfl Tryz.func131 (by kernel_rfl) rfl #[.int .i64 a1] rfl zC ?_; (with_reducible refine (impl_isRegional.calls a1 false _ A9.out).mono ?_); rintro e w' ⟨rfl, ⟨nd, rfl⟩⟩; refine ⟨_, rfl, ?_⟩)); go_ret; exact ⟨zB, zD⟩
def impl_joined.l0 : Nat → List Bool → Int → List Int → Int → Int → Option (List Bool)
 | 0, _, _, _, _, _ => none
 | k + 1, x3, x4, x7, x8, x9 => if x9 < x8 then (if 0 ≤ x9 then (if x9 < (x7.length : Int) then ((impl_joining_joins.f k x4 (rd x7 x9)).bind fun t315 => (if x3.length < 140737488355328 then ((impl_joining_next.f k x4 (rd x7 x9)).bind fun t319 => (impl_joined.l0 k (x3 ++ [t315]) t319 x7 x8 (wrap64 (x9 + 1)))) else (none))) else (none)) else (none)) else (some x3)
def impl_joined.f (k : Nat) (l0 : List Int) : Option (List Bool) := impl_joined.l0 k ([] : List Bool) 0 l0 (l0.length : Int) 0
theorem impl_joined.mono_l : ∀ k, (∀ y0 y1 y2 y3 y4, LeO (impl_joined.l0 k y0 y1 y2 y3 y4) (impl_joined.l0 (k + 1) y0 y1 y2 y3 y4))
 | 0 => fun _ _ _ _ _ r h => by simp [impl_joined.l0] at h
 | k + 1 => by
  have ih0 := impl_joined.mono_l k
  ·
   intro y0 y1 y2 y3 y4; unfold impl_joined.l0
   repeat' first
   | (with_reducible exact ih0 _ _ _ _ _)
   | (with_reducible exact impl_joining_joins.mono _ _ _)
   | (with_reducible exact impl_joining_next.mono _ _ _)
   | (with_reducible exact LeO.refl _)
   | (with_reducible exact LeO.none _)
   | (with_reducible refine LeO.ite ?_ ?_)
   | (with_reducible refine LeO.bind ?_ (fun _ => ?_))
   | exact ih0 _ _ _ _ _
   | exact impl_joining_joins.mono _ _ _
   | exact impl_joining_next.mono _ _ _
   | exact LeO.none _
   | refine LeO.ite ?_ ?_
   | refine LeO.bind ?_ (fun _ => ?_)
theorem impl_joined.mono : ∀ a0 k, LeO (impl_joined.f k a0) (impl_joined.f (k + 1) a0) := by
 intro a0 k; have ih0 := impl_joined.mono_l k; unfold impl_joined.f
 repeat' first
   | (with_reducible exact ih0 _ _ _ _ _)
   | (with_reducible exact impl_joining_joins.mono _ _ _)
   | (with_reducible exact impl_joining_next.mono _ _ _)
   | (with_reducible exact LeO.refl _)
   | (with_reducible exact LeO.none _)
   | (with_reducible refine LeO.ite ?_ ?_)
   | (with_reducible refine LeO.bind ?_ (fun _ => ?_))
   | exact ih0 _ _ _ _ _
   | exact impl_joining_joins.mono _ _ _
   | exact impl_joining_next.mono _ _ _
   | exact LeO.none _
   | refine LeO.ite ?_ ?_
   | refine LeO.bind ?_ (fun _ => ?_)
theorem impl_joined.calls (k : Nat) (A0 : Option Addr) (c0 : Nat) (l0 : List Int) (r : List Bool) (w : World) (hr0 : Kd.C (Kd.int .i64) w A0 l0.length l0) (hc0 : l0.length ≤ c0) (h : impl_joined.f k l0 = some r) :
  Calls Tryz.prog 79 #[.slice A0 l0.length c0] w fun e w' => ∃ v0_ : Value, e = .returned (v0_) ∧ Kd.R Kd.bool 4 w' w.heap.size (fun _ => True) v0_ r ∧ Below w.heap.size w w' := by
 have HR0 := az hr0; have HC0 := az hc0; clear hr0 hc0; have HB := az (Below.refl w.heap.size w); have H : (impl_joined.l0 k ([] : List Bool) 0 l0 (l0.length : Int) 0) = some r := h; clear h; have H' := az H; clear H; go_enter Tryz.func79, Tryz.ntmps79; go_wp2; go_loopg [3, 4, 9] k (fun kq v3 v4 v9 w' => ∃ (x3_1 : List Bool) (x4_1 : Int) (x9_1 : Int), v4 = .int .i64 x4_1 ∧ v9 = .int .i64 x9_1 ∧ Aside0 (impl_joined.l0 kq x3_1 x4_1 l0 (l0.length : Int) x9_1 = some r) ∧ Aside0 (kq ≤ k) ∧ Aside0 (Kd.R Kd.bool 4 w' w.heap.size (fun _ => True) v3 x3_1) ∧ Aside0 (Below w.heap.size w w'))
 case atStart => exact ⟨(([] : List Bool)), (0), (0), zB, zB, H', ⟨Nat.le_refl _⟩, ⟨zU⟩, ⟨zA HB.out⟩⟩
 case round =>
  clear H'; obtain ⟨x3_1, x4_1, x9_1, rfl, rfl, HA, HK1, HO_3, HB⟩ := hrel
  cases gk with
  | zero => exact absurd HA.out (by simp [impl_joined.l0])
  | succ k1 =>
   have H := HA.out; clear HA; simp only [impl_joined.l0] at H; by_cases c2 : x9_1 < (l0.length : Int)
   ·
    rw [if_pos c2] at H; have c2b0 : decide (x9_1 < (l0.length : Int)) = true := decide_eq_true c2; clear c2; by_cases c3 : 0 ≤ x9_1
    ·
     rw [if_pos c3] at H; have c3b0 : decide (0 ≤ x9_1) = true := decide_eq_true c3; clear c3; by_cases c4 : x9_1 < (l0.length : Int)
     ·
      rw [if_pos c4] at H; have c4b0 : decide (x9_1 < (l0.length : Int)) = true := decide_eq_true c4; clear c4; replace H := Option.bind_eq_some_iff.mp H; obtain ⟨t315, A50, H⟩ := H; replace H : (if x3_1.length < 140737488355328 then ((impl_joining_next.f k1 x4_1 (rd l0 x9_1)).bind fun t319 => (impl_joined.l0 k1 (x3_1 ++ [t315]) t319 l0 (l0.length : Int) (wrap64 (x9_1 + 1)))) else (none)) = some r := H; have A5 := az A50; clear A50; by_cases c6 : x3_1.length < 140737488355328
      ·
       rw [if_pos c6] at H; have LMc6 := az c6; clear c6; obtain ⟨y316, hy316⟩ : ∃ y_ : List Bool, y_ = (x3_1 ++ [t315]) := ⟨_, rfl⟩; replace H : ((impl_joining_next.f k1 x4_1 (rd l0 x9_1)).bind fun t319 => (impl_joined.l0 k1 y316 t319 l0 (l0.length : Int) (wrap64 (x9_1 + 1)))) = some r := by first | (rw [hy316]; with_reducible exact H) | (have H2_ := (Option.bind_some _ _).symm.trans H; rw [hy316]; with_reducible exact H2_) | (have H2_ := (Option.bind_some _ _).symm.trans H; with_reducible exact H2_) | with_reducible exact H | (rw [hy316]; exact H) | exact H
       have Ny316 := az hy316; clear hy316; replace H := Option.bind_eq_some_iff.mp H; obtain ⟨t319, A70, H⟩ := H; replace H : (impl_joined.l0 k1 y316 t319 l0 (l0.length : Int) (wrap64 (x9_1 + 1))) = some r := H; have A7 := az A70; clear A70; have H' := az H; clear H; have p314 : 0 ≤ (x9_1 : Int) := of_decide_eq_true (by assumption); have q314 : x9_1 < (l0.length : Int) := of_decide_eq_true (by assumption); obtain ⟨ad314, e314, hx314_0⟩ := Kd.at_int HR0.out x9_1 p314 q314
       cases e314
       replace hx314_0 := (HB.out.cell (World.block_lt_of_cell? w _ hx314_0)).trans hx314_0; replace p314 := eq_true p314; replace q314 := eq_true q314; go_wp2_with (first | ((with_reducible refine gate_callee (f := 99) rfl ?_); refine goesL_ (some 16) rfl rfl Tryz.func99 (by kernel_rfl) rfl #[.int .i64 x4_1, .int .i64 (rd l0 x9_1)] rfl zC ?_; (with_reducible refine (impl_joining_joins.calls k1 x4_1 (rd l0 x9_1) t315 _ A5.out).mono ?_); rintro e w8 ⟨rfl, hb⟩; refine ⟨_, rfl, ?_⟩; have n0_ := az (Kd.R_below (zF HO_3.out) hb); have n1_ := az (below_step (zA HB.out) hb); clear HO_3; clear HB; have HO_3 := n0_; have HB := n1_; clear n0_ n1_; (try clear hb); (try clear hb2); (try clear hk); (try clear hi)) | ((with_reducible refine gate_builtin (b := .append) (xs := #[.tmp 13, .tmp 17]) rfl ?_); at_builtin; refine Kd.R_append Kd.bool (w0 := w) w.heap.size rfl (.tmp 13) (.tmp 17) 89 4 (.bool false) 1 rfl Tryz.underlying89 info4 rfl (by decide) (by omega) u3 x3_1 t315 [.bool t315] (fun _ => True) (fun _ => False) rfl rfl ?aP (fun _ hk => hk.elim) ?aF ?aO ?aB ?aS ?aL ?_; (case aP => exact rfl); (case aB => exact (zA HB.out)); (case aF => exact (fun _ _ => trivial)); (case aO => exact (zF HO_3.out)); (case aS => exact (below_size (zA HB.out))); (case aL => have := LMc6.out; omega); intro v317 w9 ho hb hg hat; rw [← Ny316.out] at ho; have n0_ := az (hb); have n1_ := az (ho); clear HB; clear HO_3; have HB := n0_; have HO318 := n1_; clear n0_ n1_; clear ho hb hg hat) | ((with_reducible refine gate_callee (f := 100) rfl ?_); refine goesL_ (some 21) rfl rfl Tryz.func100 (by kernel_rfl) rfl #[.int .i64 x4_1, .int .i64 (rd l0 x9_1)] rfl zC ?_; (with_reducible refine (impl_joining_next.calls k1 x4_1 (rd l0 x9_1) t319 _ A7.out).mono ?_); rintro e w' ⟨rfl, ⟨nd, rfl⟩⟩; refine ⟨_, rfl, ?_⟩)); go_roundg k1
       case measure => have := HK1.out; omega
       case rel => exact ⟨(y316), (t319), (wrap64 (x9_1 + 1)), zB, zB, H', ⟨zE HK1.out⟩, ⟨zF HO318.out⟩, ⟨zA HB.out⟩⟩
      ·
       rw [if_neg c6] at H; exact absurd H (by simp)
     ·
      rw [if_neg c4] at H; exact absurd H (by simp)
    ·
     rw [if_neg c3] at H; exact absurd H (by simp)
   ·
    rw [if_neg c2] at H; have c2b0 : decide (x9_1 < (l0.length : Int)) = false := decide_eq_false c2; clear c2; obtain rfl := Option.some.inj H; go_wp2; go_ret; exact ⟨_, zG, zF HO_3.out, zA HB.out⟩
def impl_startOf.l0 : Nat → Int → List Bool → Option (Int)
 | 0, _, _ => none
 | k + 1, x1, x5 => if 0 ≤ x1 then (if x1 < (x5.length : Int) then (if rdOf false x5 x1 = true then (impl_startOf.l0 k (wrap64 (x1 - 1)) x5) else (some x1)) else (none)) else (none)
def impl_startOf.f (k : Nat) (l0 : List Int) (a1 : Int) : Option (Int) := (impl_joined.f k l0).bind fun t447 => (impl_startOf.l0 k a1 t447)
theorem impl_startOf.mono_l : ∀ k, (∀ y0 y1, LeO (impl_startOf.l0 k y0 y1) (impl_startOf.l0 (k + 1) y0 y1))
 | 0 => fun _ _ r h => by simp [impl_startOf.l0] at h
 | k + 1 => by
  have ih0 := impl_startOf.mono_l k
  ·
   intro y0 y1; unfold impl_startOf.l0
   repeat' first
   | (with_reducible exact ih0 _ _)
   | (with_reducible exact impl_joined.mono _ _)
   | (with_reducible exact LeO.refl _)
   | (with_reducible exact LeO.none _)
   | (with_reducible refine LeO.ite ?_ ?_)
   | (with_reducible refine LeO.bind ?_ (fun _ => ?_))
   | exact ih0 _ _
   | exact impl_joined.mono _ _
   | exact LeO.none _
   | refine LeO.ite ?_ ?_
   | refine LeO.bind ?_ (fun _ => ?_)
theorem impl_startOf.mono : ∀ a0 a1 k, LeO (impl_startOf.f k a0 a1) (impl_startOf.f (k + 1) a0 a1) := by
 intro a0 a1 k; have ih0 := impl_startOf.mono_l k; unfold impl_startOf.f
 repeat' first
   | (with_reducible exact ih0 _ _)
   | (with_reducible exact impl_joined.mono _ _)
   | (with_reducible exact LeO.refl _)
   | (with_reducible exact LeO.none _)
   | (with_reducible refine LeO.ite ?_ ?_)
   | (with_reducible refine LeO.bind ?_ (fun _ => ?_))
   | exact ih0 _ _
   | exact impl_joined.mono _ _
   | exact LeO.none _
   | refine LeO.ite ?_ ?_
   | refine LeO.bind ?_ (fun _ => ?_)
theorem impl_startOf.calls (k : Nat) (A0 : Option Addr) (c0 : Nat) (l0 : List Int) (a1 : Int) (r : Int) (w : World) (hr0 : Kd.C (Kd.int .i64) w A0 l0.length l0) (hc0 : l0.length ≤ c0) (h : impl_startOf.f k l0 a1 = some r) :
  Calls Tryz.prog 61 #[.slice A0 l0.length c0, .int .i64 a1] w fun e w' => e = .returned (.int .i64 r) ∧ Below w.heap.size w w' := by
 have HR0 := az hr0; have HC0 := az hc0; clear hr0 hc0; have HB := az (Below.refl w.heap.size w); have H : ((impl_joined.f k l0).bind fun t447 => (impl_startOf.l0 k a1 t447)) = some r := h; clear h; replace H := Option.bind_eq_some_iff.mp H; obtain ⟨t447, A30, H⟩ := H; replace H : (impl_startOf.l0 k a1 t447) = some r := H; have A3 := az A30; clear A30; have H' := az H; clear H; go_enter Tryz.func61, Tryz.ntmps61; go_wp2_with (first | ((with_reducible refine gate_callee (f := 79) rfl ?_); refine goesL_ (some 7) rfl rfl Tryz.func79 (by kernel_rfl) rfl #[.slice A0 l0.length c0] rfl zC ?_; (with_reducible refine (impl_joined.calls k _ _ l0 t447 _ ?side1 ?side2 A3.out).mono ?_); (case side1 => exact (zN HR0.out)); (case side2 => exact HC0.out); rintro e w4 ⟨v448, rfl, ho0, hb⟩; refine ⟨_, rfl, ?_⟩; have n0_ := az (Kd.R_lower ho0 (below_size (zA HB.out))); have n1_ := az (below_step (zA HB.out) hb); clear HB; have HO449 := n0_; have HB := n1_; clear n0_ n1_; (try clear hb); (try clear hb2); (try clear hk); (try clear hi); (try clear ho0))); go_loopg [1] k (fun kq v1 w' => ∃ (x1_1 : Int), v1 = .int .i64 x1_1 ∧ Aside0 (impl_startOf.l0 kq x1_1 t447 = some r) ∧ Aside0 (kq ≤ k) ∧ Aside0 (Kd.R Kd.bool 4 w' w.heap.size (fun _ => True) v448 t447) ∧ Aside0 (Below w.heap.size w w'))
 case atStart => exact ⟨(a1), zB, H', ⟨Nat.le_refl _⟩, ⟨zF HO449.out⟩, ⟨zA HB.out⟩⟩
 case round =>
  clear H'; (try clear p2); obtain ⟨x1_1, rfl, HA, HK1, HO_5, HB⟩ := hrel
  cases gk with
  | zero => exact absurd HA.out (by simp [impl_startOf.l0])
  | succ k1 =>
   have H := HA.out; clear HA; simp only [impl_startOf.l0] at H; by_cases c5 : 0 ≤ x1_1
   ·
    rw [if_pos c5] at H; have c5b0 : decide (0 ≤ x1_1) = true := decide_eq_true c5; clear c5; by_cases c6 : x1_1 < (t447.length : Int)
    ·
     rw [if_pos c6] at H; have c6b0 : decide (x1_1 < (t447.length : Int)) = true := decide_eq_true c6; clear c6; obtain ⟨bq7, hbq7⟩ : ∃ b_ : Bool, b_ = (rdOf false t447 x1_1) := ⟨_, rfl⟩; replace H : (if bq7 = true then (impl_startOf.l0 k1 (wrap64 (x1_1 - 1)) t447) else (some x1_1)) = some r := by rw [← hbq7] at H; exact H
     have Nbq7 := az hbq7; clear hbq7; by_cases c8 : bq7 = true
     ·
      subst c8; have H1 : (impl_startOf.l0 k1 (wrap64 (x1_1 - 1)) t447) = some r := by rw [if_pos rfl] at H; exact H
      clear H; have H := H1; clear H1; have H' := az H; clear H; obtain ⟨Ao9, co9, eo9⟩ := Kd.R_slice HO_5.out; subst eo9; have p450 : 0 ≤ (x1_1 : Int) := of_decide_eq_true (by assumption); have q450 : x1_1 < (t447.length : Int) := of_decide_eq_true (by assumption); obtain ⟨ad450, e450, hx450_0⟩ := Kd.at_bool (Kd.R_reads' HO_5.out).2.2 x1_1 p450 q450; (try rw [← Nbq7.out] at hx450_0)
      cases e450
      replace p450 := eq_true p450; replace q450 := eq_true q450; go_wp2; go_roundg k1
      case measure => have := HK1.out; omega
      case rel => exact ⟨(wrap64 (x1_1 - 1)), zB, H', ⟨zE HK1.out⟩, ⟨zF HO_5.out⟩, ⟨zA HB.out⟩⟩
     ·
      replace c8 := Bool.eq_false_iff.mpr c8; subst c8; have H1 : (some x1_1) = some r := by rw [if_neg (show ¬ (false = true) by decide)] at H; exact H
      clear H; have H := H1; clear H1; obtain rfl := Option.some.inj H; obtain ⟨Ao10, co10, eo10⟩ := Kd.R_slice HO_5.out; subst eo10; have p450 : 0 ≤ (x1_1 : Int) := of_decide_eq_true (by assumption); have q450 : x1_1 < (t447.length : Int) := of_decide_eq_true (by assumption); obtain ⟨ad450, e450, hx450_0⟩ := Kd.at_bool (Kd.R_reads' HO_5.out).2.2 x1_1 p450 q450; (try rw [← Nbq7.out] at hx450_0)
      cases e450
      replace p450 := eq_true p450; replace q450 := eq_true q450; go_wp2; go_ret; exact ⟨zG, zA HB.out⟩
    ·
     rw [if_neg c6] at H; exact absurd H (by simp)
   ·
    rw [if_neg c5] at H; exact absurd H (by simp)
def impl_ClusterAt.f (k : Nat) (l0 : List Int) (a1 : Int) : Option (Int) := (impl_lettersOk.f l0).bind fun t451 => (if t451 = true then (if a1 < 0 then (some (-1)) else (if a1 ≥ (l0.length : Int) then (some (-1)) else ((impl_startOf.f k l0 a1).bind fun t452 => (some t452)))) else (some (-1)))
theorem impl_ClusterAt.mono : ∀ a0 a1 k, LeO (impl_ClusterAt.f k a0 a1) (impl_ClusterAt.f (k + 1) a0 a1) := by
 intro a0 a1 k; unfold impl_ClusterAt.f
 repeat' first
   | (with_reducible exact impl_startOf.mono _ _ _)
   | (with_reducible exact LeO.refl _)
   | (with_reducible exact LeO.none _)
   | (with_reducible refine LeO.ite ?_ ?_)
   | (with_reducible refine LeO.bind ?_ (fun _ => ?_))
   | exact impl_startOf.mono _ _ _
   | exact LeO.none _
   | refine LeO.ite ?_ ?_
   | refine LeO.bind ?_ (fun _ => ?_)
theorem impl_ClusterAt.calls (k : Nat) (A0 : Option Addr) (c0 : Nat) (l0 : List Int) (a1 : Int) (r : Int) (w : World) (hr0 : Kd.C (Kd.int .i64) w A0 l0.length l0) (hc0 : l0.length ≤ c0) (h : impl_ClusterAt.f k l0 a1 = some r) :
  Calls Tryz.prog 30 #[.slice A0 l0.length c0, .int .i64 a1] w fun e w' => e = .returned (.int .i64 r) ∧ Below w.heap.size w w' := by
 have HR0 := az hr0; have HC0 := az hc0; clear hr0 hc0; have HB := az (Below.refl w.heap.size w); have H : ((impl_lettersOk.f l0).bind fun t451 => (if t451 = true then (if a1 < 0 then (some (-1)) else (if a1 ≥ (l0.length : Int) then (some (-1)) else ((impl_startOf.f k l0 a1).bind fun t452 => (some t452)))) else (some (-1)))) = some r := h; clear h; replace H := Option.bind_eq_some_iff.mp H; obtain ⟨t451, A30, H⟩ := H; replace H : (if t451 = true then (if a1 < 0 then (some (-1)) else (if a1 ≥ (l0.length : Int) then (some (-1)) else ((impl_startOf.f k l0 a1).bind fun t452 => (some t452)))) else (some (-1))) = some r := H; have A3 := az A30; clear A30; by_cases c4 : t451 = true
 ·
  subst c4; have H1 : (if a1 < 0 then (some (-1)) else (if a1 ≥ (l0.length : Int) then (some (-1)) else ((impl_startOf.f k l0 a1).bind fun t452 => (some t452)))) = some r := by rw [if_pos rfl] at H; exact H
  clear H; have H := H1; clear H1; by_cases c5 : a1 < 0
  ·
   rw [if_pos c5] at H; have c5b0 : decide (a1 < 0) = true := decide_eq_true c5; clear c5; obtain rfl := Option.some.inj H; go_enter Tryz.func30, Tryz.ntmps30; go_wp2_with (first | ((with_reducible refine gate_callee (f := 48) rfl ?_); refine goesL_ (some 6) rfl rfl Tryz.func48 (by kernel_rfl) rfl #[.slice A0 l0.length c0] rfl zC ?_; (with_reducible refine (impl_lettersOk.calls _ _ l0 true _ ?side1 ?side2 A3.out).mono ?_); (case side1 => exact (zN HR0.out)); (case side2 => exact HC0.out); rintro e w6 ⟨rfl, hb⟩; refine ⟨_, rfl, ?_⟩; have n0_ := az (below_step (zA HB.out) hb); clear HB; have HB := n0_; clear n0_; (try clear hb); (try clear hb2); (try clear hk); (try clear hi))); go_ret; exact ⟨zG, zA HB.out⟩
  ·
   rw [if_neg c5] at H; have c5b0 : decide (a1 < 0) = false := decide_eq_false c5; clear c5; by_cases c7 : a1 ≥ (l0.length : Int)
   ·
    rw [if_pos c7] at H; have c7b0 : decide ((l0.length : Int) ≤ a1) = true := decide_eq_true c7; clear c7; obtain rfl := Option.some.inj H; go_enter Tryz.func30, Tryz.ntmps30; go_wp2_with (first | ((with_reducible refine gate_callee (f := 48) rfl ?_); refine goesL_ (some 6) rfl rfl Tryz.func48 (by kernel_rfl) rfl #[.slice A0 l0.length c0] rfl zC ?_; (with_reducible refine (impl_lettersOk.calls _ _ l0 true _ ?side1 ?side2 A3.out).mono ?_); (case side1 => exact (zN HR0.out)); (case side2 => exact HC0.out); rintro e w8 ⟨rfl, hb⟩; refine ⟨_, rfl, ?_⟩; have n0_ := az (below_step (zA HB.out) hb); clear HB; have HB := n0_; clear n0_; (try clear hb); (try clear hb2); (try clear hk); (try clear hi))); go_ret; exact ⟨zG, zA HB.out⟩
   ·
    rw [if_neg c7] at H; have c7b0 : decide ((l0.length : Int) ≤ a1) = false := decide_eq_false c7; clear c7; replace H := Option.bind_eq_some_iff.mp H; obtain ⟨t452, A90, H⟩ := H; replace H : (some t452) = some r := H; have A9 := az A90; clear A90; obtain rfl := Option.some.inj H; go_enter Tryz.func30, Tryz.ntmps30; go_wp2_with (first | ((with_reducible refine gate_callee (f := 48) rfl ?_); refine goesL_ (some 6) rfl rfl Tryz.func48 (by kernel_rfl) rfl #[.slice A0 l0.length c0] rfl zC ?_; (with_reducible refine (impl_lettersOk.calls _ _ l0 true _ ?side1 ?side2 A3.out).mono ?_); (case side1 => exact (zN HR0.out)); (case side2 => exact HC0.out); rintro e w10 ⟨rfl, hb⟩; refine ⟨_, rfl, ?_⟩; have n0_ := az (below_step (zA HB.out) hb); clear HB; have HB := n0_; clear n0_; (try clear hb); (try clear hb2); (try clear hk); (try clear hi)) | ((with_reducible refine gate_callee (f := 61) rfl ?_); refine goesL_ (some 20) rfl rfl Tryz.func61 (by kernel_rfl) rfl #[.slice A0 l0.length c0, .int .i64 a1] rfl zC ?_; (with_reducible refine (impl_startOf.calls k _ _ l0 a1 t452 _ ?side1 ?side2 A9.out).mono ?_); (case side1 => exact (zM HR0.out HB.out)); (case side2 => exact HC0.out); rintro e w11 ⟨rfl, hb⟩; refine ⟨_, rfl, ?_⟩; have n0_ := az (below_step (zA HB.out) hb); clear HB; have HB := n0_; clear n0_; (try clear hb); (try clear hb2); (try clear hk); (try clear hi))); go_ret; exact ⟨zG, zA HB.out⟩
 ·
  replace c4 := Bool.eq_false_iff.mpr c4; subst c4; have H1 : (some (-1)) = some r := by rw [if_neg (show ¬ (false = true) by decide)] at H; exact H
  clear H; have H := H1; clear H1; obtain rfl := Option.some.inj H; go_enter Tryz.func30, Tryz.ntmps30; go_wp2_with (first | ((with_reducible refine gate_callee (f := 48) rfl ?_); refine goesL_ (some 6) rfl rfl Tryz.func48 (by kernel_rfl) rfl #[.slice A0 l0.length c0] rfl zC ?_; (with_reducible refine (impl_lettersOk.calls _ _ l0 false _ ?side1 ?side2 A3.out).mono ?_); (case side1 => exact (zN HR0.out)); (case side2 => exact HC0.out); rintro e w12 ⟨rfl, hb⟩; refine ⟨_, rfl, ?_⟩; have n0_ := az (below_step (zA HB.out) hb); clear HB; have HB := n0_; clear n0_; (try clear hb); (try clear hb2); (try clear hk); (try clear hi))); go_ret; exact ⟨zG, zA HB.out⟩
structure Tod (is : List (Nat × Nat)) (p : Prop) : Prop where
 out : p
theorem Tod.pu {P : Program} {md : Region.Mode} {ops : Array Oper} {Q : Exit → Act → World → Prop} {S : World → Prop} {ds : List Nat} {is : List (Nat × Nat)} {i d fuel : Nat} {oi : Oper} {v : Value} {l : Array Bool} {a : Act} {w : World} (hi : ops[i]? = some oi) (hN : oi.dst = some d) (hc : anyB md ops l (l.setIfInBounds i true) i = true) (hQ : ∀ c a w, Q (.panic c) (a.put oi.dst v) w → Q (.panic c) a w) (hy : Yields P ops oi v a) {a' : Act} (ha : a.put (some d) v = a') (h : Tod is (wpAnyLast P md ops Q S ds fuel (l.setIfInBounds i true) a' w)) : Tod ((i, d) :: is) (wpAnyLast P md ops Q S ds (fuel + 1) l a w) := ⟨pure_ _ hi hN hc hQ hy ha h.out⟩
theorem Tod.ta {P : Program} {md : Region.Mode} {ops : Array Oper} {Q : Exit → Act → World → Prop} {S : World → Prop} {ds : List Nat} {is : List (Nat × Nat)} {i d fuel : Nat} {oi : Oper} {v : Value} {l : Array Bool} {a : Act} {w : World} (hi : ops[i]? = some oi) (hN : oi.dst = some d) (hc : takeB md ops ds l (l.setIfInBounds i true) i = true) (hQ : ∀ c a w, Q (.panic c) (a.put oi.dst v) w → Q (.panic c) a w) (hy : YieldsIf P ops S oi v a) (hS : S w) {a' : Act} (ha : a.put (some d) v = a') (h : Tod is (wpAnyLast P md ops Q S ds fuel (l.setIfInBounds i true) a' w)) : Tod ((i, d) :: is) (wpAnyLast P md ops Q S ds (fuel + 1) l a w) := ⟨take_ _ hi hN hc hQ hy hS ha h.out⟩
theorem Tod.on {P : Program} {md : Region.Mode} {ops : Array Oper} {Q : Exit → Act → World → Prop} {S : World → Prop} {ds : List Nat} {is : List (Nat × Nat)} {i d fuel : Nat} {oi : Oper} {l : Array Bool} {a : Act} {w : World} (hi : ops[i]? = some oi) (hN : oi.dst = some d) (hc : readyB md ops l (l.setIfInBounds i true) i = true) (hd : i ∉ ds) (h : ∀ K : Act → World → Prop, Shut (∀ a' w', S w' → (S w' → Tod is (wpAnyLast P md ops Q S ds fuel (l.setIfInBounds i true) a' w')) → K a' w') → if Region.wanted oi (yielded ops a.tmps) = true then Oper.wp P oi a w K Q else K (a.put (some d) undef) w) : Tod ((i, d) :: is) (wpAnyLast P md ops Q S ds (fuel + 1) l a w) := ⟨one_ _ hi hN hc hd (fun K hK => h K (show ∀ a w, _ → _ → K a w from fun a w h1 h2 => hK.out a w h1 (fun h3 => (h2 h3).out)))⟩
theorem Tod.no {is : List (Nat × Nat)} {P : Program} {md : Region.Mode} {ops : Array Oper} {Q : Exit → Act → World → Prop} {S : World → Prop} {ds : List Nat} {fuel : Nat} {l : Array Bool} {a a' : Act} {w : World} (ha : a = a') (h : Tod is (wpAnyLast P md ops Q S ds fuel l a' w)) : Tod is (wpAnyLast P md ops Q S ds fuel l a w) := ha ▸ h
theorem Tod.dn {P : Program} {md : Region.Mode} {ops : Array Oper} {Q : Exit → Act → World → Prop} {S : World → Prop} {ds : List Nat} {n : Nat} {l : Array Bool} {a : Act} {w : World} (hr : (Region.ready md ops l == []) = true) (h : Q .normal a w) : Tod [] (wpAnyLast P md ops Q S ds n l a w) := ⟨done_ hr h⟩
theorem Tod.st {P : Program} {ops : Array Oper} {Q : Exit → Act → World → Prop} {id : Nat} (n : Nat) (is : List (Nat × Nat)) (S : World → Prop) {a : Act} {w : World} (hm : P.follows .mixedOrders = true) (hn : ops.size = n) (hS : S w.drew) (h : ∀ wz, wz = w.drew → S wz → Tod is (wpAnyLast P .any ops Q S [] n (Array.replicate n false) a wz)) : (Code.region id ops true).wp P Q a w := start_ _ hm hn rfl hS (fun h2 => (h _ rfl h2).out)
def spec_l1In.f (a0 : Int) (a1 : Int) (a2 : Int) : Option (Bool) := if a0 ≥ a1 then (some (decide (a0 ≤ a2))) else (some false)
theorem spec_l1In.calls (a0 : Int) (a1 : Int) (a2 : Int) (r : Bool) (w : World) (h : spec_l1In.f a0 a1 a2 = some r) :
  Calls Tryz.prog 36 #[.int .i64 a0, .int .i64 a1, .int .i64 a2] w fun e w' => e = .returned (.bool r) ∧ Drawn0 w w' := by
 have H : (if a0 ≥ a1 then (some (decide (a0 ≤ a2))) else (some false)) = some r := h
 clear h
 by_cases c4 : a0 ≥ a1
 ·
  rw [if_pos c4] at H
  have c4b0 : decide (a1 ≤ a0) = true := decide_eq_true c4
  clear c4
  obtain rfl := Option.some.inj H
  go_enter Tryz.func36, Tryz.ntmps36
  go_wp2
  go_ret
  exact ⟨zB, zD⟩
 ·
  rw [if_neg c4] at H
  have c4b0 : decide (a1 ≤ a0) = false := decide_eq_false c4
  clear c4
  obtain rfl := Option.some.inj H
  go_enter Tryz.func36, Tryz.ntmps36
  go_wp2
  go_ret
  exact ⟨zB, zD⟩
def spec_l6Ok.f (a0_0 : Int) (a0_1 : Int) (a0_2 : Int) (a0_3 : Int) (a1 : Int) : Option (Bool) := (spec_l1In.f a0_0 0 (wrap64 (a1 - 1))).bind fun t109 => (if t109 = true then ((spec_l1In.f a0_1 (wrap64 (a0_0 + 1)) a1).bind fun t110 => (if t110 = true then ((spec_l1In.f a0_2 1 40).bind fun t111 => (if t111 = true then ((spec_l1In.f a0_3 0 9).bind fun t112 => (some t112)) else (some false))) else (some false))) else (some false))
theorem spec_l6Ok.calls (a0_0 : Int) (a0_1 : Int) (a0_2 : Int) (a0_3 : Int) (a1 : Int) (r : Bool) (w : World) (h : spec_l6Ok.f a0_0 a0_1 a0_2 a0_3 a1 = some r) :
  Calls Tryz.prog 96 #[.agg #[.int .i64 a0_0, .int .i64 a0_1, .int .i64 a0_2, .int .i64 a0_3], .int .i64 a1] w fun e w' => e = .returned (.bool r) ∧ Below w.heap.size w w' := by
 have hu50 := Tryz.underlying50; have HB := az (Below.refl w.heap.size w); have H : ((spec_l1In.f a0_0 0 (wrap64 (a1 - 1))).bind fun t109 => (if t109 = true then ((spec_l1In.f a0_1 (wrap64 (a0_0 + 1)) a1).bind fun t110 => (if t110 = true then ((spec_l1In.f a0_2 1 40).bind fun t111 => (if t111 = true then ((spec_l1In.f a0_3 0 9).bind fun t112 => (some t112)) else (some false))) else (some false))) else (some false))) = some r := h; clear h; replace H := Option.bind_eq_some_iff.mp H; obtain ⟨t109, A30, H⟩ := H; replace H : (if t109 = true then ((spec_l1In.f a0_1 (wrap64 (a0_0 + 1)) a1).bind fun t110 => (if t110 = true then ((spec_l1In.f a0_2 1 40).bind fun t111 => (if t111 = true then ((spec_l1In.f a0_3 0 9).bind fun t112 => (some t112)) else (some false))) else (some false))) else (some false)) = some r := H; have A3 := az A30; clear A30; by_cases c4 : t109 = true
 ·
  subst c4; have H1 : ((spec_l1In.f a0_1 (wrap64 (a0_0 + 1)) a1).bind fun t110 => (if t110 = true then ((spec_l1In.f a0_2 1 40).bind fun t111 => (if t111 = true then ((spec_l1In.f a0_3 0 9).bind fun t112 => (some t112)) else (some false))) else (some false))) = some r := by rw [if_pos rfl] at H; exact H
  clear H; have H := H1; clear H1; replace H := Option.bind_eq_some_iff.mp H; obtain ⟨t110, A50, H⟩ := H; replace H : (if t110 = true then ((spec_l1In.f a0_2 1 40).bind fun t111 => (if t111 = true then ((spec_l1In.f a0_3 0 9).bind fun t112 => (some t112)) else (some false))) else (some false)) = some r := H; have A5 := az A50; clear A50; by_cases c6 : t110 = true
  ·
   subst c6; have H1 : ((spec_l1In.f a0_2 1 40).bind fun t111 => (if t111 = true then ((spec_l1In.f a0_3 0 9).bind fun t112 => (some t112)) else (some false))) = some r := by rw [if_pos rfl] at H; exact H
   clear H; have H := H1; clear H1; replace H := Option.bind_eq_some_iff.mp H; obtain ⟨t111, A70, H⟩ := H; replace H : (if t111 = true then ((spec_l1In.f a0_3 0 9).bind fun t112 => (some t112)) else (some false)) = some r := H; have A7 := az A70; clear A70; by_cases c8 : t111 = true
   ·
    subst c8; have H1 : ((spec_l1In.f a0_3 0 9).bind fun t112 => (some t112)) = some r := by rw [if_pos rfl] at H; exact H
    clear H; have H := H1; clear H1; replace H := Option.bind_eq_some_iff.mp H; obtain ⟨t112, A90, H⟩ := H; replace H : (some t112) = some r := H; have A9 := az A90; clear A90; obtain rfl := Option.some.inj H; go_enter Tryz.func96, Tryz.ntmps96; go_wp2_with (first | ((with_reducible refine gate_dst (N := 2) rfl ?_); refine box_event ?hg (N := 2) ?hd (cs := #[.int .i64 a0_0, .int .i64 a0_1, .int .i64 a0_2, .int .i64 a0_3]) (t := 50) ?hr ?_; (case hd => rfl); (case hg => rfl); (case hr => first | (go_simp; done) | (go_simp; rfl)); intro gb108 hg w10 hbox hb; have n0_ := az (below_step (zA HB.out) hb); have n1_ := az (hbox); have n2_ := az ((by rw [hg]; exact (below_size (zA HB.out)) : w.heap.size ≤ gb108)); have n3_ := az ((by rw [hg]; exact (below_size (zA HB.out)) : w.heap.size ≤ gb108)); clear HB; have HB := n0_; have BK108 := n1_; have GW108 := n2_; have GE108 := n3_; clear n0_ n1_ n2_ n3_; clear hb hbox hg; have hcz11_0 : w10.cell? ⟨gb108, 0, none⟩ = some (.int .i64 a0_0) := (blk_cell BK108.out 0).trans rfl; have hcz11_1 : w10.cell? ⟨gb108, 1, none⟩ = some (.int .i64 a0_1) := (blk_cell BK108.out 1).trans rfl; have hcz11_2 : w10.cell? ⟨gb108, 2, none⟩ = some (.int .i64 a0_2) := (blk_cell BK108.out 2).trans rfl; have hcz11_3 : w10.cell? ⟨gb108, 3, none⟩ = some (.int .i64 a0_3) := (blk_cell BK108.out 3).trans rfl; have hfz11_0 := blk_frozen BK108.out 0; have hfz11_1 := blk_frozen BK108.out 1; have hfz11_2 := blk_frozen BK108.out 2; have hfz11_3 := blk_frozen BK108.out 3) | ((with_reducible refine gate_callee (f := 36) rfl ?_); refine goesL_ (some 9) rfl rfl Tryz.func36 (by kernel_rfl) rfl #[.int .i64 a0_0, .int .i64 0, .int .i64 (wrap64 (a1 - 1))] rfl zC ?_; (with_reducible refine (spec_l1In.calls a0_0 0 (wrap64 (a1 - 1)) true _ A3.out).mono ?_); rintro e w' ⟨rfl, ⟨nd, rfl⟩⟩; refine ⟨_, rfl, ?_⟩) | (go_at_call 36; (with_reducible refine (spec_l1In.calls a0_1 (wrap64 (a0_0 + 1)) a1 true _ A5.out).mono ?_); rintro e w' ⟨rfl, ⟨nd, rfl⟩⟩) | (go_at_call 36; (with_reducible refine (spec_l1In.calls a0_2 1 40 true _ A7.out).mono ?_); rintro e w' ⟨rfl, ⟨nd, rfl⟩⟩) | (go_at_call 36; (with_reducible refine (spec_l1In.calls a0_3 0 9 t112 _ A9.out).mono ?_); rintro e w' ⟨rfl, ⟨nd, rfl⟩⟩)); go_ret; exact ⟨zG, zK HB.out GE108.out⟩
   ·
    replace c8 := Bool.eq_false_iff.mpr c8; subst c8; have H1 : (some false) = some r := by rw [if_neg (show ¬ (false = true) by decide)] at H; exact H
    clear H; have H := H1; clear H1; obtain rfl := Option.some.inj H; go_enter Tryz.func96, Tryz.ntmps96; go_wp2_with (first | ((with_reducible refine gate_dst (N := 2) rfl ?_); refine box_event ?hg (N := 2) ?hd (cs := #[.int .i64 a0_0, .int .i64 a0_1, .int .i64 a0_2, .int .i64 a0_3]) (t := 50) ?hr ?_; (case hd => rfl); (case hg => rfl); (case hr => first | (go_simp; done) | (go_simp; rfl)); intro gb108 hg w12 hbox hb; have n0_ := az (below_step (zA HB.out) hb); have n1_ := az (hbox); have n2_ := az ((by rw [hg]; exact (below_size (zA HB.out)) : w.heap.size ≤ gb108)); have n3_ := az ((by rw [hg]; exact (below_size (zA HB.out)) : w.heap.size ≤ gb108)); clear HB; have HB := n0_; have BK108 := n1_; have GW108 := n2_; have GE108 := n3_; clear n0_ n1_ n2_ n3_; clear hb hbox hg; have hcz13_0 : w12.cell? ⟨gb108, 0, none⟩ = some (.int .i64 a0_0) := (blk_cell BK108.out 0).trans rfl; have hcz13_1 : w12.cell? ⟨gb108, 1, none⟩ = some (.int .i64 a0_1) := (blk_cell BK108.out 1).trans rfl; have hcz13_2 : w12.cell? ⟨gb108, 2, none⟩ = some (.int .i64 a0_2) := (blk_cell BK108.out 2).trans rfl; have hcz13_3 : w12.cell? ⟨gb108, 3, none⟩ = some (.int .i64 a0_3) := (blk_cell BK108.out 3).trans rfl; have hfz13_0 := blk_frozen BK108.out 0; have hfz13_1 := blk_frozen BK108.out 1; have hfz13_2 := blk_frozen BK108.out 2; have hfz13_3 := blk_frozen BK108.out 3) | ((with_reducible refine gate_callee (f := 36) rfl ?_); refine goesL_ (some 9) rfl rfl Tryz.func36 (by kernel_rfl) rfl #[.int .i64 a0_0, .int .i64 0, .int .i64 (wrap64 (a1 - 1))] rfl zC ?_; (with_reducible refine (spec_l1In.calls a0_0 0 (wrap64 (a1 - 1)) true _ A3.out).mono ?_); rintro e w' ⟨rfl, ⟨nd, rfl⟩⟩; refine ⟨_, rfl, ?_⟩) | (go_at_call 36; (with_reducible refine (spec_l1In.calls a0_1 (wrap64 (a0_0 + 1)) a1 true _ A5.out).mono ?_); rintro e w' ⟨rfl, ⟨nd, rfl⟩⟩) | (go_at_call 36; (with_reducible refine (spec_l1In.calls a0_2 1 40 false _ A7.out).mono ?_); rintro e w' ⟨rfl, ⟨nd, rfl⟩⟩)); go_ret; exact ⟨zG, zK HB.out GE108.out⟩
  ·
   replace c6 := Bool.eq_false_iff.mpr c6; subst c6; have H1 : (some false) = some r := by rw [if_neg (show ¬ (false = true) by decide)] at H; exact H
   clear H; have H := H1; clear H1; obtain rfl := Option.some.inj H; go_enter Tryz.func96, Tryz.ntmps96; go_wp2_with (first | ((with_reducible refine gate_dst (N := 2) rfl ?_); refine box_event ?hg (N := 2) ?hd (cs := #[.int .i64 a0_0, .int .i64 a0_1, .int .i64 a0_2, .int .i64 a0_3]) (t := 50) ?hr ?_; (case hd => rfl); (case hg => rfl); (case hr => first | (go_simp; done) | (go_simp; rfl)); intro gb108 hg w14 hbox hb; have n0_ := az (below_step (zA HB.out) hb); have n1_ := az (hbox); have n2_ := az ((by rw [hg]; exact (below_size (zA HB.out)) : w.heap.size ≤ gb108)); have n3_ := az ((by rw [hg]; exact (below_size (zA HB.out)) : w.heap.size ≤ gb108)); clear HB; have HB := n0_; have BK108 := n1_; have GW108 := n2_; have GE108 := n3_; clear n0_ n1_ n2_ n3_; clear hb hbox hg; have hcz15_0 : w14.cell? ⟨gb108, 0, none⟩ = some (.int .i64 a0_0) := (blk_cell BK108.out 0).trans rfl; have hcz15_1 : w14.cell? ⟨gb108, 1, none⟩ = some (.int .i64 a0_1) := (blk_cell BK108.out 1).trans rfl; have hcz15_2 : w14.cell? ⟨gb108, 2, none⟩ = some (.int .i64 a0_2) := (blk_cell BK108.out 2).trans rfl; have hcz15_3 : w14.cell? ⟨gb108, 3, none⟩ = some (.int .i64 a0_3) := (blk_cell BK108.out 3).trans rfl; have hfz15_0 := blk_frozen BK108.out 0; have hfz15_1 := blk_frozen BK108.out 1; have hfz15_2 := blk_frozen BK108.out 2; have hfz15_3 := blk_frozen BK108.out 3) | ((with_reducible refine gate_callee (f := 36) rfl ?_); refine goesL_ (some 9) rfl rfl Tryz.func36 (by kernel_rfl) rfl #[.int .i64 a0_0, .int .i64 0, .int .i64 (wrap64 (a1 - 1))] rfl zC ?_; (with_reducible refine (spec_l1In.calls a0_0 0 (wrap64 (a1 - 1)) true _ A3.out).mono ?_); rintro e w' ⟨rfl, ⟨nd, rfl⟩⟩; refine ⟨_, rfl, ?_⟩) | (go_at_call 36; (with_reducible refine (spec_l1In.calls a0_1 (wrap64 (a0_0 + 1)) a1 false _ A5.out).mono ?_); rintro e w' ⟨rfl, ⟨nd, rfl⟩⟩)); go_ret; exact ⟨zG, zK HB.out GE108.out⟩
 ·
  replace c4 := Bool.eq_false_iff.mpr c4; subst c4; have H1 : (some false) = some r := by rw [if_neg (show ¬ (false = true) by decide)] at H; exact H
  clear H; have H := H1; clear H1; obtain rfl := Option.some.inj H; go_enter Tryz.func96, Tryz.ntmps96; go_wp2_with (first | ((with_reducible refine gate_dst (N := 2) rfl ?_); refine box_event ?hg (N := 2) ?hd (cs := #[.int .i64 a0_0, .int .i64 a0_1, .int .i64 a0_2, .int .i64 a0_3]) (t := 50) ?hr ?_; (case hd => rfl); (case hg => rfl); (case hr => first | (go_simp; done) | (go_simp; rfl)); intro gb108 hg w16 hbox hb; have n0_ := az (below_step (zA HB.out) hb); have n1_ := az (hbox); have n2_ := az ((by rw [hg]; exact (below_size (zA HB.out)) : w.heap.size ≤ gb108)); have n3_ := az ((by rw [hg]; exact (below_size (zA HB.out)) : w.heap.size ≤ gb108)); clear HB; have HB := n0_; have BK108 := n1_; have GW108 := n2_; have GE108 := n3_; clear n0_ n1_ n2_ n3_; clear hb hbox hg; have hcz17_0 : w16.cell? ⟨gb108, 0, none⟩ = some (.int .i64 a0_0) := (blk_cell BK108.out 0).trans rfl; have hcz17_1 : w16.cell? ⟨gb108, 1, none⟩ = some (.int .i64 a0_1) := (blk_cell BK108.out 1).trans rfl; have hcz17_2 : w16.cell? ⟨gb108, 2, none⟩ = some (.int .i64 a0_2) := (blk_cell BK108.out 2).trans rfl; have hcz17_3 : w16.cell? ⟨gb108, 3, none⟩ = some (.int .i64 a0_3) := (blk_cell BK108.out 3).trans rfl; have hfz17_0 := blk_frozen BK108.out 0; have hfz17_1 := blk_frozen BK108.out 1; have hfz17_2 := blk_frozen BK108.out 2; have hfz17_3 := blk_frozen BK108.out 3) | ((with_reducible refine gate_callee (f := 36) rfl ?_); refine goesL_ (some 9) rfl rfl Tryz.func36 (by kernel_rfl) rfl #[.int .i64 a0_0, .int .i64 0, .int .i64 (wrap64 (a1 - 1))] rfl zC ?_; (with_reducible refine (spec_l1In.calls a0_0 0 (wrap64 (a1 - 1)) false _ A3.out).mono ?_); rintro e w' ⟨rfl, ⟨nd, rfl⟩⟩; refine ⟨_, rfl, ?_⟩)); go_ret; exact ⟨zG, zK HB.out GE108.out⟩
def spec_SpansOk.l0 : Nat → List S50 → Int → Int → Option Bool
 | 0, _, _, _ => none
 | k + 1, x0, x1, x5 => if x5 < (x0.length : Int) then (if 0 ≤ x5 then ((spec_l6Ok.f ((rd_T50 x0 x5).f0) ((rd_T50 x0 x5).f1) ((rd_T50 x0 x5).f2) ((rd_T50 x0 x5).f3) x1).bind fun t => (if t = true then (if x5 > 0 then (if 0 ≤ (wrap64 (x5 - 1)) then (if (wrap64 (x5 - 1)) < (x0.length : Int) then (if ((rd_T50 x0 (wrap64 (x5 - 1))).f1) > ((rd_T50 x0 x5).f0) then (some false) else (spec_SpansOk.l0 k x0 x1 (wrap64 (x5 + 1)))) else (none)) else (none)) else (spec_SpansOk.l0 k x0 x1 (wrap64 (x5 + 1)))) else (some false))) else (none)) else (if (x0.length : Int) ≤ 12 then ((spec_l1In.f x1 0 80).bind fun t => (some t)) else (some false))
def spec_SpansOk.f (k : Nat) (l0 : List S50) (a1 : Int) : Option Bool := spec_SpansOk.l0 k l0 a1 0
theorem spec_SpansOk.mono_l : ∀ k x0 x1 x5, LeO (spec_SpansOk.l0 k x0 x1 x5) (spec_SpansOk.l0 (k + 1) x0 x1 x5)
 | 0, _, _, _ => fun r h => by simp [spec_SpansOk.l0] at h
 | k + 1, x0, x1, x5 => by
  have ih := spec_SpansOk.mono_l k
  show LeO (spec_SpansOk.l0 (k + 1) x0 x1 x5) (spec_SpansOk.l0 ((k + 1) + 1) x0 x1 x5)
  unfold spec_SpansOk.l0
  exact LeO.ite (LeO.ite (LeO.bind (LeO.refl _) (fun t => LeO.ite (LeO.ite (LeO.ite (LeO.ite (LeO.ite (LeO.refl _) (ih _ _ _)) (LeO.refl _)) (LeO.refl _)) (ih _ _ _)) (LeO.refl _))) (LeO.refl _)) (LeO.refl _)
theorem spec_SpansOk.mono : ∀ a0 a1 k, LeO (spec_SpansOk.f k a0 a1) (spec_SpansOk.f (k + 1) a0 a1) := fun _ _ k => spec_SpansOk.mono_l k _ _ _
abbrev Sp5 (p0 p1 p2 p3 p4 : Addr) (v0 v1 v2 v3 v4 : Value) (w0 W : World) : Prop := W.cell? p0 = some v0 ∧ W.cell? p1 = some v1 ∧ W.cell? p2 = some v2 ∧ W.cell? p3 = some v3 ∧ W.cell? p4 = some v4 ∧ Aside0 (Below w0.heap.size w0 W)
theorem Sp5.below {p0 p1 p2 p3 p4 : Addr} {v0 v1 v2 v3 v4 : Value} {w0 W W' : World} (h : Sp5 p0 p1 p2 p3 p4 v0 v1 v2 v3 v4 w0 W) (hb : Below W.heap.size W W') : Sp5 p0 p1 p2 p3 p4 v0 v1 v2 v3 v4 w0 W' := by
 obtain ⟨h0, h1, h2, h3, h4, h5⟩ := h
 have c : ∀ p v, W.cell? p = some v → W'.cell? p = some v := fun p v h => (hb.cell (World.block_lt_of_cell? _ _ h)).trans h
 exact ⟨c _ _ h0, c _ _ h1, c _ _ h2, c _ _ h3, c _ _ h4, ⟨below_then h5.out h5.out.size hb⟩⟩
theorem Sp5.drew {p0 p1 p2 p3 p4 : Addr} {v0 v1 v2 v3 v4 : Value} {w0 W : World} (h : Sp5 p0 p1 p2 p3 p4 v0 v1 v2 v3 v4 w0 W) : Sp5 p0 p1 p2 p3 p4 v0 v1 v2 v3 v4 w0 W.drew := h.below (below_drew (Below.refl _ _))
theorem spec_SpansOk.calls (k : Nat) (A0 : Option Addr) (c0 : Nat) (l0 : List S50) (a1 : Int) (r : Bool) (w : World) (hr0 : Kd.C k50 w A0 l0.length l0) (hc0 : l0.length ≤ c0) (h : spec_SpansOk.f k l0 a1 = some r) :
  Calls Tryz.prog 69 #[.slice A0 l0.length c0, .int .i64 a1] w fun e w' => e = .returned (.bool r) ∧ Below w.heap.size w w' := by
 have hu := Tryz.underlying50
 have HR := az hr0
 have HF := az (show spec_SpansOk.l0 k l0 a1 0 = some r from h)
 clear hr0 hc0 h
 go_enter Tryz.func69, Tryz.ntmps69
 go_wp2
 go_loopg [5] k (fun gg s5 wr => ∃ x : Int, s5 = .int .i64 x ∧ Aside0 (spec_SpansOk.l0 gg l0 a1 x = some r) ∧ Aside0 (Below w.heap.size w wr))
 case atStart => exact ⟨0, rfl, HF, ⟨Below.refl _ _⟩⟩
 case round =>
  clear HF
  obtain ⟨x, rfl, HF, HW⟩ := hrel
  cases gk with
  | zero => exact absurd HF.out (by simp [spec_SpansOk.l0])
  | succ g =>
  have hq := HF.out
  rw [spec_SpansOk.l0] at hq
  clear HF
  by_cases hlt : x < (l0.length : Int)
  ·
   rw [if_pos hlt] at hq
   by_cases hx0 : 0 ≤ x
   case neg => rw [if_neg hx0] at hq; cases hq
   case pos =>
   rw [if_pos hx0] at hq
   obtain ⟨ad, rfl, h0, h1, h2, h3⟩ := at_T50 (Kd.C_below HR.out HW.out) x hx0 hlt
   obtain ⟨e, he⟩ : ∃ e, rd_T50 l0 x = e := ⟨_, rfl⟩
   rw [he] at h0 h1 h2 h3 hq
   clear he
   replace hq := Option.bind_eq_some_iff.mp hq
   obtain ⟨t, ht, hq⟩ := hq
   have HT := az ht
   clear ht
   obtain ⟨y, hy⟩ : ∃ y, wrap64 (x + 1) = y := ⟨_, rfl⟩
   have hy2 : IntKind.i64.wrap (x + 1) = y := (i64_w _).trans hy
   rw [hy] at hq
   have HL := az HR.out.2.1
   obtain ⟨p4, z, j, h4, h5⟩ : ∃ (p4 : Addr) (z j : Int), wr.cell? p4 = some (.int .i64 z) ∧ (0 < x → wrap64 (x - 1) = j ∧ 0 ≤ j ∧ j < (l0.length : Int) ∧ p4 = ⟨(ad.add (j.toNat * 4)).block, (ad.add (j.toNat * 4)).off + 1, none⟩ ∧ z = (rd_T50 l0 j).f1) := by
    by_cases hx : 0 < x
    ·
     obtain ⟨ad2, e2, _, g1, _, _⟩ := at_T50 (Kd.C_below HR.out HW.out) (x - 1) (by omega) (by omega)
     obtain rfl : ad = ad2 := Option.some.inj e2
     exact ⟨_, _, x - 1, g1, fun _ => ⟨by unfold wrap64; have := HL.out; unfold maxLen at this; omega, by omega, by omega, rfl, rfl⟩⟩
    · exact ⟨_, _, 0, h0, fun h => absurd h hx⟩
   have hS : Sp5 _ _ _ _ _ _ _ _ _ _ wr wr := ⟨h0, h1, h2, h3, h4, ⟨Below.refl _ _⟩⟩
   have H5 := az h5
   have HQ := az hq
   clear h0 h1 h2 h3 h4 h5 hq
   go_upto_region 4 with fail
   refine Tod.st 25 [(0, 12), (1, 13), (2, 14), (4, 16), (3, 15), (5, 17), (6, 18), (7, 19), (8, 20), (9, 21), (10, 22), (11, 23), (12, 24), (13, 25), (14, 26), (15, 27), (17, 29), (18, 30), (19, 31), (20, 32), (16, 28), (21, 33), (22, 34), (23, 35), (24, 36)] _ (by kernel_rfl) rfl (Sp5.drew hS) (fun wz _ hH => ?_)
   clear hS
   iterate 5 (first | (refine Tod.pu (v := ?_) (a' := ?_) rfl rfl (by kernel_rfl) (fun _ _ _ => id) (Or.inl ⟨by rfl, ?_⟩) ?_ ?_; rotate_left; intro w'; go_simp; (with_reducible rfl); rotate_left; simp only [Act.put, List.setIfInBounds_toArray, List.set_cons_zero, List.set_cons_succ, i64_w, i32_w]; rfl) | (refine Tod.ta (v := ?_) (a' := ?_) rfl rfl (by kernel_rfl) (fun _ _ _ => id) (Or.inl ⟨by rfl, ?_⟩) hH ?_ ?_; rotate_left; (rintro w' ⟨s0, s1, s2, s3, s4, _⟩; go_simp; with_reducible rfl); rotate_left; simp only [Act.put, List.setIfInBounds_toArray, List.set_cons_zero, List.set_cons_succ, i64_w, i32_w]; rfl) | (refine Tod.pu (v := undef) (a' := ?_) rfl rfl (by kernel_rfl) (fun _ _ _ => id) (Or.inr ⟨by rfl, rfl⟩) ?_ ?_; rotate_left; simp only [Act.put, List.setIfInBounds_toArray, List.set_cons_zero, List.set_cons_succ, i64_w, i32_w]; rfl))
   refine Tod.on rfl rfl (by kernel_rfl) (by decide) (fun K hK => ?_)
   refine goes_ Tryz.func96 (by kernel_rfl) rfl #[.agg #[.int .i64 e.f0, .int .i64 e.f1, .int .i64 e.f2, .int .i64 e.f3], .int .i64 a1] (by rfl) rfl rfl zC ?_
   refine (spec_l6Ok.calls e.f0 e.f1 e.f2 e.f3 a1 t _ HT.out).mono ?_
   rintro e9 w9 ⟨rfl, p⟩
   refine ⟨_, rfl, ?_⟩
   refine hK.out _ _ (Sp5.below hH p) (fun hH => ?_)
   clear hK K p
   refine Tod.no (a' := ?_) ?_ ?_; rotate_left
   · show Act.put _ (some 17) _ = _; simp only [Act.put, List.setIfInBounds_toArray, List.set_cons_zero, List.set_cons_succ]; rfl
   cases t
   ·
    have hq := HQ.out
    rw [if_neg (by decide)] at hq
    obtain rfl := Option.some.inj hq
    clear hq
    repeat (first | (refine Tod.pu (v := ?_) (a' := ?_) rfl rfl (by kernel_rfl) (fun _ _ _ => id) (Or.inl ⟨by rfl, ?_⟩) ?_ ?_; rotate_left; intro w'; go_simp; (with_reducible rfl); rotate_left; simp only [Act.put, List.setIfInBounds_toArray, List.set_cons_zero, List.set_cons_succ, i64_w, i32_w]; rfl) | (refine Tod.ta (v := ?_) (a' := ?_) rfl rfl (by kernel_rfl) (fun _ _ _ => id) (Or.inl ⟨by rfl, ?_⟩) hH ?_ ?_; rotate_left; (rintro w' ⟨s0, s1, s2, s3, s4, _⟩; go_simp; with_reducible rfl); rotate_left; simp only [Act.put, List.setIfInBounds_toArray, List.set_cons_zero, List.set_cons_succ, i64_w, i32_w]; rfl) | (refine Tod.pu (v := undef) (a' := ?_) rfl rfl (by kernel_rfl) (fun _ _ _ => id) (Or.inr ⟨by rfl, rfl⟩) ?_ ?_; rotate_left; simp only [Act.put, List.setIfInBounds_toArray, List.set_cons_zero, List.set_cons_succ, i64_w, i32_w]; rfl))
    refine Tod.dn (by kernel_rfl) ?_
    go_wp2
    go_ret
    exact ⟨rfl, below_then HW.out HW.out.size hH.2.2.2.2.2.out⟩
   have hq := HQ.out
   rw [if_pos rfl] at hq
   by_cases hx : 0 < x
   ·
    obtain ⟨g1, g2, g3, rfl, g4⟩ := H5.out hx
    have dx : decide (0 < x) = true := decide_eq_true hx
    have g5 : IntKind.i64.wrap (x - 1) = j := (i64_w _).trans g1
    rw [if_pos hx, g1, if_pos g2, if_pos g3, ← g4] at hq
    have HQ2 := az hq
    clear hq hx g4
    repeat (first | (refine Tod.pu (v := ?_) (a' := ?_) rfl rfl (by kernel_rfl) (fun _ _ _ => id) (Or.inl ⟨by rfl, ?_⟩) ?_ ?_; rotate_left; intro w'; go_simp; (with_reducible rfl); rotate_left; simp only [Act.put, List.setIfInBounds_toArray, List.set_cons_zero, List.set_cons_succ, i64_w, i32_w]; rfl) | (refine Tod.ta (v := ?_) (a' := ?_) rfl rfl (by kernel_rfl) (fun _ _ _ => id) (Or.inl ⟨by rfl, ?_⟩) hH ?_ ?_; rotate_left; (rintro w' ⟨s0, s1, s2, s3, s4, _⟩; go_simp; with_reducible rfl); rotate_left; simp only [Act.put, List.setIfInBounds_toArray, List.set_cons_zero, List.set_cons_succ, i64_w, i32_w]; rfl) | (refine Tod.pu (v := undef) (a' := ?_) rfl rfl (by kernel_rfl) (fun _ _ _ => id) (Or.inr ⟨by rfl, rfl⟩) ?_ ?_; rotate_left; simp only [Act.put, List.setIfInBounds_toArray, List.set_cons_zero, List.set_cons_succ, i64_w, i32_w]; rfl))
    refine Tod.dn (by kernel_rfl) ?_
    have hq := HQ2.out
    by_cases hz : z > e.f0
    ·
     rw [if_pos hz] at hq
     obtain rfl := Option.some.inj hq
     have dz : decide (e.f0 < z) = true := decide_eq_true hz
     rw [dz]
     clear hz hq
     go_wp2
     go_ret
     exact ⟨rfl, below_then HW.out HW.out.size hH.2.2.2.2.2.out⟩
    ·
     rw [if_neg hz] at hq
     have dz : decide (e.f0 < z) = false := decide_eq_false hz
     have HQ3 := az hq
     rw [dz]
     clear hz hq
     go_wp2
     go_roundg g
     case measure => omega
     case rel => exact ⟨y, rfl, HQ3, ⟨below_then HW.out HW.out.size hH.2.2.2.2.2.out⟩⟩
   ·
    have dx : decide (0 < x) = false := decide_eq_false hx
    rw [if_neg hx] at hq
    have HQ2 := az hq
    clear hq hx
    repeat (first | (refine Tod.pu (v := ?_) (a' := ?_) rfl rfl (by kernel_rfl) (fun _ _ _ => id) (Or.inl ⟨by rfl, ?_⟩) ?_ ?_; rotate_left; intro w'; go_simp; (with_reducible rfl); rotate_left; simp only [Act.put, List.setIfInBounds_toArray, List.set_cons_zero, List.set_cons_succ, i64_w, i32_w]; rfl) | (refine Tod.ta (v := ?_) (a' := ?_) rfl rfl (by kernel_rfl) (fun _ _ _ => id) (Or.inl ⟨by rfl, ?_⟩) hH ?_ ?_; rotate_left; (rintro w' ⟨s0, s1, s2, s3, s4, _⟩; go_simp; with_reducible rfl); rotate_left; simp only [Act.put, List.setIfInBounds_toArray, List.set_cons_zero, List.set_cons_succ, i64_w, i32_w]; rfl) | (refine Tod.pu (v := undef) (a' := ?_) rfl rfl (by kernel_rfl) (fun _ _ _ => id) (Or.inr ⟨by rfl, rfl⟩) ?_ ?_; rotate_left; simp only [Act.put, List.setIfInBounds_toArray, List.set_cons_zero, List.set_cons_succ, i64_w, i32_w]; rfl))
    refine Tod.dn (by kernel_rfl) ?_
    go_wp2
    go_roundg g
    case measure => omega
    case rel => exact ⟨y, rfl, HQ2, ⟨below_then HW.out HW.out.size hH.2.2.2.2.2.out⟩⟩
  ·
   rw [if_neg hlt] at hq
   by_cases hl : (l0.length : Int) ≤ 12
   ·
    have dl : decide ((l0.length : Int) ≤ 12) = true := decide_eq_true hl
    rw [if_pos hl] at hq
    obtain ⟨t, ht, hq⟩ := Option.bind_eq_some_iff.mp hq
    obtain rfl := Option.some.inj hq
    have HT := az ht
    clear hl hq ht
    go_wp2_with (go_at_call 36; go_must (refine (spec_l1In.calls a1 0 80 t _ HT.out).mono ?_); rintro e9 w9 ⟨rfl, ⟨nd, rfl⟩⟩)
    go_ret
    exact ⟨rfl, pw_below_drewN HW.out _⟩
   ·
    have dl : decide ((l0.length : Int) ≤ 12) = false := decide_eq_false hl
    rw [if_neg hl] at hq
    obtain rfl := Option.some.inj hq
    clear hl hq
    go_wp2
    go_ret
    exact ⟨rfl, HW.out⟩
def impl_spanOk.f (a0_0 : Int) (a0_1 : Int) (a0_2 : Int) (a0_3 : Int) (a1 : Int) : Option (Bool) := if a0_0 ≥ 0 then (if a0_0 < a1 then (if a0_1 > a0_0 then (if a0_1 ≤ a1 then (if a0_2 ≥ 1 then (if a0_2 ≤ 40 then (if a0_3 ≥ 0 then (some (decide (a0_3 ≤ 9))) else (some false)) else (some false)) else (some false)) else (some false)) else (some false)) else (some false)) else (some false)
theorem impl_spanOk.calls (a0_0 : Int) (a0_1 : Int) (a0_2 : Int) (a0_3 : Int) (a1 : Int) (r : Bool) (w : World) (h : impl_spanOk.f a0_0 a0_1 a0_2 a0_3 a1 = some r) :
  Calls Tryz.prog 84 #[.agg #[.int .i64 a0_0, .int .i64 a0_1, .int .i64 a0_2, .int .i64 a0_3], .int .i64 a1] w fun e w' => e = .returned (.bool r) ∧ Below w.heap.size w w' := by
 have hu50 := Tryz.underlying50; have HB := az (Below.refl w.heap.size w); have H : (if a0_0 ≥ 0 then (if a0_0 < a1 then (if a0_1 > a0_0 then (if a0_1 ≤ a1 then (if a0_2 ≥ 1 then (if a0_2 ≤ 40 then (if a0_3 ≥ 0 then (some (decide (a0_3 ≤ 9))) else (some false)) else (some false)) else (some false)) else (some false)) else (some false)) else (some false)) else (some false)) = some r := h; clear h; by_cases c3 : a0_0 ≥ 0
 ·
  rw [if_pos c3] at H; have c3b0 : decide (0 ≤ a0_0) = true := decide_eq_true c3; clear c3; by_cases c4 : a0_0 < a1
  ·
   rw [if_pos c4] at H; have c4b0 : decide (a0_0 < a1) = true := decide_eq_true c4; clear c4; by_cases c5 : a0_1 > a0_0
   ·
    rw [if_pos c5] at H; have c5b0 : decide (a0_0 < a0_1) = true := decide_eq_true c5; clear c5; by_cases c6 : a0_1 ≤ a1
    ·
     rw [if_pos c6] at H; have c6b0 : decide (a0_1 ≤ a1) = true := decide_eq_true c6; clear c6; by_cases c7 : a0_2 ≥ 1
     ·
      rw [if_pos c7] at H; have c7b0 : decide (1 ≤ a0_2) = true := decide_eq_true c7; clear c7; by_cases c8 : a0_2 ≤ 40
      ·
       rw [if_pos c8] at H; have c8b0 : decide (a0_2 ≤ 40) = true := decide_eq_true c8; clear c8; by_cases c9 : a0_3 ≥ 0
       ·
        rw [if_pos c9] at H; have c9b0 : decide (0 ≤ a0_3) = true := decide_eq_true c9; clear c9; obtain rfl := Option.some.inj H; go_enter Tryz.func84, Tryz.ntmps84; go_wp2_with (first | ((with_reducible refine gate_dst (N := 2) rfl ?_); refine box_event ?hg (N := 2) ?hd (cs := #[.int .i64 a0_0, .int .i64 a0_1, .int .i64 a0_2, .int .i64 a0_3]) (t := 50) ?hr ?_; (case hd => rfl); (case hg => rfl); (case hr => first | (go_simp; done) | (go_simp; rfl)); intro gb264 hg w10 hbox hb; have n0_ := az (below_step (zA HB.out) hb); have n1_ := az (hbox); have n2_ := az ((by rw [hg]; exact (below_size (zA HB.out)) : w.heap.size ≤ gb264)); have n3_ := az ((by rw [hg]; exact (below_size (zA HB.out)) : w.heap.size ≤ gb264)); clear HB; have HB := n0_; have BK264 := n1_; have GW264 := n2_; have GE264 := n3_; clear n0_ n1_ n2_ n3_; clear hb hbox hg; have hcz11_0 : w10.cell? ⟨gb264, 0, none⟩ = some (.int .i64 a0_0) := (blk_cell BK264.out 0).trans rfl; have hcz11_1 : w10.cell? ⟨gb264, 1, none⟩ = some (.int .i64 a0_1) := (blk_cell BK264.out 1).trans rfl; have hcz11_2 : w10.cell? ⟨gb264, 2, none⟩ = some (.int .i64 a0_2) := (blk_cell BK264.out 2).trans rfl; have hcz11_3 : w10.cell? ⟨gb264, 3, none⟩ = some (.int .i64 a0_3) := (blk_cell BK264.out 3).trans rfl; have hfz11_0 := blk_frozen BK264.out 0; have hfz11_1 := blk_frozen BK264.out 1; have hfz11_2 := blk_frozen BK264.out 2; have hfz11_3 := blk_frozen BK264.out 3)); go_ret; exact ⟨zG, zK HB.out GE264.out⟩
       ·
        rw [if_neg c9] at H; have c9b0 : decide (0 ≤ a0_3) = false := decide_eq_false c9; clear c9; obtain rfl := Option.some.inj H; go_enter Tryz.func84, Tryz.ntmps84; go_wp2_with (first | ((with_reducible refine gate_dst (N := 2) rfl ?_); refine box_event ?hg (N := 2) ?hd (cs := #[.int .i64 a0_0, .int .i64 a0_1, .int .i64 a0_2, .int .i64 a0_3]) (t := 50) ?hr ?_; (case hd => rfl); (case hg => rfl); (case hr => first | (go_simp; done) | (go_simp; rfl)); intro gb264 hg w12 hbox hb; have n0_ := az (below_step (zA HB.out) hb); have n1_ := az (hbox); have n2_ := az ((by rw [hg]; exact (below_size (zA HB.out)) : w.heap.size ≤ gb264)); have n3_ := az ((by rw [hg]; exact (below_size (zA HB.out)) : w.heap.size ≤ gb264)); clear HB; have HB := n0_; have BK264 := n1_; have GW264 := n2_; have GE264 := n3_; clear n0_ n1_ n2_ n3_; clear hb hbox hg; have hcz13_0 : w12.cell? ⟨gb264, 0, none⟩ = some (.int .i64 a0_0) := (blk_cell BK264.out 0).trans rfl; have hcz13_1 : w12.cell? ⟨gb264, 1, none⟩ = some (.int .i64 a0_1) := (blk_cell BK264.out 1).trans rfl; have hcz13_2 : w12.cell? ⟨gb264, 2, none⟩ = some (.int .i64 a0_2) := (blk_cell BK264.out 2).trans rfl; have hcz13_3 : w12.cell? ⟨gb264, 3, none⟩ = some (.int .i64 a0_3) := (blk_cell BK264.out 3).trans rfl; have hfz13_0 := blk_frozen BK264.out 0; have hfz13_1 := blk_frozen BK264.out 1; have hfz13_2 := blk_frozen BK264.out 2; have hfz13_3 := blk_frozen BK264.out 3)); go_ret; exact ⟨zG, zK HB.out GE264.out⟩
      ·
       rw [if_neg c8] at H; have c8b0 : decide (a0_2 ≤ 40) = false := decide_eq_false c8; clear c8; obtain rfl := Option.some.inj H; go_enter Tryz.func84, Tryz.ntmps84; go_wp2_with (first | ((with_reducible refine gate_dst (N := 2) rfl ?_); refine box_event ?hg (N := 2) ?hd (cs := #[.int .i64 a0_0, .int .i64 a0_1, .int .i64 a0_2, .int .i64 a0_3]) (t := 50) ?hr ?_; (case hd => rfl); (case hg => rfl); (case hr => first | (go_simp; done) | (go_simp; rfl)); intro gb264 hg w14 hbox hb; have n0_ := az (below_step (zA HB.out) hb); have n1_ := az (hbox); have n2_ := az ((by rw [hg]; exact (below_size (zA HB.out)) : w.heap.size ≤ gb264)); have n3_ := az ((by rw [hg]; exact (below_size (zA HB.out)) : w.heap.size ≤ gb264)); clear HB; have HB := n0_; have BK264 := n1_; have GW264 := n2_; have GE264 := n3_; clear n0_ n1_ n2_ n3_; clear hb hbox hg; have hcz15_0 : w14.cell? ⟨gb264, 0, none⟩ = some (.int .i64 a0_0) := (blk_cell BK264.out 0).trans rfl; have hcz15_1 : w14.cell? ⟨gb264, 1, none⟩ = some (.int .i64 a0_1) := (blk_cell BK264.out 1).trans rfl; have hcz15_2 : w14.cell? ⟨gb264, 2, none⟩ = some (.int .i64 a0_2) := (blk_cell BK264.out 2).trans rfl; have hcz15_3 : w14.cell? ⟨gb264, 3, none⟩ = some (.int .i64 a0_3) := (blk_cell BK264.out 3).trans rfl; have hfz15_0 := blk_frozen BK264.out 0; have hfz15_1 := blk_frozen BK264.out 1; have hfz15_2 := blk_frozen BK264.out 2; have hfz15_3 := blk_frozen BK264.out 3)); go_ret; exact ⟨zG, zK HB.out GE264.out⟩
     ·
      rw [if_neg c7] at H; have c7b0 : decide (1 ≤ a0_2) = false := decide_eq_false c7; clear c7; obtain rfl := Option.some.inj H; go_enter Tryz.func84, Tryz.ntmps84; go_wp2_with (first | ((with_reducible refine gate_dst (N := 2) rfl ?_); refine box_event ?hg (N := 2) ?hd (cs := #[.int .i64 a0_0, .int .i64 a0_1, .int .i64 a0_2, .int .i64 a0_3]) (t := 50) ?hr ?_; (case hd => rfl); (case hg => rfl); (case hr => first | (go_simp; done) | (go_simp; rfl)); intro gb264 hg w16 hbox hb; have n0_ := az (below_step (zA HB.out) hb); have n1_ := az (hbox); have n2_ := az ((by rw [hg]; exact (below_size (zA HB.out)) : w.heap.size ≤ gb264)); have n3_ := az ((by rw [hg]; exact (below_size (zA HB.out)) : w.heap.size ≤ gb264)); clear HB; have HB := n0_; have BK264 := n1_; have GW264 := n2_; have GE264 := n3_; clear n0_ n1_ n2_ n3_; clear hb hbox hg; have hcz17_0 : w16.cell? ⟨gb264, 0, none⟩ = some (.int .i64 a0_0) := (blk_cell BK264.out 0).trans rfl; have hcz17_1 : w16.cell? ⟨gb264, 1, none⟩ = some (.int .i64 a0_1) := (blk_cell BK264.out 1).trans rfl; have hcz17_2 : w16.cell? ⟨gb264, 2, none⟩ = some (.int .i64 a0_2) := (blk_cell BK264.out 2).trans rfl; have hcz17_3 : w16.cell? ⟨gb264, 3, none⟩ = some (.int .i64 a0_3) := (blk_cell BK264.out 3).trans rfl; have hfz17_0 := blk_frozen BK264.out 0; have hfz17_1 := blk_frozen BK264.out 1; have hfz17_2 := blk_frozen BK264.out 2; have hfz17_3 := blk_frozen BK264.out 3)); go_ret; exact ⟨zG, zK HB.out GE264.out⟩
    ·
     rw [if_neg c6] at H; have c6b0 : decide (a0_1 ≤ a1) = false := decide_eq_false c6; clear c6; obtain rfl := Option.some.inj H; go_enter Tryz.func84, Tryz.ntmps84; go_wp2_with (first | ((with_reducible refine gate_dst (N := 2) rfl ?_); refine box_event ?hg (N := 2) ?hd (cs := #[.int .i64 a0_0, .int .i64 a0_1, .int .i64 a0_2, .int .i64 a0_3]) (t := 50) ?hr ?_; (case hd => rfl); (case hg => rfl); (case hr => first | (go_simp; done) | (go_simp; rfl)); intro gb264 hg w18 hbox hb; have n0_ := az (below_step (zA HB.out) hb); have n1_ := az (hbox); have n2_ := az ((by rw [hg]; exact (below_size (zA HB.out)) : w.heap.size ≤ gb264)); have n3_ := az ((by rw [hg]; exact (below_size (zA HB.out)) : w.heap.size ≤ gb264)); clear HB; have HB := n0_; have BK264 := n1_; have GW264 := n2_; have GE264 := n3_; clear n0_ n1_ n2_ n3_; clear hb hbox hg; have hcz19_0 : w18.cell? ⟨gb264, 0, none⟩ = some (.int .i64 a0_0) := (blk_cell BK264.out 0).trans rfl; have hcz19_1 : w18.cell? ⟨gb264, 1, none⟩ = some (.int .i64 a0_1) := (blk_cell BK264.out 1).trans rfl; have hcz19_2 : w18.cell? ⟨gb264, 2, none⟩ = some (.int .i64 a0_2) := (blk_cell BK264.out 2).trans rfl; have hcz19_3 : w18.cell? ⟨gb264, 3, none⟩ = some (.int .i64 a0_3) := (blk_cell BK264.out 3).trans rfl; have hfz19_0 := blk_frozen BK264.out 0; have hfz19_1 := blk_frozen BK264.out 1; have hfz19_2 := blk_frozen BK264.out 2; have hfz19_3 := blk_frozen BK264.out 3)); go_ret; exact ⟨zG, zK HB.out GE264.out⟩
   ·
    rw [if_neg c5] at H; have c5b0 : decide (a0_0 < a0_1) = false := decide_eq_false c5; clear c5; obtain rfl := Option.some.inj H; go_enter Tryz.func84, Tryz.ntmps84; go_wp2_with (first | ((with_reducible refine gate_dst (N := 2) rfl ?_); refine box_event ?hg (N := 2) ?hd (cs := #[.int .i64 a0_0, .int .i64 a0_1, .int .i64 a0_2, .int .i64 a0_3]) (t := 50) ?hr ?_; (case hd => rfl); (case hg => rfl); (case hr => first | (go_simp; done) | (go_simp; rfl)); intro gb264 hg w20 hbox hb; have n0_ := az (below_step (zA HB.out) hb); have n1_ := az (hbox); have n2_ := az ((by rw [hg]; exact (below_size (zA HB.out)) : w.heap.size ≤ gb264)); have n3_ := az ((by rw [hg]; exact (below_size (zA HB.out)) : w.heap.size ≤ gb264)); clear HB; have HB := n0_; have BK264 := n1_; have GW264 := n2_; have GE264 := n3_; clear n0_ n1_ n2_ n3_; clear hb hbox hg; have hcz21_0 : w20.cell? ⟨gb264, 0, none⟩ = some (.int .i64 a0_0) := (blk_cell BK264.out 0).trans rfl; have hcz21_1 : w20.cell? ⟨gb264, 1, none⟩ = some (.int .i64 a0_1) := (blk_cell BK264.out 1).trans rfl; have hcz21_2 : w20.cell? ⟨gb264, 2, none⟩ = some (.int .i64 a0_2) := (blk_cell BK264.out 2).trans rfl; have hcz21_3 : w20.cell? ⟨gb264, 3, none⟩ = some (.int .i64 a0_3) := (blk_cell BK264.out 3).trans rfl; have hfz21_0 := blk_frozen BK264.out 0; have hfz21_1 := blk_frozen BK264.out 1; have hfz21_2 := blk_frozen BK264.out 2; have hfz21_3 := blk_frozen BK264.out 3)); go_ret; exact ⟨zG, zK HB.out GE264.out⟩
  ·
   rw [if_neg c4] at H; have c4b0 : decide (a0_0 < a1) = false := decide_eq_false c4; clear c4; obtain rfl := Option.some.inj H; go_enter Tryz.func84, Tryz.ntmps84; go_wp2_with (first | ((with_reducible refine gate_dst (N := 2) rfl ?_); refine box_event ?hg (N := 2) ?hd (cs := #[.int .i64 a0_0, .int .i64 a0_1, .int .i64 a0_2, .int .i64 a0_3]) (t := 50) ?hr ?_; (case hd => rfl); (case hg => rfl); (case hr => first | (go_simp; done) | (go_simp; rfl)); intro gb264 hg w22 hbox hb; have n0_ := az (below_step (zA HB.out) hb); have n1_ := az (hbox); have n2_ := az ((by rw [hg]; exact (below_size (zA HB.out)) : w.heap.size ≤ gb264)); have n3_ := az ((by rw [hg]; exact (below_size (zA HB.out)) : w.heap.size ≤ gb264)); clear HB; have HB := n0_; have BK264 := n1_; have GW264 := n2_; have GE264 := n3_; clear n0_ n1_ n2_ n3_; clear hb hbox hg; have hcz23_0 : w22.cell? ⟨gb264, 0, none⟩ = some (.int .i64 a0_0) := (blk_cell BK264.out 0).trans rfl; have hcz23_1 : w22.cell? ⟨gb264, 1, none⟩ = some (.int .i64 a0_1) := (blk_cell BK264.out 1).trans rfl; have hcz23_2 : w22.cell? ⟨gb264, 2, none⟩ = some (.int .i64 a0_2) := (blk_cell BK264.out 2).trans rfl; have hcz23_3 : w22.cell? ⟨gb264, 3, none⟩ = some (.int .i64 a0_3) := (blk_cell BK264.out 3).trans rfl; have hfz23_0 := blk_frozen BK264.out 0; have hfz23_1 := blk_frozen BK264.out 1; have hfz23_2 := blk_frozen BK264.out 2; have hfz23_3 := blk_frozen BK264.out 3)); go_ret; exact ⟨zG, zK HB.out GE264.out⟩
 ·
  rw [if_neg c3] at H; have c3b0 : decide (0 ≤ a0_0) = false := decide_eq_false c3; clear c3; obtain rfl := Option.some.inj H; go_enter Tryz.func84, Tryz.ntmps84; go_wp2_with (first | ((with_reducible refine gate_dst (N := 2) rfl ?_); refine box_event ?hg (N := 2) ?hd (cs := #[.int .i64 a0_0, .int .i64 a0_1, .int .i64 a0_2, .int .i64 a0_3]) (t := 50) ?hr ?_; (case hd => rfl); (case hg => rfl); (case hr => first | (go_simp; done) | (go_simp; rfl)); intro gb264 hg w24 hbox hb; have n0_ := az (below_step (zA HB.out) hb); have n1_ := az (hbox); have n2_ := az ((by rw [hg]; exact (below_size (zA HB.out)) : w.heap.size ≤ gb264)); have n3_ := az ((by rw [hg]; exact (below_size (zA HB.out)) : w.heap.size ≤ gb264)); clear HB; have HB := n0_; have BK264 := n1_; have GW264 := n2_; have GE264 := n3_; clear n0_ n1_ n2_ n3_; clear hb hbox hg; have hcz25_0 : w24.cell? ⟨gb264, 0, none⟩ = some (.int .i64 a0_0) := (blk_cell BK264.out 0).trans rfl; have hcz25_1 : w24.cell? ⟨gb264, 1, none⟩ = some (.int .i64 a0_1) := (blk_cell BK264.out 1).trans rfl; have hcz25_2 : w24.cell? ⟨gb264, 2, none⟩ = some (.int .i64 a0_2) := (blk_cell BK264.out 2).trans rfl; have hcz25_3 : w24.cell? ⟨gb264, 3, none⟩ = some (.int .i64 a0_3) := (blk_cell BK264.out 3).trans rfl; have hfz25_0 := blk_frozen BK264.out 0; have hfz25_1 := blk_frozen BK264.out 1; have hfz25_2 := blk_frozen BK264.out 2; have hfz25_3 := blk_frozen BK264.out 3)); go_ret; exact ⟨zG, zK HB.out GE264.out⟩
def impl_SpansOk.l0 : Nat → List S50 → Int → List S50 → Int → Int → Option Bool
 | 0, _, _, _, _, _ => none
 | k + 1, x0, x1, x7, x8, x9 => if x9 < x8 then (if 0 ≤ x9 then (if x9 < (x7.length : Int) then ((impl_spanOk.f ((rd_T50 x7 x9).f0) ((rd_T50 x7 x9).f1) ((rd_T50 x7 x9).f2) ((rd_T50 x7 x9).f3) x1).bind fun t => (if t = true then (if x9 > 0 then (if 0 ≤ (wrap64 (x9 - 1)) then (if (wrap64 (x9 - 1)) < (x0.length : Int) then (if ((rd_T50 x0 (wrap64 (x9 - 1))).f1) > ((rd_T50 x7 x9).f0) then (some false) else (impl_SpansOk.l0 k x0 x1 x7 x8 (wrap64 (x9 + 1)))) else (none)) else (none)) else (impl_SpansOk.l0 k x0 x1 x7 x8 (wrap64 (x9 + 1)))) else (some false))) else (none)) else (none)) else (if x1 ≥ 0 then (if x1 ≤ 80 then (some (decide ((x0.length : Int) ≤ 12))) else (some false)) else (some false))
def impl_SpansOk.f (k : Nat) (l0 : List S50) (a1 : Int) : Option Bool := impl_SpansOk.l0 k l0 a1 l0 (l0.length : Int) 0
theorem impl_SpansOk.mono_l : ∀ k x0 x1 x7 x8 x9, LeO (impl_SpansOk.l0 k x0 x1 x7 x8 x9) (impl_SpansOk.l0 (k + 1) x0 x1 x7 x8 x9)
 | 0, _, _, _, _, _ => fun r h => by simp [impl_SpansOk.l0] at h
 | k + 1, x0, x1, x7, x8, x9 => by
  have ih := impl_SpansOk.mono_l k
  show LeO (impl_SpansOk.l0 (k + 1) x0 x1 x7 x8 x9) (impl_SpansOk.l0 ((k + 1) + 1) x0 x1 x7 x8 x9)
  unfold impl_SpansOk.l0
  exact LeO.ite (LeO.ite (LeO.ite (LeO.bind (LeO.refl _) (fun t => LeO.ite (LeO.ite (LeO.ite (LeO.ite (LeO.ite (LeO.refl _) (ih _ _ _ _ _)) (LeO.refl _)) (LeO.refl _)) (ih _ _ _ _ _)) (LeO.refl _))) (LeO.refl _)) (LeO.refl _)) (LeO.refl _)
theorem impl_SpansOk.mono : ∀ a0 a1 k, LeO (impl_SpansOk.f k a0 a1) (impl_SpansOk.f (k + 1) a0 a1) := fun _ _ k => impl_SpansOk.mono_l k _ _ _ _ _
theorem impl_SpansOk.calls (k : Nat) (A0 : Option Addr) (c0 : Nat) (l0 : List S50) (a1 : Int) (r : Bool) (w : World) (hr0 : Kd.C k50 w A0 l0.length l0) (hc0 : l0.length ≤ c0) (h : impl_SpansOk.f k l0 a1 = some r) :
  Calls Tryz.prog 54 #[.slice A0 l0.length c0, .int .i64 a1] w fun e w' => e = .returned (.bool r) ∧ Below w.heap.size w w' := by
 have hu := Tryz.underlying50
 have HR := az hr0
 have HF := az (show impl_SpansOk.l0 k l0 a1 l0 (l0.length : Int) 0 = some r from h)
 clear hr0 hc0 h
 go_enter Tryz.func54, Tryz.ntmps54
 go_wp2
 go_loopg [9] k (fun gg s9 wr => ∃ x : Int, s9 = .int .i64 x ∧ Aside0 (impl_SpansOk.l0 gg l0 a1 l0 (l0.length : Int) x = some r) ∧ Aside0 (Below w.heap.size w wr))
 case atStart => exact ⟨0, rfl, HF, ⟨Below.refl _ _⟩⟩
 case round =>
  clear HF
  obtain ⟨x, rfl, HF, HW⟩ := hrel
  cases gk with
  | zero => exact absurd HF.out (by simp [impl_SpansOk.l0])
  | succ g =>
  have hq := HF.out
  rw [impl_SpansOk.l0] at hq
  clear HF
  by_cases hlt : x < (l0.length : Int)
  ·
   rw [if_pos hlt] at hq
   by_cases hx0 : 0 ≤ x
   case neg => rw [if_neg hx0] at hq; cases hq
   case pos =>
   rw [if_pos hx0, if_pos hlt] at hq
   obtain ⟨ad, rfl, h0, h1, h2, h3⟩ := at_T50 (Kd.C_below HR.out HW.out) x hx0 hlt
   obtain ⟨e, he⟩ : ∃ e, rd_T50 l0 x = e := ⟨_, rfl⟩
   rw [he] at h0 h1 h2 h3 hq
   clear he
   replace hq := Option.bind_eq_some_iff.mp hq
   obtain ⟨t, ht, hq⟩ := hq
   have HT := az ht
   clear ht
   obtain ⟨y, hy⟩ : ∃ y, wrap64 (x + 1) = y := ⟨_, rfl⟩
   have hy2 : IntKind.i64.wrap (x + 1) = y := (i64_w _).trans hy
   rw [hy] at hq
   have HL := az HR.out.2.1
   obtain ⟨p4, z, j, h4, h5⟩ : ∃ (p4 : Addr) (z j : Int), wr.cell? p4 = some (.int .i64 z) ∧ (0 < x → wrap64 (x - 1) = j ∧ 0 ≤ j ∧ j < (l0.length : Int) ∧ p4 = ⟨(ad.add (j.toNat * 4)).block, (ad.add (j.toNat * 4)).off + 1, none⟩ ∧ z = (rd_T50 l0 j).f1) := by
    by_cases hx : 0 < x
    ·
     obtain ⟨ad2, e2, _, g1, _, _⟩ := at_T50 (Kd.C_below HR.out HW.out) (x - 1) (by omega) (by omega)
     obtain rfl : ad = ad2 := Option.some.inj e2
     exact ⟨_, _, x - 1, g1, fun _ => ⟨by unfold wrap64; have := HL.out; unfold maxLen at this; omega, by omega, by omega, rfl, rfl⟩⟩
    · exact ⟨_, _, 0, h0, fun h => absurd h hx⟩
   have hS : Sp5 _ _ _ _ _ _ _ _ _ _ wr wr := ⟨h0, h1, h2, h3, h4, ⟨Below.refl _ _⟩⟩
   have H5 := az h5
   have HQ := az hq
   have H4 := az h4
   clear h5 hq hS
   go_upto_region 4 with fail
   clear h0 h1 h2 h3 h4
   obtain ⟨ob, hob⟩ : ∃ ob, Obj.cells #[.int .i64 e.f0, .int .i64 e.f1, .int .i64 e.f2, .int .i64 e.f3] 50 = ob := ⟨_, rfl⟩
   have hS : Sp5 ⟨wr.heap.size, 0, none⟩ ⟨wr.heap.size, 1, none⟩ ⟨wr.heap.size, 2, none⟩ ⟨wr.heap.size, 3, none⟩ p4 (.int .i64 e.f0) (.int .i64 e.f1) (.int .i64 e.f2) (.int .i64 e.f3) (.int .i64 z) wr (wr.alloc ob) := by
    subst hob
    have hb := below_alloc (o := .cells #[.int .i64 e.f0, .int .i64 e.f1, .int .i64 e.f2, .int .i64 e.f3] 50) (Below.refl wr.heap.size wr)
    exact ⟨(blk_cell (blk_new wr _) 0).trans rfl, (blk_cell (blk_new wr _) 1).trans rfl, (blk_cell (blk_new wr _) 2).trans rfl, (blk_cell (blk_new wr _) 3).trans rfl, (hb.cell (World.block_lt_of_cell? _ _ H4.out)).trans H4.out, ⟨hb⟩⟩
   rw [hob]
   refine Tod.st 19 [(1, 15), (0, 14), (2, 16), (3, 17), (4, 18), (5, 19), (6, 20), (7, 21), (8, 22), (9, 23), (10, 24), (11, 25), (12, 26), (14, 28), (13, 27), (15, 29), (16, 30), (17, 31), (18, 32)] _ (by kernel_rfl) rfl (Sp5.drew hS) (fun wz _ hH => ?_)
   clear hS hob
   iterate 2 (first | (refine Tod.pu (v := ?_) (a' := ?_) rfl rfl (by kernel_rfl) (fun _ _ _ => id) (Or.inl ⟨by rfl, ?_⟩) ?_ ?_; rotate_left; intro w'; go_simp; (with_reducible rfl); rotate_left; simp only [Act.put, List.setIfInBounds_toArray, List.set_cons_zero, List.set_cons_succ, i64_w, i32_w]; rfl) | (refine Tod.ta (v := ?_) (a' := ?_) rfl rfl (by kernel_rfl) (fun _ _ _ => id) (Or.inl ⟨by rfl, ?_⟩) hH ?_ ?_; rotate_left; (rintro w' ⟨s0, s1, s2, s3, s4, _⟩; go_simp; with_reducible rfl); rotate_left; simp only [Act.put, List.setIfInBounds_toArray, List.set_cons_zero, List.set_cons_succ, i64_w, i32_w]; rfl) | (refine Tod.pu (v := undef) (a' := ?_) rfl rfl (by kernel_rfl) (fun _ _ _ => id) (Or.inr ⟨by rfl, rfl⟩) ?_ ?_; rotate_left; simp only [Act.put, List.setIfInBounds_toArray, List.set_cons_zero, List.set_cons_succ, i64_w, i32_w]; rfl))
   refine Tod.on rfl rfl (by kernel_rfl) (by decide) (fun K hK => ?_)
   refine goes_ Tryz.func84 (by kernel_rfl) rfl #[.agg #[.int .i64 e.f0, .int .i64 e.f1, .int .i64 e.f2, .int .i64 e.f3], .int .i64 a1] (by rfl) rfl rfl zC ?_
   refine (impl_spanOk.calls e.f0 e.f1 e.f2 e.f3 a1 t _ HT.out).mono ?_
   rintro e9 w9 ⟨rfl, p⟩
   refine ⟨_, rfl, ?_⟩
   refine hK.out _ _ (Sp5.below hH p) (fun hH => ?_)
   clear hK K p
   refine Tod.no (a' := ?_) ?_ ?_; rotate_left
   · show Act.put _ (some 16) _ = _; simp only [Act.put, List.setIfInBounds_toArray, List.set_cons_zero, List.set_cons_succ]; rfl
   cases t
   ·
    have hq := HQ.out
    rw [if_neg (by decide)] at hq
    obtain rfl := Option.some.inj hq
    clear hq
    repeat (first | (refine Tod.pu (v := ?_) (a' := ?_) rfl rfl (by kernel_rfl) (fun _ _ _ => id) (Or.inl ⟨by rfl, ?_⟩) ?_ ?_; rotate_left; intro w'; go_simp; (with_reducible rfl); rotate_left; simp only [Act.put, List.setIfInBounds_toArray, List.set_cons_zero, List.set_cons_succ, i64_w, i32_w]; rfl) | (refine Tod.ta (v := ?_) (a' := ?_) rfl rfl (by kernel_rfl) (fun _ _ _ => id) (Or.inl ⟨by rfl, ?_⟩) hH ?_ ?_; rotate_left; (rintro w' ⟨s0, s1, s2, s3, s4, _⟩; go_simp; with_reducible rfl); rotate_left; simp only [Act.put, List.setIfInBounds_toArray, List.set_cons_zero, List.set_cons_succ, i64_w, i32_w]; rfl) | (refine Tod.pu (v := undef) (a' := ?_) rfl rfl (by kernel_rfl) (fun _ _ _ => id) (Or.inr ⟨by rfl, rfl⟩) ?_ ?_; rotate_left; simp only [Act.put, List.setIfInBounds_toArray, List.set_cons_zero, List.set_cons_succ, i64_w, i32_w]; rfl))
    refine Tod.dn (by kernel_rfl) ?_
    go_wp2
    go_ret
    exact ⟨rfl, below_then HW.out HW.out.size hH.2.2.2.2.2.out⟩
   have hq := HQ.out
   rw [if_pos rfl] at hq
   by_cases hx : 0 < x
   ·
    obtain ⟨g1, g2, g3, rfl, g4⟩ := H5.out hx
    have dx : decide (0 < x) = true := decide_eq_true hx
    have g5 : IntKind.i64.wrap (x - 1) = j := (i64_w _).trans g1
    rw [if_pos hx, g1, if_pos g2, if_pos g3, ← g4] at hq
    have HQ2 := az hq
    clear hq hx g4
    repeat (first | (refine Tod.pu (v := ?_) (a' := ?_) rfl rfl (by kernel_rfl) (fun _ _ _ => id) (Or.inl ⟨by rfl, ?_⟩) ?_ ?_; rotate_left; intro w'; go_simp; (with_reducible rfl); rotate_left; simp only [Act.put, List.setIfInBounds_toArray, List.set_cons_zero, List.set_cons_succ, i64_w, i32_w]; rfl) | (refine Tod.ta (v := ?_) (a' := ?_) rfl rfl (by kernel_rfl) (fun _ _ _ => id) (Or.inl ⟨by rfl, ?_⟩) hH ?_ ?_; rotate_left; (rintro w' ⟨s0, s1, s2, s3, s4, _⟩; go_simp; with_reducible rfl); rotate_left; simp only [Act.put, List.setIfInBounds_toArray, List.set_cons_zero, List.set_cons_succ, i64_w, i32_w]; rfl) | (refine Tod.pu (v := undef) (a' := ?_) rfl rfl (by kernel_rfl) (fun _ _ _ => id) (Or.inr ⟨by rfl, rfl⟩) ?_ ?_; rotate_left; simp only [Act.put, List.setIfInBounds_toArray, List.set_cons_zero, List.set_cons_succ, i64_w, i32_w]; rfl))
    refine Tod.dn (by kernel_rfl) ?_
    have hq := HQ2.out
    by_cases hz : z > e.f0
    ·
     rw [if_pos hz] at hq
     obtain rfl := Option.some.inj hq
     have dz : decide (e.f0 < z) = true := decide_eq_true hz
     rw [dz]
     clear hz hq
     go_wp2
     go_ret
     exact ⟨rfl, below_then HW.out HW.out.size hH.2.2.2.2.2.out⟩
    ·
     rw [if_neg hz] at hq
     have dz : decide (e.f0 < z) = false := decide_eq_false hz
     have HQ3 := az hq
     rw [dz]
     clear hz hq
     go_wp2
     go_roundg g
     case measure => omega
     case rel => exact ⟨y, rfl, HQ3, ⟨below_then HW.out HW.out.size hH.2.2.2.2.2.out⟩⟩
   ·
    have dx : decide (0 < x) = false := decide_eq_false hx
    rw [if_neg hx] at hq
    have HQ2 := az hq
    clear hq hx
    repeat (first | (refine Tod.pu (v := ?_) (a' := ?_) rfl rfl (by kernel_rfl) (fun _ _ _ => id) (Or.inl ⟨by rfl, ?_⟩) ?_ ?_; rotate_left; intro w'; go_simp; (with_reducible rfl); rotate_left; simp only [Act.put, List.setIfInBounds_toArray, List.set_cons_zero, List.set_cons_succ, i64_w, i32_w]; rfl) | (refine Tod.ta (v := ?_) (a' := ?_) rfl rfl (by kernel_rfl) (fun _ _ _ => id) (Or.inl ⟨by rfl, ?_⟩) hH ?_ ?_; rotate_left; (rintro w' ⟨s0, s1, s2, s3, s4, _⟩; go_simp; with_reducible rfl); rotate_left; simp only [Act.put, List.setIfInBounds_toArray, List.set_cons_zero, List.set_cons_succ, i64_w, i32_w]; rfl) | (refine Tod.pu (v := undef) (a' := ?_) rfl rfl (by kernel_rfl) (fun _ _ _ => id) (Or.inr ⟨by rfl, rfl⟩) ?_ ?_; rotate_left; simp only [Act.put, List.setIfInBounds_toArray, List.set_cons_zero, List.set_cons_succ, i64_w, i32_w]; rfl))
    refine Tod.dn (by kernel_rfl) ?_
    go_wp2
    go_roundg g
    case measure => omega
    case rel => exact ⟨y, rfl, HQ2, ⟨below_then HW.out HW.out.size hH.2.2.2.2.2.out⟩⟩
  ·
   rw [if_neg hlt] at hq
   by_cases hl : a1 ≥ 0
   ·
    have dl : decide (0 ≤ a1) = true := decide_eq_true hl
    rw [if_pos hl] at hq
    by_cases hm : a1 ≤ 80
    ·
     have dm : decide (a1 ≤ 80) = true := decide_eq_true hm
     rw [if_pos hm] at hq
     obtain rfl := Option.some.inj hq
     clear hl hq hm
     go_wp2
     go_ret
     exact ⟨by simp, HW.out⟩
    ·
     have dm : decide (a1 ≤ 80) = false := decide_eq_false hm
     rw [if_neg hm] at hq
     obtain rfl := Option.some.inj hq
     clear hl hq hm
     go_wp2
     go_ret
     exact ⟨rfl, HW.out⟩
   ·
    have dl : decide (0 ≤ a1) = false := decide_eq_false hl
    rw [if_neg hl] at hq
    obtain rfl := Option.some.inj hq
    clear hl hq
    go_wp2
    go_ret
    exact ⟨rfl, HW.out⟩
def impl_starts.l0 : Nat → List Int → List Bool → Int → Int → Option (List Int)
 | 0, _, _, _, _ => none
 | k + 1, x3, x7, x8, x9 => if x9 < x8 then (if 0 ≤ x9 then (if x9 < (x7.length : Int) then (if rdOf false x7 x9 = true then (impl_starts.l0 k x3 x7 x8 (wrap64 (x9 + 1))) else (if x3.length < 17592186044416 then (impl_starts.l0 k (x3 ++ [x9]) x7 x8 (wrap64 (x9 + 1))) else (none))) else (none)) else (none)) else (some x3)
def impl_starts.f (k : Nat) (l0 : List Int) : Option (List Int) := (impl_joined.f k l0).bind fun t320 => (impl_starts.l0 k ([] : List Int) t320 (t320.length : Int) 0)
theorem impl_starts.mono_l : ∀ k, (∀ y0 y1 y2 y3, LeO (impl_starts.l0 k y0 y1 y2 y3) (impl_starts.l0 (k + 1) y0 y1 y2 y3))
 | 0 => fun _ _ _ _ r h => by simp [impl_starts.l0] at h
 | k + 1 => by
  have ih0 := impl_starts.mono_l k
  ·
   intro y0 y1 y2 y3; unfold impl_starts.l0
   repeat' first
   | (with_reducible exact ih0 _ _ _ _)
   | (with_reducible exact impl_joined.mono _ _)
   | (with_reducible exact LeO.refl _)
   | (with_reducible exact LeO.none _)
   | (with_reducible refine LeO.ite ?_ ?_)
   | (with_reducible refine LeO.bind ?_ (fun _ => ?_))
   | exact ih0 _ _ _ _
   | exact impl_joined.mono _ _
   | exact LeO.none _
   | refine LeO.ite ?_ ?_
   | refine LeO.bind ?_ (fun _ => ?_)
theorem impl_starts.mono : ∀ a0 k, LeO (impl_starts.f k a0) (impl_starts.f (k + 1) a0) := by
 intro a0 k; have ih0 := impl_starts.mono_l k; unfold impl_starts.f
 repeat' first
   | (with_reducible exact ih0 _ _ _ _)
   | (with_reducible exact impl_joined.mono _ _)
   | (with_reducible exact LeO.refl _)
   | (with_reducible exact LeO.none _)
   | (with_reducible refine LeO.ite ?_ ?_)
   | (with_reducible refine LeO.bind ?_ (fun _ => ?_))
   | exact ih0 _ _ _ _
   | exact impl_joined.mono _ _
   | exact LeO.none _
   | refine LeO.ite ?_ ?_
   | refine LeO.bind ?_ (fun _ => ?_)
theorem impl_starts.calls (k : Nat) (A0 : Option Addr) (c0 : Nat) (l0 : List Int) (r : List Int) (w : World) (hr0 : Kd.C (Kd.int .i64) w A0 l0.length l0) (hc0 : l0.length ≤ c0) (h : impl_starts.f k l0 = some r) :
  Calls Tryz.prog 85 #[.slice A0 l0.length c0] w fun e w' => ∃ v0_ : Value, e = .returned (v0_) ∧ Kd.R (Kd.int .i64) 3 w' w.heap.size (fun _ => True) v0_ r ∧ Below w.heap.size w w' := by
 have HR0 := az hr0; have HC0 := az hc0; clear hr0 hc0; have HB := az (Below.refl w.heap.size w); have H : ((impl_joined.f k l0).bind fun t320 => (impl_starts.l0 k ([] : List Int) t320 (t320.length : Int) 0)) = some r := h; clear h; replace H := Option.bind_eq_some_iff.mp H; obtain ⟨t320, A20, H⟩ := H; replace H : (impl_starts.l0 k ([] : List Int) t320 (t320.length : Int) 0) = some r := H; have A2 := az A20; clear A20; have H' := az H; clear H; go_enter Tryz.func85, Tryz.ntmps85; go_wp2_with (first | ((with_reducible refine gate_callee (f := 79) rfl ?_); refine goesL_ (some 7) rfl rfl Tryz.func79 (by kernel_rfl) rfl #[.slice A0 l0.length c0] rfl zC ?_; (with_reducible refine (impl_joined.calls k _ _ l0 t320 _ ?side1 ?side2 A2.out).mono ?_); (case side1 => exact (zN HR0.out)); (case side2 => exact HC0.out); rintro e w3 ⟨v321, rfl, ho0, hb⟩; refine ⟨_, rfl, ?_⟩; have n0_ := az (Kd.R_lower ho0 (below_size (zA HB.out))); have n1_ := az (below_step (zA HB.out) hb); clear HB; have HO322 := n0_; have HB := n1_; clear n0_ n1_; (try clear hb); (try clear hb2); (try clear hk); (try clear hi); (try clear ho0); obtain ⟨Ao4, co4, eo4⟩ := Kd.R_slice HO322.out; subst eo4)); go_loopg [3, 9] k (fun kq v3 v9 w' => ∃ (x3_1 : List Int) (x9_1 : Int), v9 = .int .i64 x9_1 ∧ Aside0 (impl_starts.l0 kq x3_1 t320 (t320.length : Int) x9_1 = some r) ∧ Aside0 (kq ≤ k) ∧ Aside0 (Kd.R (Kd.int .i64) 3 w' w.heap.size (fun _ => True) v3 x3_1) ∧ Aside0 (Kd.R Kd.bool 4 w' w.heap.size (fun _ => True) (.slice Ao4 t320.length co4) t320) ∧ Aside0 (Below w.heap.size w w'))
 case atStart => exact ⟨(([] : List Int)), (0), zB, H', ⟨Nat.le_refl _⟩, ⟨zU⟩, ⟨zF HO322.out⟩, ⟨zA HB.out⟩⟩
 case round =>
  clear H'; (try clear p2); obtain ⟨x3_1, x9_1, rfl, HA, HK1, HO_3, HO_7, HB⟩ := hrel
  cases gk with
  | zero => exact absurd HA.out (by simp [impl_starts.l0])
  | succ k1 =>
   have H := HA.out; clear HA; simp only [impl_starts.l0] at H; by_cases c5 : x9_1 < (t320.length : Int)
   ·
    rw [if_pos c5] at H; have c5b0 : decide (x9_1 < (t320.length : Int)) = true := decide_eq_true c5; clear c5; by_cases c6 : 0 ≤ x9_1
    ·
     rw [if_pos c6] at H; have c6b0 : decide (0 ≤ x9_1) = true := decide_eq_true c6; clear c6; by_cases c7 : x9_1 < (t320.length : Int)
     ·
      rw [if_pos c7] at H; have c7b0 : decide (x9_1 < (t320.length : Int)) = true := decide_eq_true c7; clear c7; obtain ⟨bq8, hbq8⟩ : ∃ b_ : Bool, b_ = (rdOf false t320 x9_1) := ⟨_, rfl⟩; replace H : (if bq8 = true then (impl_starts.l0 k1 x3_1 t320 (t320.length : Int) (wrap64 (x9_1 + 1))) else (if x3_1.length < 17592186044416 then (impl_starts.l0 k1 (x3_1 ++ [x9_1]) t320 (t320.length : Int) (wrap64 (x9_1 + 1))) else (none))) = some r := by rw [← hbq8] at H; exact H
      have Nbq8 := az hbq8; clear hbq8; by_cases c9 : bq8 = true
      ·
       subst c9; have H1 : (impl_starts.l0 k1 x3_1 t320 (t320.length : Int) (wrap64 (x9_1 + 1))) = some r := by rw [if_pos rfl] at H; exact H
       clear H; have H := H1; clear H1; have H' := az H; clear H; have p323 : 0 ≤ (x9_1 : Int) := of_decide_eq_true (by assumption); have q323 : x9_1 < (t320.length : Int) := of_decide_eq_true (by assumption); obtain ⟨ad323, e323, hx323_0⟩ := Kd.at_bool (Kd.R_reads' HO_7.out).2.2 x9_1 p323 q323; (try rw [← Nbq8.out] at hx323_0)
       cases e323
       replace p323 := eq_true p323; replace q323 := eq_true q323; go_wp2; go_roundg k1
       case measure => have := HK1.out; omega
       case rel => exact ⟨(x3_1), (wrap64 (x9_1 + 1)), zB, H', ⟨zE HK1.out⟩, ⟨zF HO_3.out⟩, ⟨zF HO_7.out⟩, ⟨zA HB.out⟩⟩
      ·
       replace c9 := Bool.eq_false_iff.mpr c9; subst c9; have H1 : (if x3_1.length < 17592186044416 then (impl_starts.l0 k1 (x3_1 ++ [x9_1]) t320 (t320.length : Int) (wrap64 (x9_1 + 1))) else (none)) = some r := by rw [if_neg (show ¬ (false = true) by decide)] at H; exact H
       clear H; have H := H1; clear H1; by_cases c10 : x3_1.length < 17592186044416
       ·
        rw [if_pos c10] at H; have LMc10 := az c10; clear c10; obtain ⟨y324, hy324⟩ : ∃ y_ : List Int, y_ = (x3_1 ++ [x9_1]) := ⟨_, rfl⟩; replace H : (impl_starts.l0 k1 y324 t320 (t320.length : Int) (wrap64 (x9_1 + 1))) = some r := by first | (rw [hy324]; with_reducible exact H) | (have H2_ := (Option.bind_some _ _).symm.trans H; rw [hy324]; with_reducible exact H2_) | (have H2_ := (Option.bind_some _ _).symm.trans H; with_reducible exact H2_) | with_reducible exact H | (rw [hy324]; exact H) | exact H
        have Ny324 := az hy324; clear hy324; have H' := az H; clear H; have p323 : 0 ≤ (x9_1 : Int) := of_decide_eq_true (by assumption); have q323 : x9_1 < (t320.length : Int) := of_decide_eq_true (by assumption); obtain ⟨ad323, e323, hx323_0⟩ := Kd.at_bool (Kd.R_reads' HO_7.out).2.2 x9_1 p323 q323; (try rw [← Nbq8.out] at hx323_0)
        cases e323
        replace p323 := eq_true p323; replace q323 := eq_true q323; go_wp2_with (first | ((with_reducible refine gate_builtin (b := .append) (xs := #[.tmp 16, .tmp 18]) rfl ?_); at_builtin; refine Kd.R_append (Kd.int .i64) (w0 := w) w.heap.size rfl (.tmp 16) (.tmp 18) 22 3 (.int .i64 0) 8 rfl Tryz.underlying22 info3 rfl (by decide) (by omega) u3 x3_1 x9_1 [.int .i64 x9_1] (fun _ => True) (fun _ => False) rfl rfl ?aP (fun _ hk => hk.elim) ?aF ?aO ?aB ?aS ?aL ?_; (case aP => exact rfl); (case aB => exact (zA HB.out)); (case aF => exact (fun _ _ => trivial)); (case aO => exact (zF HO_3.out)); (case aS => exact (below_size (zA HB.out))); (case aL => have := LMc10.out; omega); intro v325 w11 ho hb hg hat; rw [← Ny324.out] at ho; have n0_ := az (Kd.R_over' (zF HO_7.out) (Kd.R_typed (zF HO_3.out)) (by decide) hg); have n1_ := az (hb); have n2_ := az (ho); clear HO_7; clear HB; clear HO_3; have HO_7 := n0_; have HB := n1_; have HO326 := n2_; clear n0_ n1_ n2_; clear ho hb hg hat)); go_roundg k1
        case measure => have := HK1.out; omega
        case rel => exact ⟨(y324), (wrap64 (x9_1 + 1)), zB, H', ⟨zE HK1.out⟩, ⟨zF HO326.out⟩, ⟨zF HO_7.out⟩, ⟨zA HB.out⟩⟩
       ·
        rw [if_neg c10] at H; exact absurd H (by simp)
     ·
      rw [if_neg c7] at H; exact absurd H (by simp)
    ·
     rw [if_neg c6] at H; exact absurd H (by simp)
   ·
    rw [if_neg c5] at H; have c5b0 : decide (x9_1 < (t320.length : Int)) = false := decide_eq_false c5; clear c5; obtain rfl := Option.some.inj H; go_wp2; go_ret; exact ⟨_, zG, zF HO_3.out, zA HB.out⟩
mutual
def impl_RuneWide.j0 : Nat → Int → Int → Bool → Option (Int)
 | 0, _, _, _ => none
 | k + 1, x0, x3, x6 => if x6 = true then (some 0) else (if x0 = 105 then (impl_RuneWide.j1 k x0 x3 (x0 == 105)) else (if x0 = 106 then (impl_RuneWide.j1 k x0 x3 (x0 == 106)) else (if x0 = 108 then (impl_RuneWide.j1 k x0 x3 (x0 == 108)) else (if x0 = 102 then (impl_RuneWide.j1 k x0 x3 (x0 == 102)) else (impl_RuneWide.j1 k x0 x3 (x0 == 116))))))
def impl_RuneWide.j1 : Nat → Int → Int → Bool → Option (Int)
 | 0, _, _, _ => none
 | k + 1, x0, x3, x17 => if x17 = true then (some 6) else (if x0 = 109 then (impl_RuneWide.j2 k x0 x3 (x0 == 109)) else (impl_RuneWide.j2 k x0 x3 (x0 == 119)))
def impl_RuneWide.j2 : Nat → Int → Int → Bool → Option (Int)
 | 0, _, _, _ => none
 | k + 1, x0, x3, x28 => if x28 = true then (some 16) else (if x0 ≥ 19968 then (impl_RuneWide.j3 k x3 (decide (x0 ≤ 40959))) else (impl_RuneWide.j3 k x3 false))
def impl_RuneWide.j3 : Nat → Int → Bool → Option (Int)
 | 0, _, _ => none
 | k + 1, x3, x33 => if x33 = true then (some 20) else (if x3 = 2 then (impl_RuneWide.j4 k x3 (x3 == 2)) else (impl_RuneWide.j4 k x3 (x3 == 3)))
def impl_RuneWide.j4 : Nat → Int → Bool → Option (Int)
 | 0, _, _ => none
 | k + 1, x3, x40 => if x40 = true then (some 12) else (if x3 = 11 then (some 40) else (if x3 = 12 then (some 6) else (if x3 = 8 then (some 6) else (some 10))))
end
def impl_RuneWide.f (k : Nat) (a0 : Int) : Option (Int) := (impl_RuneBidi.f a0).bind fun t327 => (if t327 = 9 then (impl_RuneWide.j0 k a0 t327 (t327 == 9)) else (if t327 = 10 then (impl_RuneWide.j0 k a0 t327 (t327 == 10)) else (if t327 ≥ 14 then (impl_RuneWide.j0 k a0 t327 (decide (t327 ≥ 14))) else (if a0 = 10 then (impl_RuneWide.j0 k a0 t327 (a0 == 10)) else (impl_RuneWide.j0 k a0 t327 (a0 == 13))))))
theorem impl_RuneWide.mono_l : ∀ k, (∀ y0 y1 y2, LeO (impl_RuneWide.j0 k y0 y1 y2) (impl_RuneWide.j0 (k + 1) y0 y1 y2)) ∧ (∀ y0 y1 y2, LeO (impl_RuneWide.j1 k y0 y1 y2) (impl_RuneWide.j1 (k + 1) y0 y1 y2)) ∧ (∀ y0 y1 y2, LeO (impl_RuneWide.j2 k y0 y1 y2) (impl_RuneWide.j2 (k + 1) y0 y1 y2)) ∧ (∀ y0 y1, LeO (impl_RuneWide.j3 k y0 y1) (impl_RuneWide.j3 (k + 1) y0 y1)) ∧ (∀ y0 y1, LeO (impl_RuneWide.j4 k y0 y1) (impl_RuneWide.j4 (k + 1) y0 y1))
 | 0 => ⟨fun _ _ _ r h => by simp [impl_RuneWide.j0] at h, fun _ _ _ r h => by simp [impl_RuneWide.j1] at h, fun _ _ _ r h => by simp [impl_RuneWide.j2] at h, fun _ _ r h => by simp [impl_RuneWide.j3] at h, fun _ _ r h => by simp [impl_RuneWide.j4] at h⟩
 | k + 1 => by
  obtain ⟨ih0, ih1, ih2, ih3, ih4⟩ := impl_RuneWide.mono_l k; refine ⟨?_, ?_, ?_, ?_, ?_⟩
  ·
   intro y0 y1 y2; unfold impl_RuneWide.j0
   repeat' first
   | (with_reducible exact ih0 _ _ _)
   | (with_reducible exact ih1 _ _ _)
   | (with_reducible exact ih2 _ _ _)
   | (with_reducible exact ih3 _ _)
   | (with_reducible exact ih4 _ _)
   | (with_reducible exact LeO.refl _)
   | (with_reducible exact LeO.none _)
   | (with_reducible refine LeO.ite ?_ ?_)
   | (with_reducible refine LeO.bind ?_ (fun _ => ?_))
   | exact ih0 _ _ _
   | exact ih1 _ _ _
   | exact ih2 _ _ _
   | exact ih3 _ _
   | exact ih4 _ _
   | exact LeO.none _
   | refine LeO.ite ?_ ?_
   | refine LeO.bind ?_ (fun _ => ?_)
  ·
   intro y0 y1 y2; unfold impl_RuneWide.j1
   repeat' first
   | (with_reducible exact ih0 _ _ _)
   | (with_reducible exact ih1 _ _ _)
   | (with_reducible exact ih2 _ _ _)
   | (with_reducible exact ih3 _ _)
   | (with_reducible exact ih4 _ _)
   | (with_reducible exact LeO.refl _)
   | (with_reducible exact LeO.none _)
   | (with_reducible refine LeO.ite ?_ ?_)
   | (with_reducible refine LeO.bind ?_ (fun _ => ?_))
   | exact ih0 _ _ _
   | exact ih1 _ _ _
   | exact ih2 _ _ _
   | exact ih3 _ _
   | exact ih4 _ _
   | exact LeO.none _
   | refine LeO.ite ?_ ?_
   | refine LeO.bind ?_ (fun _ => ?_)
  ·
   intro y0 y1 y2; unfold impl_RuneWide.j2
   repeat' first
   | (with_reducible exact ih0 _ _ _)
   | (with_reducible exact ih1 _ _ _)
   | (with_reducible exact ih2 _ _ _)
   | (with_reducible exact ih3 _ _)
   | (with_reducible exact ih4 _ _)
   | (with_reducible exact LeO.refl _)
   | (with_reducible exact LeO.none _)
   | (with_reducible refine LeO.ite ?_ ?_)
   | (with_reducible refine LeO.bind ?_ (fun _ => ?_))
   | exact ih0 _ _ _
   | exact ih1 _ _ _
   | exact ih2 _ _ _
   | exact ih3 _ _
   | exact ih4 _ _
   | exact LeO.none _
   | refine LeO.ite ?_ ?_
   | refine LeO.bind ?_ (fun _ => ?_)
  ·
   intro y0 y1; unfold impl_RuneWide.j3
   repeat' first
   | (with_reducible exact ih0 _ _ _)
   | (with_reducible exact ih1 _ _ _)
   | (with_reducible exact ih2 _ _ _)
   | (with_reducible exact ih3 _ _)
   | (with_reducible exact ih4 _ _)
   | (with_reducible exact LeO.refl _)
   | (with_reducible exact LeO.none _)
   | (with_reducible refine LeO.ite ?_ ?_)
   | (with_reducible refine LeO.bind ?_ (fun _ => ?_))
   | exact ih0 _ _ _
   | exact ih1 _ _ _
   | exact ih2 _ _ _
   | exact ih3 _ _
   | exact ih4 _ _
   | exact LeO.none _
   | refine LeO.ite ?_ ?_
   | refine LeO.bind ?_ (fun _ => ?_)
  ·
   intro y0 y1; unfold impl_RuneWide.j4
   repeat' first
   | (with_reducible exact ih0 _ _ _)
   | (with_reducible exact ih1 _ _ _)
   | (with_reducible exact ih2 _ _ _)
   | (with_reducible exact ih3 _ _)
   | (with_reducible exact ih4 _ _)
   | (with_reducible exact LeO.refl _)
   | (with_reducible exact LeO.none _)
   | (with_reducible refine LeO.ite ?_ ?_)
   | (with_reducible refine LeO.bind ?_ (fun _ => ?_))
   | exact ih0 _ _ _
   | exact ih1 _ _ _
   | exact ih2 _ _ _
   | exact ih3 _ _
   | exact ih4 _ _
   | exact LeO.none _
   | refine LeO.ite ?_ ?_
   | refine LeO.bind ?_ (fun _ => ?_)
theorem impl_RuneWide.mono : ∀ a0 k, LeO (impl_RuneWide.f k a0) (impl_RuneWide.f (k + 1) a0) := by
 intro a0 k; obtain ⟨ih0, ih1, ih2, ih3, ih4⟩ := impl_RuneWide.mono_l k; unfold impl_RuneWide.f
 repeat' first
   | (with_reducible exact ih0 _ _ _)
   | (with_reducible exact ih1 _ _ _)
   | (with_reducible exact ih2 _ _ _)
   | (with_reducible exact ih3 _ _)
   | (with_reducible exact ih4 _ _)
   | (with_reducible exact LeO.refl _)
   | (with_reducible exact LeO.none _)
   | (with_reducible refine LeO.ite ?_ ?_)
   | (with_reducible refine LeO.bind ?_ (fun _ => ?_))
   | exact ih0 _ _ _
   | exact ih1 _ _ _
   | exact ih2 _ _ _
   | exact ih3 _ _
   | exact ih4 _ _
   | exact LeO.none _
   | refine LeO.ite ?_ ?_
   | refine LeO.bind ?_ (fun _ => ?_)
theorem impl_RuneWide.calls (k : Nat) (a0 : Int) (r : Int) (w : World) (h : impl_RuneWide.f k a0 = some r) :
  Calls Tryz.prog 118 #[.int .i64 a0] w fun e w' => e = .returned (.int .i64 r) ∧ Below w.heap.size w w' := by
 have HB := az (Below.refl w.heap.size w); have H : ((impl_RuneBidi.f a0).bind fun t327 => (if t327 = 9 then (impl_RuneWide.j0 k a0 t327 (t327 == 9)) else (if t327 = 10 then (impl_RuneWide.j0 k a0 t327 (t327 == 10)) else (if t327 ≥ 14 then (impl_RuneWide.j0 k a0 t327 (decide (t327 ≥ 14))) else (if a0 = 10 then (impl_RuneWide.j0 k a0 t327 (a0 == 10)) else (impl_RuneWide.j0 k a0 t327 (a0 == 13))))))) = some r := h; clear h; replace H := Option.bind_eq_some_iff.mp H; obtain ⟨t327, A20, H⟩ := H; replace H : (if t327 = 9 then (impl_RuneWide.j0 k a0 t327 (t327 == 9)) else (if t327 = 10 then (impl_RuneWide.j0 k a0 t327 (t327 == 10)) else (if t327 ≥ 14 then (impl_RuneWide.j0 k a0 t327 (decide (t327 ≥ 14))) else (if a0 = 10 then (impl_RuneWide.j0 k a0 t327 (a0 == 10)) else (impl_RuneWide.j0 k a0 t327 (a0 == 13)))))) = some r := H; have A2 := az A20; clear A20; have HC3 := az H; clear H; go_enter Tryz.func118, Tryz.ntmps118; go_upto_if 6 with (first | ((with_reducible refine gate_callee (f := 115) rfl ?_); refine goesL_ (some 5) rfl rfl Tryz.func115 (by kernel_rfl) rfl #[.int .i64 a0] rfl zC ?_; (with_reducible refine (impl_RuneBidi.calls a0 t327 _ A2.out).mono ?_); rintro e w4 ⟨rfl, hb⟩; refine ⟨_, rfl, ?_⟩; have n0_ := az (below_step (zA HB.out) hb); clear HB; have HB := n0_; clear n0_; (try clear hb); (try clear hb2); (try clear hk); (try clear hi)))
 (try simp only [Act.put, List.setIfInBounds_toArray, List.set_cons_zero, List.set_cons_succ]); go_cut [6] (fun v6 wc => ∃ (kq : Nat) (x6_2 : Bool), v6 = .bool x6_2 ∧ Aside0 (impl_RuneWide.j0 kq a0 t327 x6_2 = some r) ∧ Aside0 (kq ≤ k) ∧ Aside0 (Below w.heap.size w wc))
 case first =>
  have H := HC3.out; clear HC3; by_cases c5 : t327 = 9
  ·
   rw [if_pos c5] at H; have c5b0 : (t327 == 9) = true := beq_iff_eq.mpr c5; have c5b1 : (t327 != 9) = false := bne_eq_false_iff_eq.mpr c5; clear c5; (first | rw [c5b0] | (simp only [i64_w, i32_w]; rw [c5b0]) | skip); have H' := az H; clear H; go_wp2; go_meet
   case rel => exact ⟨_, ((t327 == 9)), zB, H', ⟨zI⟩, ⟨zA HB.out⟩⟩
  ·
   rw [if_neg c5] at H; have c5b0 : (t327 == 9) = false := beq_eq_false_iff_ne.mpr c5; have c5b1 : (t327 != 9) = true := bne_iff_ne.mpr c5; (first | rw [c5b0] | (simp only [i64_w, i32_w]; rw [c5b0]) | skip); by_cases c6 : t327 = 10
   ·
    rw [if_pos c6] at H; have c6b0 : (t327 == 10) = true := beq_iff_eq.mpr c6; have c6b1 : (t327 != 10) = false := bne_eq_false_iff_eq.mpr c6; clear c6; have H' := az H; clear H; go_wp2; go_meet
    case rel => exact ⟨_, ((t327 == 10)), zB, H', ⟨zI⟩, ⟨zA HB.out⟩⟩
   ·
    rw [if_neg c6] at H; have c6b0 : (t327 == 10) = false := beq_eq_false_iff_ne.mpr c6; have c6b1 : (t327 != 10) = true := bne_iff_ne.mpr c6; by_cases c7 : t327 ≥ 14
    ·
     rw [if_pos c7] at H; have c7b0 : decide (14 ≤ t327) = true := decide_eq_true c7; clear c7; have H' := az H; clear H; go_wp2; go_meet
     case rel => exact ⟨_, (decide (t327 ≥ 14)), zB, H', ⟨zI⟩, ⟨zA HB.out⟩⟩
    ·
     rw [if_neg c7] at H; have c7b0 : decide (14 ≤ t327) = false := decide_eq_false c7; clear c7; by_cases c8 : a0 = 10
     ·
      rw [if_pos c8] at H; have c8b0 : (a0 == 10) = true := beq_iff_eq.mpr c8; have c8b1 : (a0 != 10) = false := bne_eq_false_iff_eq.mpr c8; clear c8; have H' := az H; clear H; go_wp2; go_meet
      case rel => exact ⟨_, ((a0 == 10)), zB, H', ⟨zI⟩, ⟨zA HB.out⟩⟩
     ·
      rw [if_neg c8] at H; have c8b0 : (a0 == 10) = false := beq_eq_false_iff_ne.mpr c8; have c8b1 : (a0 != 10) = true := bne_iff_ne.mpr c8; have H' := az H; clear H; go_wp2; go_meet
      case rel => exact ⟨_, ((a0 == 13)), zB, H', ⟨zI⟩, ⟨zA HB.out⟩⟩
 case rest =>
  clear HC3; (try clear c1); (try clear p2); (try clear c5); (try clear c5b0); (try clear c5b1); (try clear c6); (try clear c6b0); (try clear c6b1); (try clear c7); (try clear c7b0); (try clear c8); (try clear c8b0); (try clear c8b1); obtain ⟨kq, x6_2, rfl, HA, HJ2, HB⟩ := hcut
  cases kq with
  | zero => exact absurd HA.out (by simp [impl_RuneWide.j0])
  | succ kj2 =>
   have H := HA.out; clear HA; simp only [impl_RuneWide.j0] at H; by_cases c9 : x6_2 = true
   ·
    subst c9; have H1 : (some 0) = some r := by rw [if_pos rfl] at H; exact H
    clear H; have H := H1; clear H1; obtain rfl := Option.some.inj H; go_wp2; go_ret; exact ⟨zG, zA HB.out⟩
   ·
    replace c9 := Bool.eq_false_iff.mpr c9; subst c9; have H1 : (if a0 = 105 then (impl_RuneWide.j1 kj2 a0 t327 (a0 == 105)) else (if a0 = 106 then (impl_RuneWide.j1 kj2 a0 t327 (a0 == 106)) else (if a0 = 108 then (impl_RuneWide.j1 kj2 a0 t327 (a0 == 108)) else (if a0 = 102 then (impl_RuneWide.j1 kj2 a0 t327 (a0 == 102)) else (impl_RuneWide.j1 kj2 a0 t327 (a0 == 116)))))) = some r := by rw [if_neg (show ¬ (false = true) by decide)] at H; exact H
    clear H; have H := H1; clear H1; have HC10 := az H; clear H; go_upto_if 17 with (fail)
    go_cut [17] (fun v17 wc => ∃ (kq : Nat) (x17_9 : Bool), v17 = .bool x17_9 ∧ Aside0 (impl_RuneWide.j1 kq a0 t327 x17_9 = some r) ∧ Aside0 (kq ≤ kj2) ∧ Aside0 (Below w.heap.size w wc))
    case first =>
     have H := HC10.out; clear HC10; by_cases c11 : a0 = 105
     ·
      rw [if_pos c11] at H; have c11b0 : (a0 == 105) = true := beq_iff_eq.mpr c11; have c11b1 : (a0 != 105) = false := bne_eq_false_iff_eq.mpr c11; clear c11; (first | rw [c11b0] | (simp only [i64_w, i32_w]; rw [c11b0]) | skip); have H' := az H; clear H; go_wp2; go_meet
      case rel => exact ⟨_, ((a0 == 105)), zB, H', ⟨zJ HJ2.out⟩, ⟨zA HB.out⟩⟩
     ·
      rw [if_neg c11] at H; have c11b0 : (a0 == 105) = false := beq_eq_false_iff_ne.mpr c11; have c11b1 : (a0 != 105) = true := bne_iff_ne.mpr c11; (first | rw [c11b0] | (simp only [i64_w, i32_w]; rw [c11b0]) | skip); by_cases c12 : a0 = 106
      ·
       rw [if_pos c12] at H; have c12b0 : (a0 == 106) = true := beq_iff_eq.mpr c12; have c12b1 : (a0 != 106) = false := bne_eq_false_iff_eq.mpr c12; clear c12; have H' := az H; clear H; go_wp2; go_meet
       case rel => exact ⟨_, ((a0 == 106)), zB, H', ⟨zJ HJ2.out⟩, ⟨zA HB.out⟩⟩
      ·
       rw [if_neg c12] at H; have c12b0 : (a0 == 106) = false := beq_eq_false_iff_ne.mpr c12; have c12b1 : (a0 != 106) = true := bne_iff_ne.mpr c12; by_cases c13 : a0 = 108
       ·
        rw [if_pos c13] at H; have c13b0 : (a0 == 108) = true := beq_iff_eq.mpr c13; have c13b1 : (a0 != 108) = false := bne_eq_false_iff_eq.mpr c13; clear c13; have H' := az H; clear H; go_wp2; go_meet
        case rel => exact ⟨_, ((a0 == 108)), zB, H', ⟨zJ HJ2.out⟩, ⟨zA HB.out⟩⟩
       ·
        rw [if_neg c13] at H; have c13b0 : (a0 == 108) = false := beq_eq_false_iff_ne.mpr c13; have c13b1 : (a0 != 108) = true := bne_iff_ne.mpr c13; by_cases c14 : a0 = 102
        ·
         rw [if_pos c14] at H; have c14b0 : (a0 == 102) = true := beq_iff_eq.mpr c14; have c14b1 : (a0 != 102) = false := bne_eq_false_iff_eq.mpr c14; clear c14; have H' := az H; clear H; go_wp2; go_meet
         case rel => exact ⟨_, ((a0 == 102)), zB, H', ⟨zJ HJ2.out⟩, ⟨zA HB.out⟩⟩
        ·
         rw [if_neg c14] at H; have c14b0 : (a0 == 102) = false := beq_eq_false_iff_ne.mpr c14; have c14b1 : (a0 != 102) = true := bne_iff_ne.mpr c14; have H' := az H; clear H; go_wp2; go_meet
         case rel => exact ⟨_, ((a0 == 116)), zB, H', ⟨zJ HJ2.out⟩, ⟨zA HB.out⟩⟩
    case rest =>
     clear HC10; (try clear c1); (try clear p2); (try clear c5); (try clear c5b0); (try clear c5b1); (try clear c6); (try clear c6b0); (try clear c6b1); (try clear c7); (try clear c7b0); (try clear c8); (try clear c8b0); (try clear c8b1); (try clear c9); (try clear c11); (try clear c11b0); (try clear c11b1); (try clear c12); (try clear c12b0); (try clear c12b1); (try clear c13); (try clear c13b0); (try clear c13b1); (try clear c14); (try clear c14b0); (try clear c14b1); (try clear p2); obtain ⟨kq, x17_9, rfl, HA, HJ9, HB⟩ := hcut
     cases kq with
     | zero => exact absurd HA.out (by simp [impl_RuneWide.j1])
     | succ kj9 =>
      have H := HA.out; clear HA; simp only [impl_RuneWide.j1] at H; by_cases c15 : x17_9 = true
      ·
       subst c15; have H1 : (some 6) = some r := by rw [if_pos rfl] at H; exact H
       clear H; have H := H1; clear H1; obtain rfl := Option.some.inj H; go_wp2; go_ret; exact ⟨zG, zA HB.out⟩
      ·
       replace c15 := Bool.eq_false_iff.mpr c15; subst c15; have H1 : (if a0 = 109 then (impl_RuneWide.j2 kj9 a0 t327 (a0 == 109)) else (impl_RuneWide.j2 kj9 a0 t327 (a0 == 119))) = some r := by rw [if_neg (show ¬ (false = true) by decide)] at H; exact H
       clear H; have H := H1; clear H1; have HC16 := az H; clear H; go_upto_if 28 with (fail)
       go_cut [28] (fun v28 wc => ∃ (kq : Nat) (x28_15 : Bool), v28 = .bool x28_15 ∧ Aside0 (impl_RuneWide.j2 kq a0 t327 x28_15 = some r) ∧ Aside0 (kq ≤ kj9) ∧ Aside0 (Below w.heap.size w wc))
       case first =>
        have H := HC16.out; clear HC16; by_cases c17 : a0 = 109
        ·
         rw [if_pos c17] at H; have c17b0 : (a0 == 109) = true := beq_iff_eq.mpr c17; have c17b1 : (a0 != 109) = false := bne_eq_false_iff_eq.mpr c17; clear c17; (first | rw [c17b0] | (simp only [i64_w, i32_w]; rw [c17b0]) | skip); have H' := az H; clear H; go_wp2; go_meet
         case rel => exact ⟨_, ((a0 == 109)), zB, H', ⟨zO HJ2.out HJ9.out⟩, ⟨zA HB.out⟩⟩
        ·
         rw [if_neg c17] at H; have c17b0 : (a0 == 109) = false := beq_eq_false_iff_ne.mpr c17; have c17b1 : (a0 != 109) = true := bne_iff_ne.mpr c17; (first | rw [c17b0] | (simp only [i64_w, i32_w]; rw [c17b0]) | skip); have H' := az H; clear H; go_wp2; go_meet
         case rel => exact ⟨_, ((a0 == 119)), zB, H', ⟨zO HJ2.out HJ9.out⟩, ⟨zA HB.out⟩⟩
       case rest =>
        clear HC16; (try clear c1); (try clear p2); (try clear c5); (try clear c5b0); (try clear c5b1); (try clear c6); (try clear c6b0); (try clear c6b1); (try clear c7); (try clear c7b0); (try clear c8); (try clear c8b0); (try clear c8b1); (try clear c9); (try clear c11); (try clear c11b0); (try clear c11b1); (try clear c12); (try clear c12b0); (try clear c12b1); (try clear c13); (try clear c13b0); (try clear c13b1); (try clear c14); (try clear c14b0); (try clear c14b1); (try clear c15); (try clear c17); (try clear c17b0); (try clear c17b1); (try clear p2); obtain ⟨kq, x28_15, rfl, HA, HJ15, HB⟩ := hcut
        cases kq with
        | zero => exact absurd HA.out (by simp [impl_RuneWide.j2])
        | succ kj15 =>
         have H := HA.out; clear HA; simp only [impl_RuneWide.j2] at H; by_cases c18 : x28_15 = true
         ·
          subst c18; have H1 : (some 16) = some r := by rw [if_pos rfl] at H; exact H
          clear H; have H := H1; clear H1; obtain rfl := Option.some.inj H; go_wp2; go_ret; exact ⟨zG, zA HB.out⟩
         ·
          replace c18 := Bool.eq_false_iff.mpr c18; subst c18; have H1 : (if a0 ≥ 19968 then (impl_RuneWide.j3 kj15 t327 (decide (a0 ≤ 40959))) else (impl_RuneWide.j3 kj15 t327 false)) = some r := by rw [if_neg (show ¬ (false = true) by decide)] at H; exact H
          clear H; have H := H1; clear H1; have HC19 := az H; clear H; go_upto_region 17 with (fail)
          go_cut [33] (fun v33 wc => ∃ (kq : Nat) (x33_18 : Bool), v33 = .bool x33_18 ∧ Aside0 (impl_RuneWide.j3 kq t327 x33_18 = some r) ∧ Aside0 (kq ≤ kj15) ∧ Aside0 (Below w.heap.size w wc))
          case first =>
           have H := HC19.out; clear HC19; by_cases c20 : a0 ≥ 19968
           ·
            rw [if_pos c20] at H; have c20b0 : decide (19968 ≤ a0) = true := decide_eq_true c20; clear c20; (first | rw [c20b0] | (simp only [i64_w, i32_w]; rw [c20b0]) | skip); have H' := az H; clear H; go_wp2; go_meet
            case rel => exact ⟨_, (decide (a0 ≤ 40959)), zB, H', ⟨zS HJ2.out HJ9.out HJ15.out⟩, ⟨zA HB.out⟩⟩
           ·
            rw [if_neg c20] at H; have c20b0 : decide (19968 ≤ a0) = false := decide_eq_false c20; clear c20; (first | rw [c20b0] | (simp only [i64_w, i32_w]; rw [c20b0]) | skip); have H' := az H; clear H; go_wp2; go_meet
            case rel => exact ⟨_, (false), zB, H', ⟨zS HJ2.out HJ9.out HJ15.out⟩, ⟨zA HB.out⟩⟩
          case rest =>
           clear HC19; (try clear c1); (try clear c2); (try clear p2); (try clear c5); (try clear c5b0); (try clear c5b1); (try clear c6); (try clear c6b0); (try clear c6b1); (try clear c7); (try clear c7b0); (try clear c8); (try clear c8b0); (try clear c8b1); (try clear c9); (try clear c11); (try clear c11b0); (try clear c11b1); (try clear c12); (try clear c12b0); (try clear c12b1); (try clear c13); (try clear c13b0); (try clear c13b1); (try clear c14); (try clear c14b0); (try clear c14b1); (try clear c15); (try clear c17); (try clear c17b0); (try clear c17b1); (try clear c18); (try clear c20); (try clear c20b0); (try clear p2); obtain ⟨kq, x33_18, rfl, HA, HJ18, HB⟩ := hcut
           cases kq with
           | zero => exact absurd HA.out (by simp [impl_RuneWide.j3])
           | succ kj18 =>
            have H := HA.out; clear HA; simp only [impl_RuneWide.j3] at H; by_cases c21 : x33_18 = true
            ·
             subst c21; have H1 : (some 20) = some r := by rw [if_pos rfl] at H; exact H
             clear H; have H := H1; clear H1; obtain rfl := Option.some.inj H; go_wp2; go_ret; exact ⟨zG, zA HB.out⟩
            ·
             replace c21 := Bool.eq_false_iff.mpr c21; subst c21; have H1 : (if t327 = 2 then (impl_RuneWide.j4 kj18 t327 (t327 == 2)) else (impl_RuneWide.j4 kj18 t327 (t327 == 3))) = some r := by rw [if_neg (show ¬ (false = true) by decide)] at H; exact H
             clear H; have H := H1; clear H1; have HC22 := az H; clear H; go_upto_if 40 with (fail)
             go_cut [40] (fun v40 wc => ∃ (kq : Nat) (x40_21 : Bool), v40 = .bool x40_21 ∧ Aside0 (impl_RuneWide.j4 kq t327 x40_21 = some r) ∧ Aside0 (kq ≤ kj18) ∧ Aside0 (Below w.heap.size w wc))
             case first =>
              have H := HC22.out; clear HC22; by_cases c23 : t327 = 2
              ·
               rw [if_pos c23] at H; have c23b0 : (t327 == 2) = true := beq_iff_eq.mpr c23; have c23b1 : (t327 != 2) = false := bne_eq_false_iff_eq.mpr c23; clear c23; (first | rw [c23b0] | (simp only [i64_w, i32_w]; rw [c23b0]) | skip); have H' := az H; clear H; go_wp2; go_meet
               case rel => exact ⟨_, ((t327 == 2)), zB, H', ⟨by have := HJ2.out; have := HJ9.out; have := HJ15.out; have := HJ18.out; first | omega | exact Nat.le_refl _⟩, ⟨zA HB.out⟩⟩
              ·
               rw [if_neg c23] at H; have c23b0 : (t327 == 2) = false := beq_eq_false_iff_ne.mpr c23; have c23b1 : (t327 != 2) = true := bne_iff_ne.mpr c23; (first | rw [c23b0] | (simp only [i64_w, i32_w]; rw [c23b0]) | skip); have H' := az H; clear H; go_wp2; go_meet
               case rel => exact ⟨_, ((t327 == 3)), zB, H', ⟨by have := HJ2.out; have := HJ9.out; have := HJ15.out; have := HJ18.out; first | omega | exact Nat.le_refl _⟩, ⟨zA HB.out⟩⟩
             case rest =>
              clear HC22; (try clear c1); (try clear c2); (try clear p2); (try clear c5); (try clear c5b0); (try clear c5b1); (try clear c6); (try clear c6b0); (try clear c6b1); (try clear c7); (try clear c7b0); (try clear c8); (try clear c8b0); (try clear c8b1); (try clear c9); (try clear c11); (try clear c11b0); (try clear c11b1); (try clear c12); (try clear c12b0); (try clear c12b1); (try clear c13); (try clear c13b0); (try clear c13b1); (try clear c14); (try clear c14b0); (try clear c14b1); (try clear c15); (try clear c17); (try clear c17b0); (try clear c17b1); (try clear c18); (try clear c20); (try clear c20b0); (try clear c21); (try clear c23); (try clear c23b0); (try clear c23b1); (try clear p2); obtain ⟨kq, x40_21, rfl, HA, HJ21, HB⟩ := hcut
              cases kq with
              | zero => exact absurd HA.out (by simp [impl_RuneWide.j4])
              | succ kj21 =>
               have H := HA.out; clear HA; simp only [impl_RuneWide.j4] at H; by_cases c24 : x40_21 = true
               ·
                subst c24; have H1 : (some 12) = some r := by rw [if_pos rfl] at H; exact H
                clear H; have H := H1; clear H1; obtain rfl := Option.some.inj H; go_wp2; go_ret; exact ⟨zG, zA HB.out⟩
               ·
                replace c24 := Bool.eq_false_iff.mpr c24; subst c24; have H1 : (if t327 = 11 then (some 40) else (if t327 = 12 then (some 6) else (if t327 = 8 then (some 6) else (some 10)))) = some r := by rw [if_neg (show ¬ (false = true) by decide)] at H; exact H
                clear H; have H := H1; clear H1; by_cases c25 : t327 = 11
                ·
                 rw [if_pos c25] at H; have c25b0 : (t327 == 11) = true := beq_iff_eq.mpr c25; have c25b1 : (t327 != 11) = false := bne_eq_false_iff_eq.mpr c25; clear c25; obtain rfl := Option.some.inj H; go_wp2; go_ret; exact ⟨zG, zA HB.out⟩
                ·
                 rw [if_neg c25] at H; have c25b0 : (t327 == 11) = false := beq_eq_false_iff_ne.mpr c25; have c25b1 : (t327 != 11) = true := bne_iff_ne.mpr c25; by_cases c26 : t327 = 12
                 ·
                  rw [if_pos c26] at H; have c26b0 : (t327 == 12) = true := beq_iff_eq.mpr c26; have c26b1 : (t327 != 12) = false := bne_eq_false_iff_eq.mpr c26; clear c26; obtain rfl := Option.some.inj H; go_wp2; go_ret; exact ⟨zG, zA HB.out⟩
                 ·
                  rw [if_neg c26] at H; have c26b0 : (t327 == 12) = false := beq_eq_false_iff_ne.mpr c26; have c26b1 : (t327 != 12) = true := bne_iff_ne.mpr c26; by_cases c27 : t327 = 8
                  ·
                   rw [if_pos c27] at H; have c27b0 : (t327 == 8) = true := beq_iff_eq.mpr c27; have c27b1 : (t327 != 8) = false := bne_eq_false_iff_eq.mpr c27; clear c27; obtain rfl := Option.some.inj H; go_wp2; go_ret; exact ⟨zG, zA HB.out⟩
                  ·
                   rw [if_neg c27] at H; have c27b0 : (t327 == 8) = false := beq_eq_false_iff_ne.mpr c27; have c27b1 : (t327 != 8) = true := bne_iff_ne.mpr c27; obtain rfl := Option.some.inj H; go_wp2; go_ret; exact ⟨zG, zA HB.out⟩
def impl_clusterWide.l0 : Nat → List Int → List Bool → Int → Int → Option (Int)
 | 0, _, _, _, _ => none
 | k + 1, x0, x5, x6, x7 => if x7 < (x0.length : Int) then (if 0 ≤ x7 then (if x7 < (x5.length : Int) then (if rdOf false x5 x7 = true then ((impl_RuneWide.f k (rd x0 x7)).bind fun t335 => (impl_clusterWide.l0 k x0 x5 (mx x6 t335) (wrap64 (x7 + 1)))) else (some x6)) else (none)) else (none)) else (some x6)
def impl_clusterWide.f (k : Nat) (l0 : List Int) (a1 : Int) : Option (Int) := (impl_joined.f k l0).bind fun t328 => (if 0 ≤ a1 then (if a1 < (l0.length : Int) then ((impl_RuneWide.f k (rd l0 a1)).bind fun t332 => (impl_clusterWide.l0 k l0 t328 t332 (wrap64 (a1 + 1)))) else (none)) else (none))
theorem impl_clusterWide.mono_l : ∀ k, (∀ y0 y1 y2 y3, LeO (impl_clusterWide.l0 k y0 y1 y2 y3) (impl_clusterWide.l0 (k + 1) y0 y1 y2 y3))
 | 0 => fun _ _ _ _ r h => by simp [impl_clusterWide.l0] at h
 | k + 1 => by
  have ih0 := impl_clusterWide.mono_l k
  ·
   intro y0 y1 y2 y3; unfold impl_clusterWide.l0
   repeat' first
   | (with_reducible exact ih0 _ _ _ _)
   | (with_reducible exact impl_RuneWide.mono _ _)
   | (with_reducible exact impl_joined.mono _ _)
   | (with_reducible exact LeO.refl _)
   | (with_reducible exact LeO.none _)
   | (with_reducible refine LeO.ite ?_ ?_)
   | (with_reducible refine LeO.bind ?_ (fun _ => ?_))
   | exact ih0 _ _ _ _
   | exact impl_RuneWide.mono _ _
   | exact impl_joined.mono _ _
   | exact LeO.none _
   | refine LeO.ite ?_ ?_
   | refine LeO.bind ?_ (fun _ => ?_)
theorem impl_clusterWide.mono : ∀ a0 a1 k, LeO (impl_clusterWide.f k a0 a1) (impl_clusterWide.f (k + 1) a0 a1) := by
 intro a0 a1 k; have ih0 := impl_clusterWide.mono_l k; unfold impl_clusterWide.f
 repeat' first
   | (with_reducible exact ih0 _ _ _ _)
   | (with_reducible exact impl_RuneWide.mono _ _)
   | (with_reducible exact impl_joined.mono _ _)
   | (with_reducible exact LeO.refl _)
   | (with_reducible exact LeO.none _)
   | (with_reducible refine LeO.ite ?_ ?_)
   | (with_reducible refine LeO.bind ?_ (fun _ => ?_))
   | exact ih0 _ _ _ _
   | exact impl_RuneWide.mono _ _
   | exact impl_joined.mono _ _
   | exact LeO.none _
   | refine LeO.ite ?_ ?_
   | refine LeO.bind ?_ (fun _ => ?_)
theorem impl_clusterWide.calls (k : Nat) (A0 : Option Addr) (c0 : Nat) (l0 : List Int) (a1 : Int) (r : Int) (w : World) (hr0 : Kd.C (Kd.int .i64) w A0 l0.length l0) (hc0 : l0.length ≤ c0) (h : impl_clusterWide.f k l0 a1 = some r) :
  Calls Tryz.prog 86 #[.slice A0 l0.length c0, .int .i64 a1] w fun e w' => e = .returned (.int .i64 r) ∧ Below w.heap.size w w' := by
 have HR0 := az hr0; have HC0 := az hc0; clear hr0 hc0; have HB := az (Below.refl w.heap.size w); have H : ((impl_joined.f k l0).bind fun t328 => (if 0 ≤ a1 then (if a1 < (l0.length : Int) then ((impl_RuneWide.f k (rd l0 a1)).bind fun t332 => (impl_clusterWide.l0 k l0 t328 t332 (wrap64 (a1 + 1)))) else (none)) else (none))) = some r := h; clear h; replace H := Option.bind_eq_some_iff.mp H; obtain ⟨t328, A30, H⟩ := H; replace H : (if 0 ≤ a1 then (if a1 < (l0.length : Int) then ((impl_RuneWide.f k (rd l0 a1)).bind fun t332 => (impl_clusterWide.l0 k l0 t328 t332 (wrap64 (a1 + 1)))) else (none)) else (none)) = some r := H; have A3 := az A30; clear A30; by_cases c4 : 0 ≤ a1
 ·
  rw [if_pos c4] at H; have c4b0 : decide (0 ≤ a1) = true := decide_eq_true c4; clear c4; by_cases c5 : a1 < (l0.length : Int)
  ·
   rw [if_pos c5] at H; have c5b0 : decide (a1 < (l0.length : Int)) = true := decide_eq_true c5; clear c5; replace H := Option.bind_eq_some_iff.mp H; obtain ⟨t332, A60, H⟩ := H; replace H : (impl_clusterWide.l0 k l0 t328 t332 (wrap64 (a1 + 1))) = some r := H; have A6 := az A60; clear A60; have H' := az H; clear H; go_enter Tryz.func86, Tryz.ntmps86; go_wp2_with (first | ((with_reducible refine gate_callee (f := 79) rfl ?_); refine goesL_ (some 9) rfl rfl Tryz.func79 (by kernel_rfl) rfl #[.slice A0 l0.length c0] rfl zC ?_; (with_reducible refine (impl_joined.calls k _ _ l0 t328 _ ?side1 ?side2 A3.out).mono ?_); (case side1 => exact (zN HR0.out)); (case side2 => exact HC0.out); rintro e w7 ⟨v329, rfl, ho0, hb⟩; refine ⟨_, rfl, ?_⟩; have n0_ := az (Kd.R_lower ho0 (below_size (zA HB.out))); have n1_ := az (below_step (zA HB.out) hb); clear HB; have HO330 := n0_; have HB := n1_; clear n0_ n1_; (try clear hb); (try clear hb2); (try clear hk); (try clear hi); (try clear ho0); have p331 : 0 ≤ (a1 : Int) := of_decide_eq_true (by assumption); have q331 : a1 < (l0.length : Int) := of_decide_eq_true (by assumption); obtain ⟨ad331, e331, hx331_0⟩ := Kd.at_int HR0.out a1 p331 q331; cases e331; replace hx331_0 := (HB.out.cell (World.block_lt_of_cell? w _ hx331_0)).trans hx331_0; replace p331 := eq_true p331; replace q331 := eq_true q331) | ((with_reducible refine gate_callee (f := 118) rfl ?_); refine goesL_ (some 14) rfl rfl Tryz.func118 (by kernel_rfl) rfl #[.int .i64 (rd l0 a1)] rfl zC ?_; (with_reducible refine (impl_RuneWide.calls k (rd l0 a1) t332 _ A6.out).mono ?_); rintro e w8 ⟨rfl, hb⟩; refine ⟨_, rfl, ?_⟩; have n0_ := az (Kd.R_below (zF HO330.out) hb); have n1_ := az (below_step (zA HB.out) hb); clear HO330; clear HB; have HO330 := n0_; have HB := n1_; clear n0_ n1_; (try clear hb); (try clear hb2); (try clear hk); (try clear hi))); go_loopg [6, 7] k (fun kq v6 v7 w' => ∃ (x6_1 : Int) (x7_1 : Int), v6 = .int .i64 x6_1 ∧ v7 = .int .i64 x7_1 ∧ Aside0 (impl_clusterWide.l0 kq l0 t328 x6_1 x7_1 = some r) ∧ Aside0 (kq ≤ k) ∧ Aside0 (Kd.R Kd.bool 4 w' w.heap.size (fun _ => True) v329 t328) ∧ Aside0 (Below w.heap.size w w'))
   case atStart => exact ⟨(t332), (wrap64 (a1 + 1)), zB, zB, H', ⟨Nat.le_refl _⟩, ⟨zF HO330.out⟩, ⟨zA HB.out⟩⟩
   case round =>
    clear H'; (try clear c1); (try clear p2); (try clear p3); (try clear q3); (try clear hx3); (try clear c4); (try clear c4b0); (try clear c5); (try clear c5b0); (try clear p6); (try clear c7); (try clear c8); (try clear hx331_0); (try clear p331); (try clear q331); obtain ⟨x6_1, x7_1, rfl, rfl, HA, HK1, HO_5, HB⟩ := hrel
    cases gk with
    | zero => exact absurd HA.out (by simp [impl_clusterWide.l0])
    | succ k1 =>
     have H := HA.out; clear HA; simp only [impl_clusterWide.l0] at H; by_cases c9 : x7_1 < (l0.length : Int)
     ·
      rw [if_pos c9] at H; have c9b0 : decide (x7_1 < (l0.length : Int)) = true := decide_eq_true c9; clear c9; by_cases c10 : 0 ≤ x7_1
      ·
       rw [if_pos c10] at H; have c10b0 : decide (0 ≤ x7_1) = true := decide_eq_true c10; clear c10; by_cases c11 : x7_1 < (t328.length : Int)
       ·
        rw [if_pos c11] at H; have c11b0 : decide (x7_1 < (t328.length : Int)) = true := decide_eq_true c11; clear c11; obtain ⟨bq12, hbq12⟩ : ∃ b_ : Bool, b_ = (rdOf false t328 x7_1) := ⟨_, rfl⟩; replace H : (if bq12 = true then ((impl_RuneWide.f k1 (rd l0 x7_1)).bind fun t335 => (impl_clusterWide.l0 k1 l0 t328 (mx x6_1 t335) (wrap64 (x7_1 + 1)))) else (some x6_1)) = some r := by rw [← hbq12] at H; exact H
        have Nbq12 := az hbq12; clear hbq12; by_cases c13 : bq12 = true
        ·
         subst c13; have H1 : ((impl_RuneWide.f k1 (rd l0 x7_1)).bind fun t335 => (impl_clusterWide.l0 k1 l0 t328 (mx x6_1 t335) (wrap64 (x7_1 + 1)))) = some r := by rw [if_pos rfl] at H; exact H
         clear H; have H := H1; clear H1; replace H := Option.bind_eq_some_iff.mp H; obtain ⟨t335, A140, H⟩ := H; replace H : (impl_clusterWide.l0 k1 l0 t328 (mx x6_1 t335) (wrap64 (x7_1 + 1))) = some r := H; have A14 := az A140; clear A140; obtain ⟨ji15, hji15⟩ : ∃ j_ : Int, (mx x6_1 t335) = j_ := ⟨_, rfl⟩; replace H : (impl_clusterWide.l0 k1 l0 t328 ji15 (wrap64 (x7_1 + 1))) = some r := by first | (rw [hji15] at H; exact H) | (simp only [hji15] at H ⊢; exact H)
         (try rw [hji15] at A14); have hji15_ : (if x6_1 < t335 then t335 else x6_1) = ji15 := hji15; have H' := az H; clear H; obtain ⟨Ao16, co16, eo16⟩ := Kd.R_slice HO_5.out; subst eo16; have p333 : 0 ≤ (x7_1 : Int) := of_decide_eq_true (by assumption); have q333 : x7_1 < (t328.length : Int) := of_decide_eq_true (by assumption); obtain ⟨ad333, e333, hx333_0⟩ := Kd.at_bool (Kd.R_reads' HO_5.out).2.2 x7_1 p333 q333; (try rw [← Nbq12.out] at hx333_0)
         cases e333
         replace p333 := eq_true p333; replace q333 := eq_true q333; have p334 : 0 ≤ (x7_1 : Int) := of_decide_eq_true (by assumption); have q334 : x7_1 < (l0.length : Int) := of_decide_eq_true (by assumption); obtain ⟨ad334, e334, hx334_0⟩ := Kd.at_int HR0.out x7_1 p334 q334; obtain rfl : ad331 = ad334 := (by injection e334); replace hx334_0 := (HB.out.cell (World.block_lt_of_cell? w _ hx334_0)).trans hx334_0; replace p334 := eq_true p334; replace q334 := eq_true q334; go_wp2_with (first | ((with_reducible refine gate_callee (f := 118) rfl ?_); refine goesL_ (some 34) rfl rfl Tryz.func118 (by kernel_rfl) rfl #[.int .i64 (rd l0 x7_1)] rfl zC ?_; (with_reducible refine (impl_RuneWide.calls k1 (rd l0 x7_1) t335 _ A14.out).mono ?_); rintro e w17 ⟨rfl, hb⟩; refine ⟨_, rfl, ?_⟩; have n0_ := az (Kd.R_below (zF HO_5.out) hb); have n1_ := az (below_step (zA HB.out) hb); clear HO_5; clear HB; have HO_5 := n0_; have HB := n1_; clear n0_ n1_; (try clear hb); (try clear hb2); (try clear hk); (try clear hi))); go_roundg k1
         case measure => have := HK1.out; omega
         case rel => exact ⟨(ji15), (wrap64 (x7_1 + 1)), (by first | rfl | (simp; done) | (simp only [← hji15] <;> (first | rfl | simp)) | (simp [*]; done)), zB, H', ⟨zE HK1.out⟩, ⟨zF HO_5.out⟩, ⟨zA HB.out⟩⟩
        ·
         replace c13 := Bool.eq_false_iff.mpr c13; subst c13; have H1 : (some x6_1) = some r := by rw [if_neg (show ¬ (false = true) by decide)] at H; exact H
         clear H; have H := H1; clear H1; obtain rfl := Option.some.inj H; obtain ⟨Ao18, co18, eo18⟩ := Kd.R_slice HO_5.out; subst eo18; have p333 : 0 ≤ (x7_1 : Int) := of_decide_eq_true (by assumption); have q333 : x7_1 < (t328.length : Int) := of_decide_eq_true (by assumption); obtain ⟨ad333, e333, hx333_0⟩ := Kd.at_bool (Kd.R_reads' HO_5.out).2.2 x7_1 p333 q333; (try rw [← Nbq12.out] at hx333_0)
         cases e333
         replace p333 := eq_true p333; replace q333 := eq_true q333; go_wp2; go_ret; exact ⟨zG, zA HB.out⟩
       ·
        rw [if_neg c11] at H; exact absurd H (by simp)
      ·
       rw [if_neg c10] at H; exact absurd H (by simp)
     ·
      rw [if_neg c9] at H; have c9b0 : decide (x7_1 < (l0.length : Int)) = false := decide_eq_false c9; clear c9; obtain rfl := Option.some.inj H; go_wp2; go_ret; exact ⟨zG, zA HB.out⟩
  ·
   rw [if_neg c5] at H; exact absurd H (by simp)
 ·
  rw [if_neg c4] at H; exact absurd H (by simp)
def impl_plainLook.f  : Option (Int × Int) := some (10, 0)
theorem impl_plainLook.calls  (r1 : Int) (r2 : Int) (w : World) (h : impl_plainLook.f  = some (r1, r2)) :
  Calls Tryz.prog 119 #[] w fun e w' => e = .returned (.agg #[.int .i64 r1, .int .i64 r2]) ∧ Below w.heap.size w w' := by
 have hu99 := Tryz.underlying99
 have HB := az (Below.refl w.heap.size w)
 have H : (some (10, 0)) = some (r1, r2) := h
 clear h
 simp only [Option.some.injEq, Prod.mk.injEq] at H
 obtain ⟨rfl, rfl⟩ := H
 go_enter Tryz.func119, Tryz.ntmps119
 go_wp2_with (first | ((with_reducible refine gate_dst (N := 0) rfl ?_); refine box_event ?hg (N := 0) ?hd (cs := #[.int .i64 0, .int .i64 0]) (t := 99) ?hr ?_; (case hd => rfl); (case hg => rfl); (case hr => first | (go_simp; done) | (go_simp; rfl)); intro gb336 hg w1 hbox hb; have n0_ := az (below_step (zA HB.out) hb); have n1_ := az (hbox); have n2_ := az ((by rw [hg]; exact (below_size (zA HB.out)) : w.heap.size ≤ gb336)); have n3_ := az ((by rw [hg]; exact (below_size (zA HB.out)) : w.heap.size ≤ gb336)); clear HB; have HB := n0_; have BK336 := n1_; have GW336 := n2_; have GE336 := n3_; clear n0_ n1_ n2_ n3_; clear hb hbox hg; have hcz2_0 : w1.cell? ⟨gb336, 0, none⟩ = some (.int .i64 0) := (blk_cell BK336.out 0).trans rfl; have hcz2_1 : w1.cell? ⟨gb336, 1, none⟩ = some (.int .i64 0) := (blk_cell BK336.out 1).trans rfl; have hfz2_0 := blk_frozen BK336.out 0; have hfz2_1 := blk_frozen BK336.out 1))
 refine bodyPost_ret (results_cell_row rfl _ _ gb336 99 #[.int .i64 10, .int .i64 0] (0, 0) _ rfl (by (with_reducible repeat (first | refine blk_drewN ?_ _ | refine blk_drew ?_ | refine blk_alloc ?_ _)); refine blk_put (cs := #[.int .i64 10, .int .i64 0]) ?_ 1 _ rfl; (with_reducible repeat (first | refine blk_drewN ?_ _ | refine blk_drew ?_ | refine blk_alloc ?_ _)); refine blk_put (cs := #[.int .i64 0, .int .i64 0]) ?_ 0 _ rfl; (with_reducible repeat (first | refine blk_drewN ?_ _ | refine blk_drew ?_ | refine blk_alloc ?_ _)); exact BK336.out) Tryz.underlying99 rfl (by kernel_rfl)) rfl ?_
 exact ⟨zG, zK HB.out GE336.out⟩
def impl_lookAt.l0 : Nat → Int → List (S50) → Int → Int → Option (Int × Int)
 | 0, _, _, _, _ => none
 | k + 1, x1, x7, x8, x9 => if x9 < x8 then (if 0 ≤ x9 then (if x9 < (x7.length : Int) then (if x1 ≥ ((rd_T50 x7 x9).f0) then (if x1 < ((rd_T50 x7 x9).f1) then (some ((rd_T50 x7 x9).f2, (rd_T50 x7 x9).f3)) else (impl_lookAt.l0 k x1 x7 x8 (wrap64 (x9 + 1)))) else (impl_lookAt.l0 k x1 x7 x8 (wrap64 (x9 + 1)))) else (none)) else (none)) else ((impl_plainLook.f).bind fun bt340 => (some (bt340.1, bt340.2)))
def impl_lookAt.f (k : Nat) (l0 : List (S50)) (a1 : Int) : Option (Int × Int) := impl_lookAt.l0 k a1 l0 (l0.length : Int) 0
theorem impl_lookAt.mono_l : ∀ k, (∀ y0 y1 y2 y3, LeO (impl_lookAt.l0 k y0 y1 y2 y3) (impl_lookAt.l0 (k + 1) y0 y1 y2 y3))
 | 0 => fun _ _ _ _ r h => by simp [impl_lookAt.l0] at h
 | k + 1 => by
  have ih0 := impl_lookAt.mono_l k
  ·
   intro y0 y1 y2 y3; unfold impl_lookAt.l0
   repeat' first
   | (with_reducible exact ih0 _ _ _ _)
   | (with_reducible exact LeO.refl _)
   | (with_reducible exact LeO.none _)
   | (with_reducible refine LeO.ite ?_ ?_)
   | (with_reducible refine LeO.bind ?_ (fun _ => ?_))
   | exact ih0 _ _ _ _
   | exact LeO.none _
   | refine LeO.ite ?_ ?_
   | refine LeO.bind ?_ (fun _ => ?_)
theorem impl_lookAt.mono : ∀ a0 a1 k, LeO (impl_lookAt.f k a0 a1) (impl_lookAt.f (k + 1) a0 a1) := by
 intro a0 a1 k; have ih0 := impl_lookAt.mono_l k; unfold impl_lookAt.f
 repeat' first
   | (with_reducible exact ih0 _ _ _ _)
   | (with_reducible exact LeO.refl _)
   | (with_reducible exact LeO.none _)
   | (with_reducible refine LeO.ite ?_ ?_)
   | (with_reducible refine LeO.bind ?_ (fun _ => ?_))
   | exact ih0 _ _ _ _
   | exact LeO.none _
   | refine LeO.ite ?_ ?_
   | refine LeO.bind ?_ (fun _ => ?_)
theorem impl_lookAt.calls (k : Nat) (A0 : Option Addr) (c0 : Nat) (l0 : List (S50)) (a1 : Int) (r1 : Int) (r2 : Int) (w : World) (hr0 : Kd.C k50 w A0 l0.length l0) (hc0 : l0.length ≤ c0) (h : impl_lookAt.f k l0 a1 = some (r1, r2)) :
  Calls Tryz.prog 87 #[.slice A0 l0.length c0, .int .i64 a1] w fun e w' => e = .returned (.agg #[.int .i64 r1, .int .i64 r2]) ∧ Below w.heap.size w w' := by
 have hu99 := Tryz.underlying99; have hu50 := Tryz.underlying50; have HR0 := az hr0; have HC0 := az hc0; clear hr0 hc0; have HB := az (Below.refl w.heap.size w); have H : (impl_lookAt.l0 k a1 l0 (l0.length : Int) 0) = some (r1, r2) := h; clear h; have H' := az H; clear H; go_enter Tryz.func87, Tryz.ntmps87; go_wp2_with (first | ((with_reducible refine gate_dst (N := 4) rfl ?_); refine box_event ?hg (N := 4) ?hd (cs := #[.int .i64 0, .int .i64 0]) (t := 99) ?hr ?_; (case hd => rfl); (case hg => rfl); (case hr => first | (go_simp; done) | (go_simp; rfl)); intro gb337 hg w3 hbox hb; have n0_ := az (below_step (zA HB.out) hb); have n1_ := az (hbox); have n2_ := az ((by rw [hg]; exact (below_size (zA HB.out)) : w.heap.size ≤ gb337)); have n3_ := az ((by rw [hg]; exact (below_size (zA HB.out)) : w.heap.size ≤ gb337)); clear HB; have HB := n0_; have BK337 := n1_; have GW337 := n2_; have GE337 := n3_; clear n0_ n1_ n2_ n3_; clear hb hbox hg)); go_loopg [9] k (fun kq v9 w' => ∃ (x9_1 : Int) (x338000_1 : Int) (x338001_1 : Int), v9 = .int .i64 x9_1 ∧ Aside0 (impl_lookAt.l0 kq a1 l0 (l0.length : Int) x9_1 = some (r1, r2)) ∧ Aside0 (kq ≤ k) ∧ Aside0 (w'.heap[gb337]? = some (.cells #[.int .i64 x338000_1, .int .i64 x338001_1] 99 (0, 0))) ∧ Aside0 (Below w.heap.size w w'))
 case atStart => exact ⟨(0), (0), (0), zB, H', ⟨Nat.le_refl _⟩, ⟨zP BK337.out⟩, ⟨zK HB.out GE337.out⟩⟩
 case round =>
  clear H'; (try clear p2); obtain ⟨x9_1, x338000_1, x338001_1, rfl, HA, HK1, BK337, HB⟩ := hrel
  cases gk with
  | zero => exact absurd HA.out (by simp [impl_lookAt.l0])
  | succ k1 =>
   have H := HA.out; clear HA; simp only [impl_lookAt.l0] at H; by_cases c4 : x9_1 < (l0.length : Int)
   ·
    rw [if_pos c4] at H; have c4b0 : decide (x9_1 < (l0.length : Int)) = true := decide_eq_true c4; clear c4; by_cases c5 : 0 ≤ x9_1
    ·
     rw [if_pos c5] at H; have c5b0 : decide (0 ≤ x9_1) = true := decide_eq_true c5; clear c5; by_cases c6 : x9_1 < (l0.length : Int)
     ·
      rw [if_pos c6] at H; have c6b0 : decide (x9_1 < (l0.length : Int)) = true := decide_eq_true c6; clear c6; by_cases c7 : a1 ≥ ((rd_T50 l0 x9_1).f0)
      ·
       rw [if_pos c7] at H; have c7b0 : decide (((rd_T50 l0 x9_1).f0) ≤ a1) = true := decide_eq_true c7; clear c7; by_cases c8 : a1 < ((rd_T50 l0 x9_1).f1)
       ·
        rw [if_pos c8] at H; have c8b0 : decide (a1 < ((rd_T50 l0 x9_1).f1)) = true := decide_eq_true c8; clear c8; simp only [Option.some.injEq, Prod.mk.injEq] at H; obtain ⟨rfl, rfl⟩ := H; have p338 : 0 ≤ (x9_1 : Int) := of_decide_eq_true (by assumption); have q338 : x9_1 < (l0.length : Int) := of_decide_eq_true (by assumption); obtain ⟨ad338, e338, hx338_0, hx338_1, hx338_2, hx338_3⟩ := at_T50 HR0.out x9_1 p338 q338
        cases e338
        replace hx338_0 := (HB.out.cell (World.block_lt_of_cell? w _ hx338_0)).trans hx338_0; replace hx338_1 := (HB.out.cell (World.block_lt_of_cell? w _ hx338_1)).trans hx338_1; replace hx338_2 := (HB.out.cell (World.block_lt_of_cell? w _ hx338_2)).trans hx338_2; replace hx338_3 := (HB.out.cell (World.block_lt_of_cell? w _ hx338_3)).trans hx338_3; replace p338 := eq_true p338; replace q338 := eq_true q338; go_wp2_with (first | ((with_reducible refine gate_dst (N := 6) rfl ?_); refine box_event ?hg (N := 6) ?hd (cs := #[.int .i64 0, .int .i64 0, .int .i64 0, .int .i64 0]) (t := 50) ?hr ?_; (case hd => rfl); (case hg => rfl); (case hr => first | (go_simp; done) | (go_simp; rfl)); intro gb339 hg w9 hbox hb; have n0_ := az (blk_below (g := gb337) (o := .cells #[.int .i64 x338000_1, .int .i64 x338001_1] 99 (0, 0)) (zP BK337.out) hb); have n1_ := az (below_step (zK HB.out GE337.out) hb); have n2_ := az (hbox); have n3_ := az ((by rw [hg]; exact (below_size (zK HB.out GE337.out)) : w.heap.size ≤ gb339)); have n4_ := az ((by rw [hg]; exact (below_size (zK HB.out GE337.out)) : w.heap.size ≤ gb339)); have n5_ := az ((by rw [hg]; exact Nat.ne_of_lt (blk_lt (g := gb337) (o := .cells #[.int .i64 x338000_1, .int .i64 x338001_1] 99 (0, 0)) (zP BK337.out)) : gb337 ≠ gb339)); have n6_ := az ((by rw [hg]; exact Nat.ne_of_gt (blk_lt (g := gb337) (o := .cells #[.int .i64 x338000_1, .int .i64 x338001_1] 99 (0, 0)) (zP BK337.out)) : gb339 ≠ gb337)); clear BK337; clear HB; have BK337 := n0_; have HB := n1_; have BK339 := n2_; have GW339 := n3_; have GE339 := n4_; have NB337_339 := n5_; have NB339_337 := n6_; clear n0_ n1_ n2_ n3_ n4_ n5_ n6_; clear hb hbox hg; have hnb10 := NB339_337.out; have hnc10 := NB337_339.out; have hcz11_0 : w9.cell? ⟨gb339, 0, none⟩ = some (.int .i64 0) := (blk_cell BK339.out 0).trans rfl; have hcz11_1 : w9.cell? ⟨gb339, 1, none⟩ = some (.int .i64 0) := (blk_cell BK339.out 1).trans rfl; have hcz11_2 : w9.cell? ⟨gb339, 2, none⟩ = some (.int .i64 0) := (blk_cell BK339.out 2).trans rfl; have hcz11_3 : w9.cell? ⟨gb339, 3, none⟩ = some (.int .i64 0) := (blk_cell BK339.out 3).trans rfl; have hfz11_0 := blk_frozen BK339.out 0; have hfz11_1 := blk_frozen BK339.out 1; have hfz11_2 := blk_frozen BK339.out 2; have hfz11_3 := blk_frozen BK339.out 3; have hcz12_0 : w9.cell? ⟨gb337, 0, none⟩ = some (.int .i64 x338000_1) := (blk_cell BK337.out 0).trans rfl; have hcz12_1 : w9.cell? ⟨gb337, 1, none⟩ = some (.int .i64 x338001_1) := (blk_cell BK337.out 1).trans rfl; have hfz12_0 := blk_frozen BK337.out 0; have hfz12_1 := blk_frozen BK337.out 1)); refine bodyPost_ret (results_cell_row rfl _ _ gb337 99 #[.int .i64 ((rd_T50 l0 x9_1).f2), .int .i64 ((rd_T50 l0 x9_1).f3)] (0, 0) _ rfl (by (with_reducible repeat (first | refine blk_drewN ?_ _ | refine blk_drew ?_ | refine blk_alloc ?_ _)); refine blk_put (cs := #[.int .i64 ((rd_T50 l0 x9_1).f2), .int .i64 x338001_1]) ?_ 1 _ rfl; (with_reducible repeat (first | refine blk_drewN ?_ _ | refine blk_drew ?_ | refine blk_alloc ?_ _)); refine blk_put (cs := #[.int .i64 x338000_1, .int .i64 x338001_1]) ?_ 0 _ rfl; (with_reducible repeat (first | refine blk_drewN ?_ _ | refine blk_drew ?_ | refine blk_alloc ?_ _)); refine blk_far ?_ NB337_339.out _; (with_reducible repeat (first | refine blk_drewN ?_ _ | refine blk_drew ?_ | refine blk_alloc ?_ _)); refine blk_far ?_ NB337_339.out _; (with_reducible repeat (first | refine blk_drewN ?_ _ | refine blk_drew ?_ | refine blk_alloc ?_ _)); refine blk_far ?_ NB337_339.out _; (with_reducible repeat (first | refine blk_drewN ?_ _ | refine blk_drew ?_ | refine blk_alloc ?_ _)); refine blk_far ?_ NB337_339.out _; (with_reducible repeat (first | refine blk_drewN ?_ _ | refine blk_drew ?_ | refine blk_alloc ?_ _)); exact BK337.out) Tryz.underlying99 rfl (by kernel_rfl)) rfl ?_
        exact ⟨zG, zX HB.out GE337.out GE339.out⟩
       ·
        rw [if_neg c8] at H; have c8b0 : decide (a1 < ((rd_T50 l0 x9_1).f1)) = false := decide_eq_false c8; clear c8; have H' := az H; clear H; have p338 : 0 ≤ (x9_1 : Int) := of_decide_eq_true (by assumption); have q338 : x9_1 < (l0.length : Int) := of_decide_eq_true (by assumption); obtain ⟨ad338, e338, hx338_0, hx338_1, hx338_2, hx338_3⟩ := at_T50 HR0.out x9_1 p338 q338
        cases e338
        replace hx338_0 := (HB.out.cell (World.block_lt_of_cell? w _ hx338_0)).trans hx338_0; replace hx338_1 := (HB.out.cell (World.block_lt_of_cell? w _ hx338_1)).trans hx338_1; replace hx338_2 := (HB.out.cell (World.block_lt_of_cell? w _ hx338_2)).trans hx338_2; replace hx338_3 := (HB.out.cell (World.block_lt_of_cell? w _ hx338_3)).trans hx338_3; replace p338 := eq_true p338; replace q338 := eq_true q338; go_wp2_with (first | ((with_reducible refine gate_dst (N := 6) rfl ?_); refine box_event ?hg (N := 6) ?hd (cs := #[.int .i64 0, .int .i64 0, .int .i64 0, .int .i64 0]) (t := 50) ?hr ?_; (case hd => rfl); (case hg => rfl); (case hr => first | (go_simp; done) | (go_simp; rfl)); intro gb339 hg w13 hbox hb; have n0_ := az (blk_below (g := gb337) (o := .cells #[.int .i64 x338000_1, .int .i64 x338001_1] 99 (0, 0)) (zP BK337.out) hb); have n1_ := az (below_step (zK HB.out GE337.out) hb); have n2_ := az (hbox); have n3_ := az ((by rw [hg]; exact (below_size (zK HB.out GE337.out)) : w.heap.size ≤ gb339)); have n4_ := az ((by rw [hg]; exact (below_size (zK HB.out GE337.out)) : w.heap.size ≤ gb339)); have n5_ := az ((by rw [hg]; exact Nat.ne_of_lt (blk_lt (g := gb337) (o := .cells #[.int .i64 x338000_1, .int .i64 x338001_1] 99 (0, 0)) (zP BK337.out)) : gb337 ≠ gb339)); have n6_ := az ((by rw [hg]; exact Nat.ne_of_gt (blk_lt (g := gb337) (o := .cells #[.int .i64 x338000_1, .int .i64 x338001_1] 99 (0, 0)) (zP BK337.out)) : gb339 ≠ gb337)); clear BK337; clear HB; have BK337 := n0_; have HB := n1_; have BK339 := n2_; have GW339 := n3_; have GE339 := n4_; have NB337_339 := n5_; have NB339_337 := n6_; clear n0_ n1_ n2_ n3_ n4_ n5_ n6_; clear hb hbox hg; have hnb14 := NB339_337.out; have hnc14 := NB337_339.out; have hcz15_0 : w13.cell? ⟨gb339, 0, none⟩ = some (.int .i64 0) := (blk_cell BK339.out 0).trans rfl; have hcz15_1 : w13.cell? ⟨gb339, 1, none⟩ = some (.int .i64 0) := (blk_cell BK339.out 1).trans rfl; have hcz15_2 : w13.cell? ⟨gb339, 2, none⟩ = some (.int .i64 0) := (blk_cell BK339.out 2).trans rfl; have hcz15_3 : w13.cell? ⟨gb339, 3, none⟩ = some (.int .i64 0) := (blk_cell BK339.out 3).trans rfl; have hfz15_0 := blk_frozen BK339.out 0; have hfz15_1 := blk_frozen BK339.out 1; have hfz15_2 := blk_frozen BK339.out 2; have hfz15_3 := blk_frozen BK339.out 3)); go_roundg k1
        case measure => have := HK1.out; omega
        case rel => exact ⟨(wrap64 (x9_1 + 1)), (x338000_1), (x338001_1), zB, H', ⟨zE HK1.out⟩, ⟨by (with_reducible repeat (first | refine blk_drewN ?_ _ | refine blk_drew ?_ | refine blk_alloc ?_ _)); refine blk_far ?_ NB337_339.out _; (with_reducible repeat (first | refine blk_drewN ?_ _ | refine blk_drew ?_ | refine blk_alloc ?_ _)); refine blk_far ?_ NB337_339.out _; (with_reducible repeat (first | refine blk_drewN ?_ _ | refine blk_drew ?_ | refine blk_alloc ?_ _)); refine blk_far ?_ NB337_339.out _; (with_reducible repeat (first | refine blk_drewN ?_ _ | refine blk_drew ?_ | refine blk_alloc ?_ _)); refine blk_far ?_ NB337_339.out _; (with_reducible repeat (first | refine blk_drewN ?_ _ | refine blk_drew ?_ | refine blk_alloc ?_ _)); exact BK337.out⟩, ⟨zX HB.out GE337.out GE339.out⟩⟩
      ·
       rw [if_neg c7] at H; have c7b0 : decide (((rd_T50 l0 x9_1).f0) ≤ a1) = false := decide_eq_false c7; clear c7; have H' := az H; clear H; have p338 : 0 ≤ (x9_1 : Int) := of_decide_eq_true (by assumption); have q338 : x9_1 < (l0.length : Int) := of_decide_eq_true (by assumption); obtain ⟨ad338, e338, hx338_0, hx338_1, hx338_2, hx338_3⟩ := at_T50 HR0.out x9_1 p338 q338
       cases e338
       replace hx338_0 := (HB.out.cell (World.block_lt_of_cell? w _ hx338_0)).trans hx338_0; replace hx338_1 := (HB.out.cell (World.block_lt_of_cell? w _ hx338_1)).trans hx338_1; replace hx338_2 := (HB.out.cell (World.block_lt_of_cell? w _ hx338_2)).trans hx338_2; replace hx338_3 := (HB.out.cell (World.block_lt_of_cell? w _ hx338_3)).trans hx338_3; replace p338 := eq_true p338; replace q338 := eq_true q338; go_wp2_with (first | ((with_reducible refine gate_dst (N := 6) rfl ?_); refine box_event ?hg (N := 6) ?hd (cs := #[.int .i64 0, .int .i64 0, .int .i64 0, .int .i64 0]) (t := 50) ?hr ?_; (case hd => rfl); (case hg => rfl); (case hr => first | (go_simp; done) | (go_simp; rfl)); intro gb339 hg w16 hbox hb; have n0_ := az (blk_below (g := gb337) (o := .cells #[.int .i64 x338000_1, .int .i64 x338001_1] 99 (0, 0)) (zP BK337.out) hb); have n1_ := az (below_step (zK HB.out GE337.out) hb); have n2_ := az (hbox); have n3_ := az ((by rw [hg]; exact (below_size (zK HB.out GE337.out)) : w.heap.size ≤ gb339)); have n4_ := az ((by rw [hg]; exact (below_size (zK HB.out GE337.out)) : w.heap.size ≤ gb339)); have n5_ := az ((by rw [hg]; exact Nat.ne_of_lt (blk_lt (g := gb337) (o := .cells #[.int .i64 x338000_1, .int .i64 x338001_1] 99 (0, 0)) (zP BK337.out)) : gb337 ≠ gb339)); have n6_ := az ((by rw [hg]; exact Nat.ne_of_gt (blk_lt (g := gb337) (o := .cells #[.int .i64 x338000_1, .int .i64 x338001_1] 99 (0, 0)) (zP BK337.out)) : gb339 ≠ gb337)); clear BK337; clear HB; have BK337 := n0_; have HB := n1_; have BK339 := n2_; have GW339 := n3_; have GE339 := n4_; have NB337_339 := n5_; have NB339_337 := n6_; clear n0_ n1_ n2_ n3_ n4_ n5_ n6_; clear hb hbox hg; have hnb17 := NB339_337.out; have hnc17 := NB337_339.out; have hcz18_0 : w16.cell? ⟨gb339, 0, none⟩ = some (.int .i64 0) := (blk_cell BK339.out 0).trans rfl; have hcz18_1 : w16.cell? ⟨gb339, 1, none⟩ = some (.int .i64 0) := (blk_cell BK339.out 1).trans rfl; have hcz18_2 : w16.cell? ⟨gb339, 2, none⟩ = some (.int .i64 0) := (blk_cell BK339.out 2).trans rfl; have hcz18_3 : w16.cell? ⟨gb339, 3, none⟩ = some (.int .i64 0) := (blk_cell BK339.out 3).trans rfl; have hfz18_0 := blk_frozen BK339.out 0; have hfz18_1 := blk_frozen BK339.out 1; have hfz18_2 := blk_frozen BK339.out 2; have hfz18_3 := blk_frozen BK339.out 3)); go_roundg k1
       case measure => have := HK1.out; omega
       case rel => exact ⟨(wrap64 (x9_1 + 1)), (x338000_1), (x338001_1), zB, H', ⟨zE HK1.out⟩, ⟨by (with_reducible repeat (first | refine blk_drewN ?_ _ | refine blk_drew ?_ | refine blk_alloc ?_ _)); refine blk_far ?_ NB337_339.out _; (with_reducible repeat (first | refine blk_drewN ?_ _ | refine blk_drew ?_ | refine blk_alloc ?_ _)); refine blk_far ?_ NB337_339.out _; (with_reducible repeat (first | refine blk_drewN ?_ _ | refine blk_drew ?_ | refine blk_alloc ?_ _)); refine blk_far ?_ NB337_339.out _; (with_reducible repeat (first | refine blk_drewN ?_ _ | refine blk_drew ?_ | refine blk_alloc ?_ _)); refine blk_far ?_ NB337_339.out _; (with_reducible repeat (first | refine blk_drewN ?_ _ | refine blk_drew ?_ | refine blk_alloc ?_ _)); exact BK337.out⟩, ⟨zX HB.out GE337.out GE339.out⟩⟩
     ·
      rw [if_neg c6] at H; exact absurd H (by simp)
    ·
     rw [if_neg c5] at H; exact absurd H (by simp)
   ·
    rw [if_neg c4] at H; have c4b0 : decide (x9_1 < (l0.length : Int)) = false := decide_eq_false c4; clear c4; replace H := Option.bind_eq_some_iff.mp H; obtain ⟨⟨t340, t341⟩, A190, H⟩ := H; replace H : (some (t340, t341)) = some (r1, r2) := H; have A19 := az A190; clear A190; simp only [Option.some.injEq, Prod.mk.injEq] at H; obtain ⟨rfl, rfl⟩ := H; go_wp2_with (first | ((with_reducible refine gate_callee (f := 119) rfl ?_); refine goesL_ (some 29) rfl rfl Tryz.func119 (by kernel_rfl) rfl #[] rfl zC ?_; (with_reducible refine (impl_plainLook.calls  t340 t341 _ A19.out).mono ?_); rintro e w20 ⟨rfl, hb⟩; refine ⟨_, rfl, ?_⟩; have n0_ := az (blk_below (g := gb337) (o := .cells #[.int .i64 x338000_1, .int .i64 x338001_1] 99 (0, 0)) (zP BK337.out) hb); have n1_ := az (below_step (zK HB.out GE337.out) hb); clear BK337; clear HB; have BK337 := n0_; have HB := n1_; clear n0_ n1_; (try clear hb); (try clear hb2); (try clear hk); (try clear hi); have hcz21_0 : w20.cell? ⟨gb337, 0, none⟩ = some (.int .i64 x338000_1) := (blk_cell BK337.out 0).trans rfl; have hcz21_1 : w20.cell? ⟨gb337, 1, none⟩ = some (.int .i64 x338001_1) := (blk_cell BK337.out 1).trans rfl; have hfz21_0 := blk_frozen BK337.out 0; have hfz21_1 := blk_frozen BK337.out 1)); refine bodyPost_ret (results_cell_row rfl _ _ gb337 99 #[.int .i64 t340, .int .i64 t341] (0, 0) _ rfl (by (with_reducible repeat (first | refine blk_drewN ?_ _ | refine blk_drew ?_ | refine blk_alloc ?_ _)); refine blk_put (cs := #[.int .i64 t340, .int .i64 x338001_1]) ?_ 1 _ rfl; (with_reducible repeat (first | refine blk_drewN ?_ _ | refine blk_drew ?_ | refine blk_alloc ?_ _)); refine blk_put (cs := #[.int .i64 x338000_1, .int .i64 x338001_1]) ?_ 0 _ rfl; (with_reducible repeat (first | refine blk_drewN ?_ _ | refine blk_drew ?_ | refine blk_alloc ?_ _)); exact BK337.out) Tryz.underlying99 rfl (by kernel_rfl)) rfl ?_; exact ⟨zG, zK HB.out GE337.out⟩
end Go.Proofs.YtmcdcogedcbndaaGreat.S
