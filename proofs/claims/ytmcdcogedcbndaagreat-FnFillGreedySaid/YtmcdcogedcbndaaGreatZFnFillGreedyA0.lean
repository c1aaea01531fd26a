/- Of drawn letters, spans and a width: each line that is as full as can be and does not end where it must has no room for the next word; the lines are the reference's. No condition beyond the statement's own. (text 1 of 7 of this claim: functions of the program and of the reference as plain Lean functions, what a call of each comes to, and what follows.) -/
import Derived.Test.YtmcdcogedcbndaaGreatProg
import Derived.Test.YtmcdcogedcbndaaGreatZWWords
import Derived.Test.YtmcdcogedcbndaaGreatZWLast
import Derived.Test.YtmcdcogedcbndaaGreatZWTab
import Derived.Test.YtmcdcogedcbndaaGreatZWQPut
import Derived.Test.YtmcdcogedcbndaaGreatZWApart
import Derived.Test.YtmcdcogedcbndaaGreatZWArr
import Derived.Test.YtmcdcogedcbndaaGreatZWZeros
import Derived.Test.YtmcdcogedcbndaaGreatZWFoot
import Derived.Test.YtmcdcogedcbndaaGreatZWKept
import Derived.Test.YtmcdcogedcbndaaGreatZWShare
import Derived.Test.YtmcdcogedcbndaaGreatZWN
import Derived.Test.YtmcdcogedcbndaaGreatZWRepsOne
import Derived.Test.YtmcdcogedcbndaaGreatZWNEv
import Derived.Test.YtmcdcogedcbndaaGreatZWMore
import Derived.Below
import Derived.Deep.Draws
import Derived.Deep.AppendLies
import Derived.Maps.AppendAt
import Derived.OwnWalk
import Derived.Laws.BytesArg
import Derived.Laws.MakeOwn
import Derived.Laws.OwnMore
import Derived.Deep.OwnRows
import Derived.Tactics
import Derived.Lib.ConvBytes
import Derived.Laws.Slices
import Derived.WalkKit
import Derived.KernelRfl
import Derived.RowKit3
import Derived.Deep.LoopGhost
import Derived.Deep.QuietTactic
import Derived.BigQuiet
import Derived.WideLaws
import Derived.Deep.DeepCutAuto
import Derived.Deep.CutBlock
import Derived.Deep.RegionHeld3
import Derived.Laws.Rows
import Derived.Lib.AppendStr
import Derived.ArgAppend
import Derived.Laws.IdiomCopy
import Derived.OrdersHeld
import Derived.Laws.BitsLemmas
import Derived.RowKit
import Derived.Maps.Own
import Derived.Maps.OwnOps
import Derived.Maps.Views
import Derived.Shelf.Abstract
import Derived.BigRegion
import Derived.Deep.CutRange
import Derived.Deep.DeepMust
import Derived.Deep.RegionLaw
import Derived.LoopIn
import Derived.LoopNIn
import Derived.OwnWalkIn
import Derived.RangeFuncBound
import Derived.RangeFuncBox
import Derived.RangeFuncCalls
import Derived.RangeFuncFrom
import Derived.RangeFuncLeaves
import Derived.RangeFuncNested
import Derived.RegionTactic
import Derived.Shelf.RegionOpen
import Derived.TacticsInMore
import Derived.WalkArith
set_option maxHeartbeats 16000000
set_option maxRecDepth 100000
set_option linter.unusedVariables false
set_option linter.unusedSimpArgs false
namespace Go.Proofs.YtmcdcogedcbndaaGreat
set_option linter.unusedVariables false
theorem zB {p : Prop} (h : p := by first | rfl | (simp; done) | (simp [*]; done)) : p := h
theorem zD {p : Prop} (h : p := by repeat (first | exact Drawn0.refl _ | apply Drawn0.step)) : p := h
theorem zE {p q0 : Prop} (h0 : q0) (h : q0 → p := by intro zq0_; have := zq0_; omega) : p := h h0
theorem zC {p : Prop} (h : p := by (try simp only [List.map_toArray, List.map_cons, List.map_nil]); first | done | rfl) : p := h
theorem zA {p q0 : Prop} (h0 : q0) (h : q0 → p := by intro zq0_; repeat (first | (with_reducible first | exact zq0_ | apply below_alloc | apply pw_below_drewN | apply below_drew1) | exact zq0_)) : p := h h0
theorem zG {p : Prop} (h : p := by first | rfl | (simp [errW_none, errW_some] <;> rfl) | (simp [*, errW_none, errW_some] <;> rfl)) : p := h
theorem zK {p q0 q1 : Prop} (h0 : q0) (h1 : q1) (h : q0 → q1 → p := by intro zq0_ zq1_; repeat (first | (with_reducible first | exact zq0_ | apply below_alloc | apply pw_below_drewN | apply below_drew1 | refine below_set ?_ zq1_) | exact zq0_)) : p := h h0 h1
theorem zF {p q0 : Prop} (h0 : q0) (h : q0 → p := by intro zq0_; (with_reducible repeat (first | apply Kd.R_alloc | apply Kd.R_drewN | apply Kd.R_drew)); exact zq0_) : p := h h0
theorem zR {p q0 : Prop} (h0 : q0) (h : q0 → p := by intro zq0_; repeat (first | exact (Kd.R_reads' zq0_).2.2 | (with_reducible refine Kd.C_alloc ?_ _) | (with_reducible refine Kd.C_drewN ?_ _) | (with_reducible refine Kd.C_drew ?_))) : p := h h0
theorem zI {p : Prop} (h : p := by first | omega | exact Nat.le_refl _) : p := h
theorem zS {p : Prop} (h : p := by first | exact Kd.R_nil _ _ _ _ _ | exact Kd.N_nil _ _ _ _ _ | exact Kd.V_nil _ _ _ _ _ | exact Kd.Q_nil _ _ _ _ _ | exact Kd.S_nil _ _ _ _ _) : p := h
theorem zO {p q0 : Prop} (h0 : q0) (h : q0 → p := by intro zq0_; repeat (first | exact zq0_ | (with_reducible refine Kd.C_alloc ?_ _) | (with_reducible refine Kd.C_drewN ?_ _) | (with_reducible refine Kd.C_drew ?_))) : p := h h0
theorem zM {p q0 q1 : Prop} (h0 : q0) (h1 : q1) (h : q0 → q1 → p := by intro zq0_ zq1_; repeat (first | exact (Kd.C_below zq0_ zq1_) | (with_reducible refine Kd.C_alloc ?_ _) | (with_reducible refine Kd.C_drewN ?_ _) | (with_reducible refine Kd.C_drew ?_))) : p := h h0 h1
theorem zV {p q0 : Prop} (h0 : q0) (h : q0 → p := by intro zq0_; (with_reducible repeat (first | apply Kd.R_alloc | apply Kd.R_drewN | apply Kd.R_drew)); exact Kd.R_mono zq0_ (fun _ hk => ⟨trivial, hk⟩)) : p := h h0
theorem zQ {p q0 : Prop} (h0 : q0) (h : q0 → p := by intro zq0_; (with_reducible repeat (first | apply Kd.R_alloc | apply Kd.R_drewN | apply Kd.R_drew)); exact Kd.R_mono zq0_ (fun _ hk => hk.2)) : p := h h0
theorem zX {p q0 : Prop} (h0 : q0) (h : q0 → p := by intro zq0_; (with_reducible repeat (first | apply Kd.R_alloc | apply Kd.R_drewN | apply Kd.R_drew)); exact Kd.R_mono zq0_ (fun _ hk => trivial)) : p := h h0
theorem zJ {p q0 : Prop} (h0 : q0) (h : q0 → p := by intro zq0_; have := zq0_; first | omega | exact Nat.le_refl _) : p := h h0
theorem zN {p q0 q1 : Prop} (h0 : q0) (h1 : q1) (h : q0 → q1 → p := by intro zq0_ zq1_; have := zq0_; have := zq1_; first | omega | exact Nat.le_refl _) : p := h h0 h1
theorem zT {p q0 q1 q2 : Prop} (h0 : q0) (h1 : q1) (h2 : q2) (h : q0 → q1 → q2 → p := by intro zq0_ zq1_ zq2_; have := zq0_; have := zq1_; have := zq2_; first | omega | exact Nat.le_refl _) : p := h h0 h1 h2
theorem zP {p q0 : Prop} (h0 : q0) (h : q0 → p := by intro zq0_; (with_reducible repeat (first | refine blk_drewN ?_ _ | refine blk_drew ?_ | refine blk_alloc ?_ _)); exact zq0_) : p := h h0
theorem zY {p q0 q1 q2 : Prop} (h0 : q0) (h1 : q1) (h2 : q2) (h : q0 → q1 → q2 → p := by intro zq0_ zq1_ zq2_; repeat (first | (with_reducible first | exact zq0_ | apply below_alloc | apply pw_below_drewN | apply below_drew1 | refine below_set ?_ zq1_ | refine below_set ?_ zq2_) | exact zq0_)) : p := h h0 h1 h2
theorem zH {p : Prop} (h : p := by with_reducible assumption) : p := h
theorem zL {p q0 q1 : Prop} (h0 : q0) (h1 : q1) (h : q0 → q1 → p := by intro zq0_ zq1_; have := zq0_; have := zq1_; omega) : p := h h0 h1
theorem zW {p q0 : Prop} (h0 : q0) (h : q0 → p := by intro zq0_; repeat (first | (with_reducible first | exact zq0_ | apply Kept.alloc | apply Kept.drewN | apply Kept.drew) | exact zq0_)) : p := h h0
theorem zU {p q0 q1 : Prop} (h0 : q0) (h1 : q1) (h : q0 → q1 → p := by intro zq0_ zq1_; repeat (first | (with_reducible first | exact zq0_ | apply below_alloc | apply pw_below_drewN | apply below_drew1 | refine below_set ?_ (IsS86.ge zq1_)) | exact zq0_)) : p := h h0 h1
end Go.Proofs.YtmcdcogedcbndaaGreat
namespace Go.Proofs.YtmcdcogedcbndaaGreat.S
open Go.RowKit Go.Proofs.YtmcdcogedcbndaaGreatW.PrintWords Go.Proofs.YtmcdcogedcbndaaGreatW.PrintLast
theorem az {p : Prop} (h : p) : Aside0 p := ⟨h⟩
set_option linter.unusedVariables false
set_option linter.unusedSimpArgs false
def errW : Option Int → Value
 | none => .nilIface
 | some c => .iface 0 (.int .i64 c)
theorem errW_none : errW none = .nilIface := rfl
theorem errW_some (c : Int) : errW (some c) = .iface 0 (.int .i64 c) := rfl
theorem info3 : (Tryz.prog.info? 3).map (fun i => (i.zero, i.size, i.bytes)) = some (some (.int .i64 0), 1, 8) := by kernel_rfl
theorem info4 : (Tryz.prog.info? 4).map (fun i => (i.zero, i.size, i.bytes)) = some (some (.bool false), 1, 1) := by kernel_rfl
theorem info5 : (Tryz.prog.info? 5).map (fun i => (i.zero, i.size, i.bytes)) = some (some (.int .u8 0), 1, 1) := by kernel_rfl
theorem info50 : (Tryz.prog.info? 50).map (fun i => (i.zero, i.size, i.bytes)) = some (some (.agg #[(.int .i64 0), (.int .i64 0), (.int .i64 0), (.int .i64 0)]), 4, 32) := by kernel_rfl
structure S52 where
 f0 : Int
 f1 : Int
 f2 : Int
 f3 : Int
structure S50 where
 f0 : Int
 f1 : Int
 f2 : Int
 f3 : Int
def z50 : S50 := ⟨(0 : Int), (0 : Int), (0 : Int), (0 : Int)⟩
def k50 : Kd S50 := Kd.iso (Kd.pair (Kd.int .i64) (Kd.pair (Kd.int .i64) (Kd.pair (Kd.int .i64) (Kd.int .i64)))) (fun x : S50 => (x.f0, x.f1, x.f2, x.f3))
theorem k50_open {w : World} {x : S50} {cs : List Value} (h : k50.K w x cs) : cs = [.int .i64 x.f0, .int .i64 x.f1, .int .i64 x.f2, .int .i64 x.f3] := by
 obtain ⟨_, _, rfl, rfl, ⟨_, _, rfl, rfl, ⟨_, _, rfl, rfl, rfl⟩⟩⟩ := h
 exact rfl
theorem k50_openM {w : World} {base : Nat} {ok : Nat → Prop} {x : S50} {cs : List Value} (h : k50.M w base ok x cs) : cs = [.int .i64 x.f0, .int .i64 x.f1, .int .i64 x.f2, .int .i64 x.f3] := by
 obtain ⟨_, _, rfl, rfl, ⟨_, _, rfl, rfl, ⟨_, _, rfl, rfl, rfl⟩⟩⟩ := h
 exact rfl
theorem k50_mkM (w : World) (base : Nat) (ok : Nat → Prop) (x : S50)  : k50.M w base ok x [.int .i64 x.f0, .int .i64 x.f1, .int .i64 x.f2, .int .i64 x.f3] := ⟨[.int .i64 x.f0], [.int .i64 x.f1, .int .i64 x.f2, .int .i64 x.f3], rfl, rfl, ⟨[.int .i64 x.f1], [.int .i64 x.f2, .int .i64 x.f3], rfl, rfl, ⟨[.int .i64 x.f2], [.int .i64 x.f3], rfl, rfl, rfl⟩⟩⟩
def rd_T50 (xs : List S50) (i : Int) : S50 := xs.getD i.toNat z50
theorem at_T50 {w : World} {A : Option Addr} {n : Nat} {xs : List S50} (h : Kd.C k50 w A n xs) (i : Int) (h0 : 0 ≤ i) (h1 : i < n) : ∃ ad , A = some ad ∧ w.cell? (ad.add (i.toNat * 4)) = some (.int .i64 (rd_T50 xs i).f0) ∧ w.cell? ⟨(ad.add (i.toNat * 4)).block, (ad.add (i.toNat * 4)).off + 1, none⟩ = some (.int .i64 (rd_T50 xs i).f1) ∧ w.cell? ⟨(ad.add (i.toNat * 4)).block, (ad.add (i.toNat * 4)).off + 2, none⟩ = some (.int .i64 (rd_T50 xs i).f2) ∧ w.cell? ⟨(ad.add (i.toNat * 4)).block, (ad.add (i.toNat * 4)).off + 3, none⟩ = some (.int .i64 (rd_T50 xs i).f3) := by
 obtain ⟨ad, c, e, _, hK, hc0⟩ := Kd.C_get h z50 i h0 h1
 have hc : ∀ j u, c[j]? = some u → w.cell? (ad.add (i.toNat * 4 + j)) = some u := hc0
 obtain rfl := k50_open hK
 exact ⟨ad, e, hc 0 _ rfl, by rw [← add_field _ _ 1 (by omega)]; exact hc 1 _ rfl, by rw [← add_field _ _ 2 (by omega)]; exact hc 2 _ rfl, by rw [← add_field _ _ 3 (by omega)]; exact hc 3 _ rfl⟩
structure S105 where
 f0 : Int
 f1 : Int
structure S120 where
 f0 : Int
 f1 : Int
 f2 : Int
def z120 : S120 := ⟨(0 : Int), (0 : Int), (0 : Int)⟩
def k120 : Kd S120 := Kd.iso (Kd.pair (Kd.int .i64) (Kd.pair (Kd.int .i64) (Kd.int .i64))) (fun x : S120 => (x.f0, x.f1, x.f2))
theorem k120_open {w : World} {x : S120} {cs : List Value} (h : k120.K w x cs) : cs = [.int .i64 x.f0, .int .i64 x.f1, .int .i64 x.f2] := by
 obtain ⟨_, _, rfl, rfl, ⟨_, _, rfl, rfl, rfl⟩⟩ := h
 exact rfl
theorem k120_mkM (w : World) (base : Nat) (ok : Nat → Prop) (x : S120)  : k120.M w base ok x [.int .i64 x.f0, .int .i64 x.f1, .int .i64 x.f2] := ⟨[.int .i64 x.f0], [.int .i64 x.f1, .int .i64 x.f2], rfl, rfl, ⟨[.int .i64 x.f1], [.int .i64 x.f2], rfl, rfl, rfl⟩⟩
def rd_T120 (xs : List S120) (i : Int) : S120 := xs.getD i.toNat z120
theorem at_T120 {w : World} {A : Option Addr} {n : Nat} {xs : List S120} (h : Kd.C k120 w A n xs) (i : Int) (h0 : 0 ≤ i) (h1 : i < n) : ∃ ad , A = some ad ∧ w.cell? (ad.add (i.toNat * 3)) = some (.int .i64 (rd_T120 xs i).f0) ∧ w.cell? ⟨(ad.add (i.toNat * 3)).block, (ad.add (i.toNat * 3)).off + 1, none⟩ = some (.int .i64 (rd_T120 xs i).f1) ∧ w.cell? ⟨(ad.add (i.toNat * 3)).block, (ad.add (i.toNat * 3)).off + 2, none⟩ = some (.int .i64 (rd_T120 xs i).f2) := by
 obtain ⟨ad, c, e, _, hK, hc0⟩ := Kd.C_get h z120 i h0 h1
 have hc : ∀ j u, c[j]? = some u → w.cell? (ad.add (i.toNat * 3 + j)) = some u := hc0
 obtain rfl := k120_open hK
 exact ⟨ad, e, hc 0 _ rfl, by rw [← add_field _ _ 1 (by omega)]; exact hc 1 _ rfl, by rw [← add_field _ _ 2 (by omega)]; exact hc 2 _ rfl⟩
def impl_isLetter.f (a0 : Int) : Option (Bool) := if a0 ≥ 0 then (if a0 ≤ 1114111 then (if a0 < 55296 then (some true) else (some (decide (a0 > 57343)))) else (some false)) else (some false)
theorem impl_isLetter.calls (a0 : Int) (r : Bool) (w : World) (h : impl_isLetter.f a0 = some r) :
  Calls Tryz.prog 77 #[.int .i64 a0] w fun e w' => e = .returned (.bool r) ∧ Drawn0 w w' := by
 have H : (if a0 ≥ 0 then (if a0 ≤ 1114111 then (if a0 < 55296 then (some true) else (some (decide (a0 > 57343)))) else (some false)) else (some false)) = some r := h
 clear h
 by_cases c2 : a0 ≥ 0
 ·
  rw [if_pos c2] at H
  have c2b0 : decide (0 ≤ a0) = true := decide_eq_true c2
  clear c2
  by_cases c3 : a0 ≤ 1114111
  ·
   rw [if_pos c3] at H
   have c3b0 : decide (a0 ≤ 1114111) = true := decide_eq_true c3
   clear c3
   by_cases c4 : a0 < 55296
   ·
    rw [if_pos c4] at H
    have c4b0 : decide (a0 < 55296) = true := decide_eq_true c4
    clear c4
    obtain rfl := Option.some.inj H
    go_enter Tryz.func77, Tryz.ntmps77
    go_wp2
    go_ret
    exact ⟨zB, zD⟩
   ·
    rw [if_neg c4] at H
    have c4b0 : decide (a0 < 55296) = false := decide_eq_false c4
    clear c4
    obtain rfl := Option.some.inj H
    go_enter Tryz.func77, Tryz.ntmps77
    go_wp2
    go_ret
    exact ⟨zB, zD⟩
  ·
   rw [if_neg c3] at H
   have c3b0 : decide (a0 ≤ 1114111) = false := decide_eq_false c3
   clear c3
   obtain rfl := Option.some.inj H
   go_enter Tryz.func77, Tryz.ntmps77
   go_wp2
   go_ret
   exact ⟨zB, zD⟩
 ·
  rw [if_neg c2] at H
  have c2b0 : decide (0 ≤ a0) = false := decide_eq_false c2
  clear c2
  obtain rfl := Option.some.inj H
  go_enter Tryz.func77, Tryz.ntmps77
  go_wp2
  go_ret
  exact ⟨zB, zD⟩
def idxI (p : Int → Bool) (l : List Int) : Int := if l.any p then (l.findIdx p : Int) else -1
theorem idxI_hit {p : Int → Bool} {l : List Int} {k : Nat} (hk : k < l.length) (hp : p (l.getD k 0) = true) (hb : ∀ j, j < k → p (l.getD j 0) = false) : idxI p l = k := by
 have hm : l.getD k 0 = l[k] := by simp [List.getD_eq_getElem?_getD, hk]
 have ha : l.any p = true := List.any_eq_true.2 ⟨l[k], List.getElem_mem hk, by rw [← hm]; exact hp⟩
 have hf : l.findIdx p = k := by
  rw [List.findIdx_eq hk]
  refine ⟨by rw [← hm]; exact hp, fun j hj => ?_⟩
  have := hb j hj
  simpa [List.getD_eq_getElem?_getD, show j < l.length by omega] using this
 rw [idxI, if_pos ha, hf]
theorem idxI_miss {p : Int → Bool} {l : List Int} (hb : ∀ j, j < l.length → p (l.getD j 0) = false) : idxI p l = -1 := by
 have ha : ¬ l.any p = true := by
  rw [List.any_eq_true]
  rintro ⟨x, hx, hp⟩
  obtain ⟨j, hj, rfl⟩ := List.getElem_of_mem hx
  have := hb j hj
  simp [List.getD_eq_getElem?_getD, hj] at this
  rw [this] at hp
  cases hp
 rw [idxI, if_neg ha]
theorem idxI_nonneg (p : Int → Bool) (l : List Int) : decide (0 ≤ idxI p l) = l.any p := by
 unfold idxI
 cases l.any p <;> simp <;> omega
theorem idxI_calls (p : Int → Bool) (g : Nat) (lb : Array Value) (eg : ∀ args w, (callFunc g args).run Tryz.prog w = .ok (.enter g args) w) (A0 : Option Addr) (c0 : Nat) (l0 : List Int) (w : World) (hr0 : Kd.C (Kd.int .i64) w A0 l0.length l0)
  (hn : l0.length ≤ 9223372036854775806) (hp : ∀ W, Below w.heap.size w W → ∀ j, j < l0.length → Calls Tryz.prog g (#[.int .i64 (l0.getD j 0)] ++ lb) W fun e w' => e = .returned (.bool (p (l0.getD j 0))) ∧ Below w.heap.size w w') :
  Calls Tryz.prog 88 #[.slice A0 l0.length c0, .func (.func g) #[] lb] w fun e w' => e = .returned (.int .i64 (idxI p l0)) ∧ Below w.heap.size w w' := by
 have HR0 := az hr0
 have HP := az hp
 clear hr0 hp
 go_enter Tryz.func88, Tryz.ntmps88
 go_wp2
 go_loopg [5, 8] l0.length (fun gg _ s8 wr => ∃ kk : Nat, kk ≤ l0.length ∧ l0.length - kk ≤ gg ∧ s8 = .int .i64 kk ∧ Aside0 (Below w.heap.size w wr) ∧ Aside0 (∀ j, j < kk → p (l0.getD j 0) = false))
 case atStart => exact ⟨0, Nat.zero_le _, by omega, rfl, ⟨Below.refl _ w⟩, ⟨fun j hj => absurd hj (Nat.not_lt_zero _)⟩⟩
 case round =>
  obtain ⟨kk, hkk, hg, rfl, HB, HA⟩ := hrel
  by_cases hlt : kk < l0.length
  ·
   have hltz : (kk : Int) < (l0.length : Int) := by omega
   obtain ⟨ad, rfl, hx⟩ := Kd.at_int HR0.out (kk : Int) (by omega) hltz
   replace hx := (HB.out.cell (World.block_lt_of_cell? w _ hx)).trans hx
   have hcall := HP.out wr HB.out kk hlt
   simp only [rd, Int.toNat_natCast] at hx
   generalize hy : l0.getD kk 0 = y at hx hcall
   have HY := az hy
   clear hy
   cases hq : p y with
   | true =>
    have HQ := az hq
    rw [hq] at hcall
    clear hq
    go_wp2_with (go_at_fn g; refine hcall.mono ?_; rintro e w' ⟨rfl, hb'⟩)
    go_ret
    refine ⟨?_, hb'⟩
    rw [idxI_hit hlt (by rw [HY.out]; exact HQ.out) HA.out]
    rfl
   | false =>
    have HQ := az hq
    rw [hq] at hcall
    clear hq
    go_wp2_with (go_at_fn g; refine hcall.mono ?_; rintro e w' ⟨rfl, hb'⟩)
    go_roundg (l0.length - (kk + 1))
    case measure => omega
    case rel =>
     refine ⟨kk + 1, by omega, by omega, by go_num, ⟨hb'⟩, ⟨fun j hj => ?_⟩⟩
     by_cases e : j = kk
     ·
      subst e
      rw [HY.out]; exact HQ.out
     · exact HA.out j (by omega)
  ·
   have hltz : ¬ (kk : Int) < (l0.length : Int) := by omega
   have hk : kk = l0.length := by omega
   subst hk
   go_wp2
   go_ret
   refine ⟨?_, HB.out⟩
   rw [idxI_miss HA.out]
   rfl
def isLetV (r : Int) : Bool := decide (0 ≤ r) && decide (r ≤ 1114111) && (decide (r < 55296) || decide (57343 < r))
theorem isLet_f (r : Int) : impl_isLetter.f r = some (isLetV r) := by
 unfold impl_isLetter.f isLetV
 by_cases h0 : 0 ≤ r
 ·
  by_cases h1 : r ≤ 1114111
  ·
   by_cases h2 : r < 55296
   · simp [h0, h1, h2]
   · simp [h0, h1, h2]
  · simp [h0, h1]
 · simp [h0]
theorem hasI_calls (p : Int → Bool) (g : Nat) (lb : Array Value) (eg : ∀ args w, (callFunc g args).run Tryz.prog w = .ok (.enter g args) w) (A0 : Option Addr) (c0 : Nat) (l0 : List Int) (w : World) (hr0 : Kd.C (Kd.int .i64) w A0 l0.length l0)
  (hn : l0.length ≤ 9223372036854775806) (hp : ∀ W, Below w.heap.size w W → ∀ j, j < l0.length → Calls Tryz.prog g (#[.int .i64 (l0.getD j 0)] ++ lb) W fun e w' => e = .returned (.bool (p (l0.getD j 0))) ∧ Below w.heap.size w w') :
  Calls Tryz.prog 56 #[.slice A0 l0.length c0, .func (.func g) #[] lb] w fun e w' => e = .returned (.bool (l0.any p)) ∧ Below w.heap.size w w' := by
 rw [← idxI_nonneg]
 go_enter Tryz.func56, Tryz.ntmps56
 go_wp2_with (go_at_call 88; refine (idxI_calls p g lb eg A0 c0 l0 _ hr0 hn hp).mono ?_; rintro e w' ⟨rfl, hb'⟩)
 go_ret
 exact ⟨rfl, hb'⟩
def okV (l : List Int) : Bool := decide (l.length ≤ 80) && l.all isLetV
def impl_lettersOk.f (l0 : List Int) : Option Bool := some (okV l0)
theorem lettersOk_1_calls (x : Int) (W : World) : Calls Tryz.prog 76 #[.int .i64 x] W fun e w' => e = .returned (.bool (!isLetV x)) ∧ Drawn0 W w' := by
 go_enter Tryz.func76, Tryz.ntmps76
 go_wp2_with (go_at_call 77; refine (impl_isLetter.calls x (isLetV x) _ (isLet_f x)).mono ?_; rintro e w' ⟨rfl, ⟨nd, rfl⟩⟩)
 go_ret
 exact ⟨rfl, Drawn0.step (Drawn0.refl _) _⟩
theorem impl_lettersOk.calls (A0 : Option Addr) (c0 : Nat) (l0 : List Int) (r : Bool) (w : World) (hr0 : Kd.C (Kd.int .i64) w A0 l0.length l0) (hc0 : l0.length ≤ c0) (h : impl_lettersOk.f l0 = some r) :
  Calls Tryz.prog 48 #[.slice A0 l0.length c0] w fun e w' => e = .returned (.bool r) ∧ Below w.heap.size w w' := by
 obtain rfl := Option.some.inj h
 clear h
 by_cases hl : l0.length ≤ 80
 ·
  have hd : decide ((l0.length : Int) ≤ 80) = true := decide_eq_true (by omega)
  have e : okV l0 = !(l0.any fun x => !isLetV x) := by simp [okV, hl, List.all_eq_not_any_not]
  have HE := az e
  have HL := az hl
  clear e hl
  go_enter Tryz.func48, Tryz.ntmps48
  go_wp2_with (go_at_call 56; refine (hasI_calls (fun x => !isLetV x) 76 #[] (fun _ _ => by first | rfl | (go_simp; done)) A0 c0 l0 _ hr0 (zE HL.out) (fun W hb j hj => ((lettersOk_1_calls _ W).mono fun _ _ ⟨he, hd⟩ => ⟨he, hb.trans (hd.below.mono hb.size)⟩))).mono ?_; rintro e w' ⟨rfl, hb'⟩)
  go_ret
  exact ⟨by rw [HE.out]; rfl, hb'⟩
 ·
  have hd : decide ((l0.length : Int) ≤ 80) = false := decide_eq_false (by omega)
  have e : okV l0 = false := by simp [okV, hl]
  have HE := az e
  clear e hl
  go_enter Tryz.func48, Tryz.ntmps48
  go_wp2
  go_ret
  exact ⟨by rw [HE.out]; rfl, Below.refl _ _⟩
theorem appI {P : Program} {rest : List Oper} {opsA : Array Oper} {o : Oper} {a : Act} {Q : Exit → Act → World → Prop} {w0 W : World} {t : TypeId} {base : Nat} (ht : P.underlying t = some (.slice 3)) (hinfo : (P.info? 3).map (fun i => (i.zero, i.size, i.bytes)) = some (some (.int .i64 0), 1, 8)) (hgd : o.guard = none) (s x : Operand)
  (ho : o.op = .call { callee := .builtin .append, args := #[s, x], argTypes := #[t, t] }) (v : Value) (xs : List Int) (p : Int) (hs : a.eval s = v) (hx : a.eval x = .slice (some ⟨W.heap.size, 0, none⟩) 1 1)
  (HO : Kd.R (Kd.int .i64) 3 W base (fun _ => True) v xs) (HB : Below base w0 W) (hbase : base ≤ W.heap.size) (hl : xs.length < 1000000)
  (h : ∀ v1 w1, Kd.R (Kd.int .i64) 3 w1 base (fun _ => True) v1 (xs ++ [p]) → Below base w0 w1 → W.grownBy w1 v.ownBlock → (v1.ownBlock = v.ownBlock ∨ ∃ b, v1.ownBlock = some b ∧ W.heap.size ≤ b) → wpList P opsA Q rest (a.put o.dst v1) w1) :
  wpList P opsA Q (o :: rest) a (W.alloc (.cells #[.int .i64 p] 3)) :=
 Kd.R_append (Kd.int .i64) base hgd s x t 3 (.int .i64 0) 8 ho ht hinfo rfl (by decide) (by omega) v xs p [.int .i64 p] (fun _ => True) (fun _ => False) hs hx rfl (fun _ hk => hk.elim) (fun _ _ => trivial) HO HB hbase (by omega) h
def cmp_isNaN_int.f (a0 : Int) : Option (Bool) := some (a0 != a0)
theorem cmp_isNaN_int.calls (a0 : Int) (r : Bool) (w : World) (h : cmp_isNaN_int.f a0 = some r) :
  Calls Tryz.prog 142 #[.int .i64 a0] w fun e w' => e = .returned (.bool r) ∧ Drawn0 w w' := by
 have H : (some (a0 != a0)) = some r := h
 clear h
 obtain rfl := Option.some.inj H
 go_enter Tryz.func142, Tryz.ntmps142
 go_wp2
 go_ret
 exact ⟨zB, zD⟩
def cmp_Compare_int.f (a0 : Int) (a1 : Int) : Option (Int) := (cmp_isNaN_int.f a0).bind fun t268 => ((cmp_isNaN_int.f a1).bind fun t269 => (if t268 = true then (if t269 = true then (some 0) else (some (-1))) else (if t269 = true then (some 1) else (if a0 < a1 then (some (-1)) else (if a0 > a1 then (some 1) else (some 0))))))
theorem cmp_Compare_int.calls (a0 : Int) (a1 : Int) (r : Int) (w : World) (h : cmp_Compare_int.f a0 a1 = some r) :
  Calls Tryz.prog 135 #[.int .i64 a0, .int .i64 a1] w fun e w' => e = .returned (.int .i64 r) ∧ Drawn0 w w' := by
 have H : ((cmp_isNaN_int.f a0).bind fun t268 => ((cmp_isNaN_int.f a1).bind fun t269 => (if t268 = true then (if t269 = true then (some 0) else (some (-1))) else (if t269 = true then (some 1) else (if a0 < a1 then (some (-1)) else (if a0 > a1 then (some 1) else (some 0))))))) = some r := h; clear h; replace H := Option.bind_eq_some_iff.mp H; obtain ⟨t268, A30, H⟩ := H; replace H : ((cmp_isNaN_int.f a1).bind fun t269 => (if t268 = true then (if t269 = true then (some 0) else (some (-1))) else (if t269 = true then (some 1) else (if a0 < a1 then (some (-1)) else (if a0 > a1 then (some 1) else (some 0)))))) = some r := H; have A3 := az A30; clear A30; replace H := Option.bind_eq_some_iff.mp H; obtain ⟨t269, A40, H⟩ := H; replace H : (if t268 = true then (if t269 = true then (some 0) else (some (-1))) else (if t269 = true then (some 1) else (if a0 < a1 then (some (-1)) else (if a0 > a1 then (some 1) else (some 0))))) = some r := H; have A4 := az A40; clear A40; by_cases c5 : t268 = true
 ·
  subst c5; have H1 : (if t269 = true then (some 0) else (some (-1))) = some r := by rw [if_pos rfl] at H; exact H
  clear H; have H := H1; clear H1; by_cases c6 : t269 = true
  ·
   subst c6; have H1 : (some 0) = some r := by rw [if_pos rfl] at H; exact H
   clear H; have H := H1; clear H1; obtain rfl := Option.some.inj H; go_enter Tryz.func135, Tryz.ntmps135; go_wp2_with (first | ((with_reducible refine gate_callee (f := 142) rfl ?_); refine goesL_ (some 8) rfl rfl Tryz.func142 (by kernel_rfl) rfl #[.int .i64 a0] rfl zC ?_; (with_reducible refine (cmp_isNaN_int.calls a0 true _ A3.out).mono ?_); rintro e w' ⟨rfl, ⟨nd, rfl⟩⟩; refine ⟨_, rfl, ?_⟩) | ((with_reducible refine gate_callee (f := 142) rfl ?_); refine goesL_ (some 10) rfl rfl Tryz.func142 (by kernel_rfl) rfl #[.int .i64 a1] rfl zC ?_; (with_reducible refine (cmp_isNaN_int.calls a1 true _ A4.out).mono ?_); rintro e w' ⟨rfl, ⟨nd, rfl⟩⟩; refine ⟨_, rfl, ?_⟩)); go_ret; exact ⟨zB, zD⟩
  ·
   replace c6 := Bool.eq_false_iff.mpr c6; subst c6; have H1 : (some (-1)) = some r := by rw [if_neg (show ¬ (false = true) by decide)] at H; exact H
   clear H; have H := H1; clear H1; obtain rfl := Option.some.inj H; go_enter Tryz.func135, Tryz.ntmps135; go_wp2_with (first | ((with_reducible refine gate_callee (f := 142) rfl ?_); refine goesL_ (some 8) rfl rfl Tryz.func142 (by kernel_rfl) rfl #[.int .i64 a0] rfl zC ?_; (with_reducible refine (cmp_isNaN_int.calls a0 true _ A3.out).mono ?_); rintro e w' ⟨rfl, ⟨nd, rfl⟩⟩; refine ⟨_, rfl, ?_⟩) | ((with_reducible refine gate_callee (f := 142) rfl ?_); refine goesL_ (some 10) rfl rfl Tryz.func142 (by kernel_rfl) rfl #[.int .i64 a1] rfl zC ?_; (with_reducible refine (cmp_isNaN_int.calls a1 false _ A4.out).mono ?_); rintro e w' ⟨rfl, ⟨nd, rfl⟩⟩; refine ⟨_, rfl, ?_⟩)); go_ret; exact ⟨zB, zD⟩
 ·
  replace c5 := Bool.eq_false_iff.mpr c5; subst c5; have H1 : (if t269 = true then (some 1) else (if a0 < a1 then (some (-1)) else (if a0 > a1 then (some 1) else (some 0)))) = some r := by rw [if_neg (show ¬ (false = true) by decide)] at H; exact H
  clear H; have H := H1; clear H1; by_cases c7 : t269 = true
  ·
   subst c7; have H1 : (some 1) = some r := by rw [if_pos rfl] at H; exact H
   clear H; have H := H1; clear H1; obtain rfl := Option.some.inj H; go_enter Tryz.func135, Tryz.ntmps135; go_wp2_with (first | ((with_reducible refine gate_callee (f := 142) rfl ?_); refine goesL_ (some 8) rfl rfl Tryz.func142 (by kernel_rfl) rfl #[.int .i64 a0] rfl zC ?_; (with_reducible refine (cmp_isNaN_int.calls a0 false _ A3.out).mono ?_); rintro e w' ⟨rfl, ⟨nd, rfl⟩⟩; refine ⟨_, rfl, ?_⟩) | ((with_reducible refine gate_callee (f := 142) rfl ?_); refine goesL_ (some 10) rfl rfl Tryz.func142 (by kernel_rfl) rfl #[.int .i64 a1] rfl zC ?_; (with_reducible refine (cmp_isNaN_int.calls a1 true _ A4.out).mono ?_); rintro e w' ⟨rfl, ⟨nd, rfl⟩⟩; refine ⟨_, rfl, ?_⟩)); go_ret; exact ⟨zB, zD⟩
  ·
   replace c7 := Bool.eq_false_iff.mpr c7; subst c7; have H1 : (if a0 < a1 then (some (-1)) else (if a0 > a1 then (some 1) else (some 0))) = some r := by rw [if_neg (show ¬ (false = true) by decide)] at H; exact H
   clear H; have H := H1; clear H1; by_cases c8 : a0 < a1
   ·
    rw [if_pos c8] at H; have c8b0 : decide (a0 < a1) = true := decide_eq_true c8; clear c8; obtain rfl := Option.some.inj H; go_enter Tryz.func135, Tryz.ntmps135; go_wp2_with (first | ((with_reducible refine gate_callee (f := 142) rfl ?_); refine goesL_ (some 8) rfl rfl Tryz.func142 (by kernel_rfl) rfl #[.int .i64 a0] rfl zC ?_; (with_reducible refine (cmp_isNaN_int.calls a0 false _ A3.out).mono ?_); rintro e w' ⟨rfl, ⟨nd, rfl⟩⟩; refine ⟨_, rfl, ?_⟩) | ((with_reducible refine gate_callee (f := 142) rfl ?_); refine goesL_ (some 10) rfl rfl Tryz.func142 (by kernel_rfl) rfl #[.int .i64 a1] rfl zC ?_; (with_reducible refine (cmp_isNaN_int.calls a1 false _ A4.out).mono ?_); rintro e w' ⟨rfl, ⟨nd, rfl⟩⟩; refine ⟨_, rfl, ?_⟩)); go_ret; exact ⟨zB, zD⟩
   ·
    rw [if_neg c8] at H; have c8b0 : decide (a0 < a1) = false := decide_eq_false c8; clear c8; by_cases c9 : a0 > a1
    ·
     rw [if_pos c9] at H; have c9b0 : decide (a1 < a0) = true := decide_eq_true c9; clear c9; obtain rfl := Option.some.inj H; go_enter Tryz.func135, Tryz.ntmps135; go_wp2_with (first | ((with_reducible refine gate_callee (f := 142) rfl ?_); refine goesL_ (some 8) rfl rfl Tryz.func142 (by kernel_rfl) rfl #[.int .i64 a0] rfl zC ?_; (with_reducible refine (cmp_isNaN_int.calls a0 false _ A3.out).mono ?_); rintro e w' ⟨rfl, ⟨nd, rfl⟩⟩; refine ⟨_, rfl, ?_⟩) | ((with_reducible refine gate_callee (f := 142) rfl ?_); refine goesL_ (some 10) rfl rfl Tryz.func142 (by kernel_rfl) rfl #[.int .i64 a1] rfl zC ?_; (with_reducible refine (cmp_isNaN_int.calls a1 false _ A4.out).mono ?_); rintro e w' ⟨rfl, ⟨nd, rfl⟩⟩; refine ⟨_, rfl, ?_⟩)); go_ret; exact ⟨zB, zD⟩
    ·
     rw [if_neg c9] at H; have c9b0 : decide (a1 < a0) = false := decide_eq_false c9; clear c9; obtain rfl := Option.some.inj H; go_enter Tryz.func135, Tryz.ntmps135; go_wp2_with (first | ((with_reducible refine gate_callee (f := 142) rfl ?_); refine goesL_ (some 8) rfl rfl Tryz.func142 (by kernel_rfl) rfl #[.int .i64 a0] rfl zC ?_; (with_reducible refine (cmp_isNaN_int.calls a0 false _ A3.out).mono ?_); rintro e w' ⟨rfl, ⟨nd, rfl⟩⟩; refine ⟨_, rfl, ?_⟩) | ((with_reducible refine gate_callee (f := 142) rfl ?_); refine goesL_ (some 10) rfl rfl Tryz.func142 (by kernel_rfl) rfl #[.int .i64 a1] rfl zC ?_; (with_reducible refine (cmp_isNaN_int.calls a1 false _ A4.out).mono ?_); rintro e w' ⟨rfl, ⟨nd, rfl⟩⟩; refine ⟨_, rfl, ?_⟩)); go_ret; exact ⟨zB, zD⟩
def impl_find_1.f (a0_0 : Int) (a0_1 : Int) (a0_2 : Int) (a1 : Int) : Option (Int) := if a1 ≥ a0_0 then (if a1 ≤ a0_1 then (some 0) else ((cmp_Compare_int.f a0_0 a1).bind fun t271 => (some t271))) else ((cmp_Compare_int.f a0_0 a1).bind fun t272 => (some t272))
theorem impl_find_1.calls (a0_0 : Int) (a0_1 : Int) (a0_2 : Int) (a1 : Int) (r : Int) (w : World) (h : impl_find_1.f a0_0 a0_1 a0_2 a1 = some r) :
  Calls Tryz.prog 134 #[.agg #[.int .i64 a0_0, .int .i64 a0_1, .int .i64 a0_2], .int .i64 a1] w fun e w' => e = .returned (.int .i64 r) ∧ Below w.heap.size w w' := by
 have hu120 := Tryz.underlying120; have HB := az (Below.refl w.heap.size w); have H : (if a1 ≥ a0_0 then (if a1 ≤ a0_1 then (some 0) else ((cmp_Compare_int.f a0_0 a1).bind fun t271 => (some t271))) else ((cmp_Compare_int.f a0_0 a1).bind fun t272 => (some t272))) = some r := h; clear h; by_cases c3 : a1 ≥ a0_0
 ·
  rw [if_pos c3] at H; have c3b0 : decide (a0_0 ≤ a1) = true := decide_eq_true c3; clear c3; by_cases c4 : a1 ≤ a0_1
  ·
   rw [if_pos c4] at H; have c4b0 : decide (a1 ≤ a0_1) = true := decide_eq_true c4; clear c4; obtain rfl := Option.some.inj H; go_enter Tryz.func134, Tryz.ntmps134; go_wp2_with (first | ((with_reducible refine gate_dst (N := 2) rfl ?_); refine box_event ?hg (N := 2) ?hd (cs := #[.int .i64 a0_0, .int .i64 a0_1, .int .i64 a0_2]) (t := 120) ?hr ?_; (case hd => rfl); (case hg => rfl); (case hr => first | (go_simp; done) | (go_simp; rfl)); intro gb270 hg w5 hbox hb; have n0_ := az (below_step (zA HB.out) hb); have n1_ := az (hbox); have n2_ := az ((by rw [hg]; exact (below_size (zA HB.out)) : w.heap.size ≤ gb270)); have n3_ := az ((by rw [hg]; exact (below_size (zA HB.out)) : w.heap.size ≤ gb270)); clear HB; have HB := n0_; have BK270 := n1_; have GW270 := n2_; have GE270 := n3_; clear n0_ n1_ n2_ n3_; clear hb hbox hg; have hcz6_0 : w5.cell? ⟨gb270, 0, none⟩ = some (.int .i64 a0_0) := (blk_cell BK270.out 0).trans rfl; have hcz6_1 : w5.cell? ⟨gb270, 1, none⟩ = some (.int .i64 a0_1) := (blk_cell BK270.out 1).trans rfl; have hcz6_2 : w5.cell? ⟨gb270, 2, none⟩ = some (.int .i64 a0_2) := (blk_cell BK270.out 2).trans rfl; have hfz6_0 := blk_frozen BK270.out 0; have hfz6_1 := blk_frozen BK270.out 1; have hfz6_2 := blk_frozen BK270.out 2)); go_ret; exact ⟨zG, zK HB.out GE270.out⟩
  ·
   rw [if_neg c4] at H; have c4b0 : decide (a1 ≤ a0_1) = false := decide_eq_false c4; clear c4; replace H := Option.bind_eq_some_iff.mp H; obtain ⟨t271, A70, H⟩ := H; replace H : (some t271) = some r := H; have A7 := az A70; clear A70; obtain rfl := Option.some.inj H; go_enter Tryz.func134, Tryz.ntmps134; go_wp2_with (first | ((with_reducible refine gate_dst (N := 2) rfl ?_); refine box_event ?hg (N := 2) ?hd (cs := #[.int .i64 a0_0, .int .i64 a0_1, .int .i64 a0_2]) (t := 120) ?hr ?_; (case hd => rfl); (case hg => rfl); (case hr => first | (go_simp; done) | (go_simp; rfl)); intro gb270 hg w8 hbox hb; have n0_ := az (below_step (zA HB.out) hb); have n1_ := az (hbox); have n2_ := az ((by rw [hg]; exact (below_size (zA HB.out)) : w.heap.size ≤ gb270)); have n3_ := az ((by rw [hg]; exact (below_size (zA HB.out)) : w.heap.size ≤ gb270)); clear HB; have HB := n0_; have BK270 := n1_; have GW270 := n2_; have GE270 := n3_; clear n0_ n1_ n2_ n3_; clear hb hbox hg; have hcz9_0 : w8.cell? ⟨gb270, 0, none⟩ = some (.int .i64 a0_0) := (blk_cell BK270.out 0).trans rfl; have hcz9_1 : w8.cell? ⟨gb270, 1, none⟩ = some (.int .i64 a0_1) := (blk_cell BK270.out 1).trans rfl; have hcz9_2 : w8.cell? ⟨gb270, 2, none⟩ = some (.int .i64 a0_2) := (blk_cell BK270.out 2).trans rfl; have hfz9_0 := blk_frozen BK270.out 0; have hfz9_1 := blk_frozen BK270.out 1; have hfz9_2 := blk_frozen BK270.out 2) | ((with_reducible refine gate_callee (f := 135) rfl ?_); refine goesL_ (some 18) rfl rfl Tryz.func135 (by kernel_rfl) rfl #[.int .i64 a0_0, .int .i64 a1] rfl zC ?_; (with_reducible refine (cmp_Compare_int.calls a0_0 a1 t271 _ A7.out).mono ?_); rintro e w' ⟨rfl, ⟨nd, rfl⟩⟩; refine ⟨_, rfl, ?_⟩)); go_ret; exact ⟨zG, zK HB.out GE270.out⟩
 ·
  rw [if_neg c3] at H; have c3b0 : decide (a0_0 ≤ a1) = false := decide_eq_false c3; clear c3; replace H := Option.bind_eq_some_iff.mp H; obtain ⟨t272, A100, H⟩ := H; replace H : (some t272) = some r := H; have A10 := az A100; clear A100; obtain rfl := Option.some.inj H; go_enter Tryz.func134, Tryz.ntmps134; go_wp2_with (first | ((with_reducible refine gate_dst (N := 2) rfl ?_); refine box_event ?hg (N := 2) ?hd (cs := #[.int .i64 a0_0, .int .i64 a0_1, .int .i64 a0_2]) (t := 120) ?hr ?_; (case hd => rfl); (case hg => rfl); (case hr => first | (go_simp; done) | (go_simp; rfl)); intro gb270 hg w11 hbox hb; have n0_ := az (below_step (zA HB.out) hb); have n1_ := az (hbox); have n2_ := az ((by rw [hg]; exact (below_size (zA HB.out)) : w.heap.size ≤ gb270)); have n3_ := az ((by rw [hg]; exact (below_size (zA HB.out)) : w.heap.size ≤ gb270)); clear HB; have HB := n0_; have BK270 := n1_; have GW270 := n2_; have GE270 := n3_; clear n0_ n1_ n2_ n3_; clear hb hbox hg; have hcz12_0 : w11.cell? ⟨gb270, 0, none⟩ = some (.int .i64 a0_0) := (blk_cell BK270.out 0).trans rfl; have hcz12_1 : w11.cell? ⟨gb270, 1, none⟩ = some (.int .i64 a0_1) := (blk_cell BK270.out 1).trans rfl; have hcz12_2 : w11.cell? ⟨gb270, 2, none⟩ = some (.int .i64 a0_2) := (blk_cell BK270.out 2).trans rfl; have hfz12_0 := blk_frozen BK270.out 0; have hfz12_1 := blk_frozen BK270.out 1; have hfz12_2 := blk_frozen BK270.out 2) | ((with_reducible refine gate_callee (f := 135) rfl ?_); refine goesL_ (some 18) rfl rfl Tryz.func135 (by kernel_rfl) rfl #[.int .i64 a0_0, .int .i64 a1] rfl zC ?_; (with_reducible refine (cmp_Compare_int.calls a0_0 a1 t272 _ A10.out).mono ?_); rintro e w' ⟨rfl, ⟨nd, rfl⟩⟩; refine ⟨_, rfl, ?_⟩)); go_ret; exact ⟨zG, zK HB.out GE270.out⟩
def cmpR (x : S120) (r : Int) : Int := if x.f0 ≤ r ∧ r ≤ x.f1 then 0 else if x.f0 < r then -1 else if r < x.f0 then 1 else 0
def bsR (l : List S120) (r : Int) : Nat → Nat → Nat → Nat
 | 0, lo, _ => lo
 | k + 1, lo, hi => if lo < hi then (if cmpR (l.getD ((lo + hi) / 2) z120) r < 0 then bsR l r k ((lo + hi) / 2 + 1) hi else bsR l r k lo ((lo + hi) / 2)) else lo
theorem bsR_end (l : List S120) (r : Int) (k lo : Nat) : bsR l r k lo lo = lo := by cases k <;> simp [bsR]
theorem bsR_lt {l : List S120} {r : Int} {k lo hi : Nat} (h : lo < hi) (hc : cmpR (l.getD ((lo + hi) / 2) z120) r < 0) : bsR l r (k + 1) lo hi = bsR l r k ((lo + hi) / 2 + 1) hi := by
 rw [bsR, if_pos h, if_pos hc]
theorem bsR_ge {l : List S120} {r : Int} {k lo hi : Nat} (h : lo < hi) (hc : ¬ cmpR (l.getD ((lo + hi) / 2) z120) r < 0) : bsR l r (k + 1) lo hi = bsR l r k lo ((lo + hi) / 2) := by
 rw [bsR, if_pos h, if_neg hc]
theorem bsR_more (l : List S120) (r : Int) : ∀ (k k' lo hi : Nat), hi - lo ≤ k → hi - lo ≤ k' → bsR l r k lo hi = bsR l r k' lo hi
 | 0, 0, _, _, _, _ => rfl
 | 0, k' + 1, lo, hi, h, _ => by rw [bsR, bsR, if_neg (by omega)]
 | k + 1, 0, lo, hi, _, h => by rw [bsR, bsR, if_neg (by omega)]
 | k + 1, k' + 1, lo, hi, h, h' => by
  rw [bsR, bsR]
  by_cases hlt : lo < hi
  · rw [if_pos hlt, if_pos hlt, bsR_more l r k k' ((lo + hi) / 2 + 1) hi (by omega) (by omega), bsR_more l r k k' lo ((lo + hi) / 2) (by omega) (by omega)]
  · rw [if_neg hlt, if_neg hlt]
theorem cmpC_f (a b : Int) : cmp_Compare_int.f a b = some (if a < b then -1 else if b < a then 1 else 0) := by
 simp only [cmp_Compare_int.f, cmp_isNaN_int.f, Option.bind_some, bne_self_eq_false, Bool.false_eq_true, if_false, gt_iff_lt]
 split
 · rfl
 · split <;> rfl
theorem cmpR_f (x : S120) (r : Int) : impl_find_1.f x.f0 x.f1 x.f2 r = some (cmpR x r) := by
 simp only [impl_find_1.f, cmpR, cmpC_f, Option.bind_some, ge_iff_le]
 by_cases h0 : x.f0 ≤ r
 ·
  by_cases h1 : r ≤ x.f1
  · simp [h0, h1]
  · simp [h0, h1]
 · simp [h0]
theorem bsR_calls (A0 : Option Addr) (c0 : Nat) (l0 : List S120) (a1 : Int) (w : World) (hr0 : Kd.C k120 w A0 l0.length l0) (hn : l0.length ≤ 1000) :
  Calls Tryz.prog 133 #[.slice A0 l0.length c0, .int .i64 a1, .func (.func 134) #[] #[]] w fun e w' =>
   e = .returned (.tuple #[.int .i64 (bsR l0 a1 l0.length 0 l0.length : Nat), .bool (decide (bsR l0 a1 l0.length 0 l0.length < l0.length) && decide (cmpR (l0.getD (bsR l0 a1 l0.length 0 l0.length) z120) a1 = 0))]) ∧ Below w.heap.size w w' := by
 have HR0 := az hr0
 clear hr0
 go_enter Tryz.func133, Tryz.ntmps133
 go_wp2
 go_loopg [9, 10] l0.length (fun kx s9 s10 wr => ∃ lo hi : Nat, s9 = .int .i64 lo ∧ s10 = .int .i64 hi ∧ lo ≤ hi ∧ hi ≤ l0.length ∧ hi - lo ≤ kx ∧ Aside0 (Below w.heap.size w wr) ∧ Aside0 (bsR l0 a1 (hi - lo) lo hi = bsR l0 a1 l0.length 0 l0.length))
 case atStart => exact ⟨0, l0.length, rfl, rfl, Nat.zero_le _, Nat.le_refl _, by omega, ⟨Below.refl _ _⟩, ⟨rfl⟩⟩
 case round =>
  obtain ⟨lo, hi, rfl, rfl, hlh, hin, hg, HB, HI⟩ := hrel
  by_cases hlt : lo < hi
  ·
   obtain ⟨ad, rfl, hx⟩ := at_T120 HR0.out (((lo + hi) / 2 : Nat) : Int) (by omega) (by omega)
   have HM := az (cmpR_f (l0.getD ((lo + hi) / 2) z120) a1)
   simp only [rd_T120, Int.toNat_natCast] at hx
   obtain ⟨x0, x1, x2⟩ := hx
   replace x0 := (HB.out.cell (World.block_lt_of_cell? w _ x0)).trans x0
   replace x1 := (HB.out.cell (World.block_lt_of_cell? w _ x1)).trans x1
   replace x2 := (HB.out.cell (World.block_lt_of_cell? w _ x2)).trans x2
   generalize hy : l0.getD ((lo + hi) / 2) z120 = y at x0 x1 x2 HM
   have HY := az hy
   clear hy
   by_cases hc : cmpR y a1 < 0
   ·
    have hcb : decide (cmpR y a1 < 0) = true := decide_eq_true hc
    have HC := az hc
    clear hc
    go_wp2_with (go_at_call 134; refine (impl_find_1.calls _ _ _ _ _ _ HM.out).mono ?_; rintro e w' ⟨rfl, hb'⟩)
    go_roundg (hi - ((lo + hi) / 2 + 1))
    case measure => omega
    case rel =>
     refine ⟨(lo + hi) / 2 + 1, hi, by rw [show ((lo : Int) + (hi : Int)) / 2 + 1 = (((lo + hi) / 2 + 1 : Nat) : Int) by omega], rfl, by omega, hin, Nat.le_refl _, ⟨below_then HB.out HB.out.size hb'⟩, ⟨?_⟩⟩
     rw [← HI.out, show hi - lo = (hi - lo - 1) + 1 by omega, bsR_lt hlt (by rw [HY.out]; exact HC.out)]
     exact bsR_more _ _ _ _ _ _ (by omega) (by omega)
   ·
    have hcb : decide (cmpR y a1 < 0) = false := decide_eq_false hc
    have HC := az hc
    clear hc
    go_wp2_with (go_at_call 134; refine (impl_find_1.calls _ _ _ _ _ _ HM.out).mono ?_; rintro e w' ⟨rfl, hb'⟩)
    go_roundg ((lo + hi) / 2 - lo)
    case measure => omega
    case rel =>
     refine ⟨lo, (lo + hi) / 2, rfl, by rw [show ((lo : Int) + (hi : Int)) / 2 = (((lo + hi) / 2 : Nat) : Int) by omega], by omega, by omega, Nat.le_refl _, ⟨below_then HB.out HB.out.size hb'⟩, ⟨?_⟩⟩
     rw [← HI.out, show hi - lo = (hi - lo - 1) + 1 by omega, bsR_ge hlt (by rw [HY.out]; have := HC.out; omega)]
     exact bsR_more _ _ _ _ _ _ (by omega) (by omega)
  ·
   obtain rfl : hi = lo := by omega
   have e : bsR l0 a1 l0.length 0 l0.length = hi := by rw [← HI.out, bsR_end]
   have E := az e
   clear e HI
   by_cases hn2 : hi < l0.length
   ·
    obtain ⟨ad, rfl, hx⟩ := at_T120 HR0.out (hi : Int) (by omega) (by omega)
    have HM := az (cmpR_f (l0.getD hi z120) a1)
    simp only [rd_T120, Int.toNat_natCast] at hx
    obtain ⟨x0, x1, x2⟩ := hx
    replace x0 := (HB.out.cell (World.block_lt_of_cell? w _ x0)).trans x0
    replace x1 := (HB.out.cell (World.block_lt_of_cell? w _ x1)).trans x1
    replace x2 := (HB.out.cell (World.block_lt_of_cell? w _ x2)).trans x2
    generalize hy : l0.getD hi z120 = y at x0 x1 x2 HM
    have HY := az hy
    clear hy
    by_cases hyx : cmpR y a1 = 0
    ·
     go_wp2_with (go_at_call 134; refine (impl_find_1.calls _ _ _ _ _ _ HM.out).mono ?_; rintro e w' ⟨rfl, hb'⟩)
     go_ret2
     exact ⟨by rw [E.out, HY.out]; simp [hn2, hyx], below_then HB.out HB.out.size hb'⟩
    ·
     go_wp2_with (go_at_call 134; refine (impl_find_1.calls _ _ _ _ _ _ HM.out).mono ?_; rintro e w' ⟨rfl, hb'⟩)
     go_ret2
     exact ⟨by rw [E.out, HY.out]; simp [hn2, hyx], below_then HB.out HB.out.size hb'⟩
   ·
    go_wp2
    go_ret2
    exact ⟨by rw [E.out]; simp [hn2], HB.out⟩
def findV (l0 : List S120) (a1 a2 : Int) : Int := if bsR l0 a1 l0.length 0 l0.length < l0.length ∧ cmpR (l0.getD (bsR l0 a1 l0.length 0 l0.length) z120) a1 = 0 then (l0.getD (bsR l0 a1 l0.length 0 l0.length) z120).f2 else a2
def impl_find.f (l0 : List S120) (a1 a2 : Int) : Option Int := if l0.length ≤ 1000 then some (findV l0 a1 a2) else none
theorem impl_find.calls (A0 : Option Addr) (c0 : Nat) (l0 : List (S120)) (a1 : Int) (a2 : Int) (r : Int) (w : World) (hr0 : Kd.C k120 w A0 l0.length l0) (hc0 : l0.length ≤ c0) (h : impl_find.f l0 a1 a2 = some r) :
  Calls Tryz.prog 116 #[.slice A0 l0.length c0, .int .i64 a1, .int .i64 a2] w fun e w' => e = .returned (.int .i64 r) ∧ Below w.heap.size w w' := by
 unfold impl_find.f at h
 by_cases hn : l0.length ≤ 1000
 ·
  rw [if_pos hn] at h
  obtain rfl := Option.some.inj h
  have HC := az (bsR_calls A0 c0 l0 a1)
  have HR := az hr0
  unfold findV
  clear h hc0
  generalize hi : bsR l0 a1 l0.length 0 l0.length = i at HC
  clear hi
  by_cases h1 : i < l0.length
  ·
   by_cases h2 : cmpR (l0.getD i z120) a1 = 0
   ·
    rw [if_pos ⟨h1, h2⟩]
    simp only [decide_eq_true h1, decide_eq_true h2, Bool.and_self] at HC
    clear h2
    obtain ⟨ad, rfl, hx⟩ := at_T120 hr0 (i : Int) (by omega) (by omega)
    simp only [rd_T120, Int.toNat_natCast] at hx
    obtain ⟨x0, x1, x2⟩ := hx
    clear hr0
    have HX := az x2
    clear x0 x1 x2
    have h1' : (i : Int) < (l0.length : Int) := by omega
    generalize l0.getD i z120 = y at HX
    go_enter Tryz.func116, Tryz.ntmps116
    go_wp2_with (go_at_call 133; refine (HC.out _ HR.out hn).mono ?_; rintro e w' ⟨rfl, hb'⟩; have hx2 := (hb'.cell (World.block_lt_of_cell? w _ HX.out)).trans HX.out)
    go_ret
    exact ⟨rfl, hb'⟩
   ·
    rw [if_neg (fun h => h2 h.2)]
    simp only [decide_eq_false h2, Bool.and_false] at HC
    go_enter Tryz.func116, Tryz.ntmps116
    go_wp2_with (go_at_call 133; refine (HC.out _ HR.out hn).mono ?_; rintro e w' ⟨rfl, hb'⟩)
    go_ret
    exact ⟨rfl, hb'⟩
  ·
   rw [if_neg (fun h => h1 h.1)]
   simp only [decide_eq_false h1, Bool.false_and] at HC
   go_enter Tryz.func116, Tryz.ntmps116
   go_wp2_with (go_at_call 133; refine (HC.out _ HR.out hn).mono ?_; rintro e w' ⟨rfl, hb'⟩)
   go_ret
   exact ⟨rfl, hb'⟩
 ·
  rw [if_neg hn] at h
  exact absurd h (by simp)
def impl_bidiReaches.f  : Option ((List (S120))) := some (([(⟨9, 9, 11⟩ : S120), (⟨32, 32, 12⟩ : S120), (⟨35, 37, 6⟩ : S120), (⟨43, 43, 5⟩ : S120), (⟨44, 44, 8⟩ : S120), (⟨45, 45, 5⟩ : S120), (⟨46, 47, 8⟩ : S120), (⟨48, 57, 4⟩ : S120), (⟨58, 58, 8⟩ : S120), (⟨65, 90, 1⟩ : S120), (⟨97, 122, 1⟩ : S120), (⟨173, 173, 10⟩ : S120), (⟨768, 879, 9⟩ : S120), (⟨1488, 1514, 2⟩ : S120), (⟨1569, 1610, 3⟩ : S120), (⟨1632, 1641, 7⟩ : S120), (⟨8203, 8203, 10⟩ : S120), (⟨8205, 8205, 10⟩ : S120), (⟨8234, 8234, 14⟩ : S120), (⟨8235, 8235, 15⟩ : S120), (⟨8236, 8236, 16⟩ : S120), (⟨8237, 8237, 17⟩ : S120), (⟨8238, 8238, 18⟩ : S120), (⟨8294, 8294, 19⟩ : S120), (⟨8295, 8295, 20⟩ : S120), (⟨8296, 8296, 21⟩ : S120), (⟨8297, 8297, 22⟩ : S120), (⟨19968, 40959, 1⟩ : S120)] : List (S120)))
theorem impl_bidiReaches.calls  (r : List (S120)) (w : World) (h : impl_bidiReaches.f  = some r) :
  Calls Tryz.prog 132 #[] w fun e w' => ∃ v0_ : Value, e = .returned (v0_) ∧ Kd.R k120 120 w' w.heap.size (fun _ => True) v0_ r ∧ Below w.heap.size w w' := by
 have hu120 := Tryz.underlying120; have HB := az (Below.refl w.heap.size w); have H : (some (([(⟨9, 9, 11⟩ : S120), (⟨32, 32, 12⟩ : S120), (⟨35, 37, 6⟩ : S120), (⟨43, 43, 5⟩ : S120), (⟨44, 44, 8⟩ : S120), (⟨45, 45, 5⟩ : S120), (⟨46, 47, 8⟩ : S120), (⟨48, 57, 4⟩ : S120), (⟨58, 58, 8⟩ : S120), (⟨65, 90, 1⟩ : S120), (⟨97, 122, 1⟩ : S120), (⟨173, 173, 10⟩ : S120), (⟨768, 879, 9⟩ : S120), (⟨1488, 1514, 2⟩ : S120), (⟨1569, 1610, 3⟩ : S120), (⟨1632, 1641, 7⟩ : S120), (⟨8203, 8203, 10⟩ : S120), (⟨8205, 8205, 10⟩ : S120), (⟨8234, 8234, 14⟩ : S120), (⟨8235, 8235, 15⟩ : S120), (⟨8236, 8236, 16⟩ : S120), (⟨8237, 8237, 17⟩ : S120), (⟨8238, 8238, 18⟩ : S120), (⟨8294, 8294, 19⟩ : S120), (⟨8295, 8295, 20⟩ : S120), (⟨8296, 8296, 21⟩ : S120), (⟨8297, 8297, 22⟩ : S120), (⟨19968, 40959, 1⟩ : S120)] : List (S120)))) = some r := h; clear h; obtain ⟨y273, hy273⟩ : ∃ y_ : List (S120), y_ = (([(⟨9, 9, 11⟩ : S120), (⟨32, 32, 12⟩ : S120), (⟨35, 37, 6⟩ : S120), (⟨43, 43, 5⟩ : S120), (⟨44, 44, 8⟩ : S120), (⟨45, 45, 5⟩ : S120), (⟨46, 47, 8⟩ : S120), (⟨48, 57, 4⟩ : S120), (⟨58, 58, 8⟩ : S120), (⟨65, 90, 1⟩ : S120), (⟨97, 122, 1⟩ : S120), (⟨173, 173, 10⟩ : S120), (⟨768, 879, 9⟩ : S120), (⟨1488, 1514, 2⟩ : S120), (⟨1569, 1610, 3⟩ : S120), (⟨1632, 1641, 7⟩ : S120), (⟨8203, 8203, 10⟩ : S120), (⟨8205, 8205, 10⟩ : S120), (⟨8234, 8234, 14⟩ : S120), (⟨8235, 8235, 15⟩ : S120), (⟨8236, 8236, 16⟩ : S120), (⟨8237, 8237, 17⟩ : S120), (⟨8238, 8238, 18⟩ : S120), (⟨8294, 8294, 19⟩ : S120), (⟨8295, 8295, 20⟩ : S120), (⟨8296, 8296, 21⟩ : S120), (⟨8297, 8297, 22⟩ : S120), (⟨19968, 40959, 1⟩ : S120)] : List (S120))) := ⟨_, rfl⟩; replace H : (some y273) = some r := by first | (rw [hy273]; with_reducible exact H) | (have H2_ := (Option.bind_some _ _).symm.trans H; rw [hy273]; with_reducible exact H2_) | (have H2_ := (Option.bind_some _ _).symm.trans H; with_reducible exact H2_) | with_reducible exact H | (rw [hy273]; exact H) | exact H
 have Ny273 := az hy273; clear hy273; obtain rfl := Option.some.inj H; go_enter Tryz.func132, Tryz.ntmps132; go_wp2_with (first | ((with_reducible refine gate_dst (N := 29) rfl ?_); refine Kd.R_lit k120 _ 120 ?hg (N := 29) ?hd (xs := ([(⟨9, 9, 11⟩ : S120), (⟨32, 32, 12⟩ : S120), (⟨35, 37, 6⟩ : S120), (⟨43, 43, 5⟩ : S120), (⟨44, 44, 8⟩ : S120), (⟨45, 45, 5⟩ : S120), (⟨46, 47, 8⟩ : S120), (⟨48, 57, 4⟩ : S120), (⟨58, 58, 8⟩ : S120), (⟨65, 90, 1⟩ : S120), (⟨97, 122, 1⟩ : S120), (⟨173, 173, 10⟩ : S120), (⟨768, 879, 9⟩ : S120), (⟨1488, 1514, 2⟩ : S120), (⟨1569, 1610, 3⟩ : S120), (⟨1632, 1641, 7⟩ : S120), (⟨8203, 8203, 10⟩ : S120), (⟨8205, 8205, 10⟩ : S120), (⟨8234, 8234, 14⟩ : S120), (⟨8235, 8235, 15⟩ : S120), (⟨8236, 8236, 16⟩ : S120), (⟨8237, 8237, 17⟩ : S120), (⟨8238, 8238, 18⟩ : S120), (⟨8294, 8294, 19⟩ : S120), (⟨8295, 8295, 20⟩ : S120), (⟨8296, 8296, 21⟩ : S120), (⟨8297, 8297, 22⟩ : S120), (⟨19968, 40959, 1⟩ : S120)] : List (S120))) (inner := [.int .i64 9, .int .i64 9, .int .i64 11, .int .i64 32, .int .i64 32, .int .i64 12, .int .i64 35, .int .i64 37, .int .i64 6, .int .i64 43, .int .i64 43, .int .i64 5, .int .i64 44, .int .i64 44, .int .i64 8, .int .i64 45, .int .i64 45, .int .i64 5, .int .i64 46, .int .i64 47, .int .i64 8, .int .i64 48, .int .i64 57, .int .i64 4, .int .i64 58, .int .i64 58, .int .i64 8, .int .i64 65, .int .i64 90, .int .i64 1, .int .i64 97, .int .i64 122, .int .i64 1, .int .i64 173, .int .i64 173, .int .i64 10, .int .i64 768, .int .i64 879, .int .i64 9, .int .i64 1488, .int .i64 1514, .int .i64 2, .int .i64 1569, .int .i64 1610, .int .i64 3, .int .i64 1632, .int .i64 1641, .int .i64 7, .int .i64 8203, .int .i64 8203, .int .i64 10, .int .i64 8205, .int .i64 8205, .int .i64 10, .int .i64 8234, .int .i64 8234, .int .i64 14, .int .i64 8235, .int .i64 8235, .int .i64 15, .int .i64 8236, .int .i64 8236, .int .i64 16, .int .i64 8237, .int .i64 8237, .int .i64 17, .int .i64 8238, .int .i64 8238, .int .i64 18, .int .i64 8294, .int .i64 8294, .int .i64 19, .int .i64 8295, .int .i64 8295, .int .i64 20, .int .i64 8296, .int .i64 8296, .int .i64 21, .int .i64 8297, .int .i64 8297, .int .i64 22, .int .i64 19968, .int .i64 40959, .int .i64 1]) (ok := fun _ => True) (okp := fun _ => True) ?hr ?hp (fun _ hk => hk) trivial (Below.refl _ _) (Nat.le_refl _) (by simp) ?_; (case hd => rfl); (case hg => rfl); (case hr => first | (go_simp; done) | (go_simp; rfl)); (case hp => exact (Reps.c3 (show Kd.M k120 _ _ _ (⟨9, 9, 11⟩ : S120) [.int .i64 9, .int .i64 9, .int .i64 11] from (k120_mkM _ _ _ (⟨9, 9, 11⟩ : S120) )) (Reps.c3 (show Kd.M k120 _ _ _ (⟨32, 32, 12⟩ : S120) [.int .i64 32, .int .i64 32, .int .i64 12] from (k120_mkM _ _ _ (⟨32, 32, 12⟩ : S120) )) (Reps.c3 (show Kd.M k120 _ _ _ (⟨35, 37, 6⟩ : S120) [.int .i64 35, .int .i64 37, .int .i64 6] from (k120_mkM _ _ _ (⟨35, 37, 6⟩ : S120) )) (Reps.c3 (show Kd.M k120 _ _ _ (⟨43, 43, 5⟩ : S120) [.int .i64 43, .int .i64 43, .int .i64 5] from (k120_mkM _ _ _ (⟨43, 43, 5⟩ : S120) )) (Reps.c3 (show Kd.M k120 _ _ _ (⟨44, 44, 8⟩ : S120) [.int .i64 44, .int .i64 44, .int .i64 8] from (k120_mkM _ _ _ (⟨44, 44, 8⟩ : S120) )) (Reps.c3 (show Kd.M k120 _ _ _ (⟨45, 45, 5⟩ : S120) [.int .i64 45, .int .i64 45, .int .i64 5] from (k120_mkM _ _ _ (⟨45, 45, 5⟩ : S120) )) (Reps.c3 (show Kd.M k120 _ _ _ (⟨46, 47, 8⟩ : S120) [.int .i64 46, .int .i64 47, .int .i64 8] from (k120_mkM _ _ _ (⟨46, 47, 8⟩ : S120) )) (Reps.c3 (show Kd.M k120 _ _ _ (⟨48, 57, 4⟩ : S120) [.int .i64 48, .int .i64 57, .int .i64 4] from (k120_mkM _ _ _ (⟨48, 57, 4⟩ : S120) )) (Reps.c3 (show Kd.M k120 _ _ _ (⟨58, 58, 8⟩ : S120) [.int .i64 58, .int .i64 58, .int .i64 8] from (k120_mkM _ _ _ (⟨58, 58, 8⟩ : S120) )) (Reps.c3 (show Kd.M k120 _ _ _ (⟨65, 90, 1⟩ : S120) [.int .i64 65, .int .i64 90, .int .i64 1] from (k120_mkM _ _ _ (⟨65, 90, 1⟩ : S120) )) (Reps.c3 (show Kd.M k120 _ _ _ (⟨97, 122, 1⟩ : S120) [.int .i64 97, .int .i64 122, .int .i64 1] from (k120_mkM _ _ _ (⟨97, 122, 1⟩ : S120) )) (Reps.c3 (show Kd.M k120 _ _ _ (⟨173, 173, 10⟩ : S120) [.int .i64 173, .int .i64 173, .int .i64 10] from (k120_mkM _ _ _ (⟨173, 173, 10⟩ : S120) )) (Reps.c3 (show Kd.M k120 _ _ _ (⟨768, 879, 9⟩ : S120) [.int .i64 768, .int .i64 879, .int .i64 9] from (k120_mkM _ _ _ (⟨768, 879, 9⟩ : S120) )) (Reps.c3 (show Kd.M k120 _ _ _ (⟨1488, 1514, 2⟩ : S120) [.int .i64 1488, .int .i64 1514, .int .i64 2] from (k120_mkM _ _ _ (⟨1488, 1514, 2⟩ : S120) )) (Reps.c3 (show Kd.M k120 _ _ _ (⟨1569, 1610, 3⟩ : S120) [.int .i64 1569, .int .i64 1610, .int .i64 3] from (k120_mkM _ _ _ (⟨1569, 1610, 3⟩ : S120) )) (Reps.c3 (show Kd.M k120 _ _ _ (⟨1632, 1641, 7⟩ : S120) [.int .i64 1632, .int .i64 1641, .int .i64 7] from (k120_mkM _ _ _ (⟨1632, 1641, 7⟩ : S120) )) (Reps.c3 (show Kd.M k120 _ _ _ (⟨8203, 8203, 10⟩ : S120) [.int .i64 8203, .int .i64 8203, .int .i64 10] from (k120_mkM _ _ _ (⟨8203, 8203, 10⟩ : S120) )) (Reps.c3 (show Kd.M k120 _ _ _ (⟨8205, 8205, 10⟩ : S120) [.int .i64 8205, .int .i64 8205, .int .i64 10] from (k120_mkM _ _ _ (⟨8205, 8205, 10⟩ : S120) )) (Reps.c3 (show Kd.M k120 _ _ _ (⟨8234, 8234, 14⟩ : S120) [.int .i64 8234, .int .i64 8234, .int .i64 14] from (k120_mkM _ _ _ (⟨8234, 8234, 14⟩ : S120) )) (Reps.c3 (show Kd.M k120 _ _ _ (⟨8235, 8235, 15⟩ : S120) [.int .i64 8235, .int .i64 8235, .int .i64 15] from (k120_mkM _ _ _ (⟨8235, 8235, 15⟩ : S120) )) (Reps.c3 (show Kd.M k120 _ _ _ (⟨8236, 8236, 16⟩ : S120) [.int .i64 8236, .int .i64 8236, .int .i64 16] from (k120_mkM _ _ _ (⟨8236, 8236, 16⟩ : S120) )) (Reps.c3 (show Kd.M k120 _ _ _ (⟨8237, 8237, 17⟩ : S120) [.int .i64 8237, .int .i64 8237, .int .i64 17] from (k120_mkM _ _ _ (⟨8237, 8237, 17⟩ : S120) )) (Reps.c3 (show Kd.M k120 _ _ _ (⟨8238, 8238, 18⟩ : S120) [.int .i64 8238, .int .i64 8238, .int .i64 18] from (k120_mkM _ _ _ (⟨8238, 8238, 18⟩ : S120) )) (Reps.c3 (show Kd.M k120 _ _ _ (⟨8294, 8294, 19⟩ : S120) [.int .i64 8294, .int .i64 8294, .int .i64 19] from (k120_mkM _ _ _ (⟨8294, 8294, 19⟩ : S120) )) (Reps.c3 (show Kd.M k120 _ _ _ (⟨8295, 8295, 20⟩ : S120) [.int .i64 8295, .int .i64 8295, .int .i64 20] from (k120_mkM _ _ _ (⟨8295, 8295, 20⟩ : S120) )) (Reps.c3 (show Kd.M k120 _ _ _ (⟨8296, 8296, 21⟩ : S120) [.int .i64 8296, .int .i64 8296, .int .i64 21] from (k120_mkM _ _ _ (⟨8296, 8296, 21⟩ : S120) )) (Reps.c3 (show Kd.M k120 _ _ _ (⟨8297, 8297, 22⟩ : S120) [.int .i64 8297, .int .i64 8297, .int .i64 22] from (k120_mkM _ _ _ (⟨8297, 8297, 22⟩ : S120) )) (Reps.c3 (show Kd.M k120 _ _ _ (⟨19968, 40959, 1⟩ : S120) [.int .i64 19968, .int .i64 40959, .int .i64 1] from (k120_mkM _ _ _ (⟨19968, 40959, 1⟩ : S120) )) (Reps.none _ _)))))))))))))))))))))))))))))); intro v274 w1 ho2 hb hg_ hnew_; clear hg_ hnew_; (first | rw [← Ny273.out] at ho2 | (simp only [Int.reduceToNat] at ho2; rw [← Ny273.out] at ho2)); have n0_ := az (Kd.R_lower ho2 (below_size (zA HB.out))); have n1_ := az (below_step (zA HB.out) hb); clear HB; have HO275 := n0_; have HB := n1_; clear n0_ n1_; clear hb ho2))
 go_ret; exact ⟨_, zG, zF HO275.out, zA HB.out⟩
def impl_RuneBidi.f (a0 : Int) : Option (Int) := (impl_bidiReaches.f).bind fun t276 => ((impl_find.f t276 a0 13).bind fun t279 => (some t279))
theorem impl_RuneBidi.calls (a0 : Int) (r : Int) (w : World) (h : impl_RuneBidi.f a0 = some r) :
  Calls Tryz.prog 115 #[.int .i64 a0] w fun e w' => e = .returned (.int .i64 r) ∧ Below w.heap.size w w' := by
 have HB := az (Below.refl w.heap.size w); have H : ((impl_bidiReaches.f).bind fun t276 => ((impl_find.f t276 a0 13).bind fun t279 => (some t279))) = some r := h; clear h; replace H := Option.bind_eq_some_iff.mp H; obtain ⟨t276, A20, H⟩ := H; replace H : ((impl_find.f t276 a0 13).bind fun t279 => (some t279)) = some r := H; have A2 := az A20; clear A20; replace H := Option.bind_eq_some_iff.mp H; obtain ⟨t279, A30, H⟩ := H; replace H : (some t279) = some r := H; have A3 := az A30; clear A30; obtain rfl := Option.some.inj H; go_enter Tryz.func115, Tryz.ntmps115; go_wp2_with (first | ((with_reducible refine gate_callee (f := 132) rfl ?_); refine goesL_ (some 3) rfl rfl Tryz.func132 (by kernel_rfl) rfl #[] rfl zC ?_; (with_reducible refine (impl_bidiReaches.calls  t276 _ A2.out).mono ?_); rintro e w4 ⟨v277, rfl, ho0, hb⟩; refine ⟨_, rfl, ?_⟩; have n0_ := az (Kd.R_lower ho0 (below_size (zA HB.out))); have n1_ := az (below_step (zA HB.out) hb); clear HB; have HO278 := n0_; have HB := n1_; clear n0_ n1_; (try clear hb); (try clear hb2); (try clear hk); (try clear hi); (try clear ho0); obtain ⟨Ao5, co5, eo5⟩ := Kd.R_slice HO278.out; subst eo5) | ((with_reducible refine gate_callee (f := 116) rfl ?_); refine goesL_ (some 5) rfl rfl Tryz.func116 (by kernel_rfl) rfl #[.slice Ao5 t276.length co5, .int .i64 a0, .int .i64 13] rfl zC ?_; (with_reducible refine (impl_find.calls _ _ t276 a0 13 t279 _ ?side1 ?side2 A3.out).mono ?_); (case side1 => exact (zR HO278.out)); (case side2 => exact (Kd.R_reads' HO278.out).2.1); rintro e w6 ⟨rfl, hb⟩; refine ⟨_, rfl, ?_⟩; have n0_ := az (Kd.R_below (zF HO278.out) hb); have n1_ := az (below_step (zA HB.out) hb); clear HO278; clear HB; have HO278 := n0_; have HB := n1_; clear n0_ n1_; (try clear hb); (try clear hb2); (try clear hk); (try clear hi))); go_ret; exact ⟨zG, zA HB.out⟩
def impl_lineReaches.f  : Option ((List (S120))) := some (([(⟨9, 9, 14⟩ : S120), (⟨10, 10, 4⟩ : S120), (⟨32, 32, 3⟩ : S120), (⟨33, 33, 10⟩ : S120), (⟨34, 34, 11⟩ : S120), (⟨40, 40, 8⟩ : S120), (⟨41, 41, 9⟩ : S120), (⟨44, 44, 13⟩ : S120), (⟨45, 45, 12⟩ : S120), (⟨46, 47, 13⟩ : S120), (⟨48, 57, 2⟩ : S120), (⟨58, 59, 13⟩ : S120), (⟨63, 63, 10⟩ : S120), (⟨91, 91, 8⟩ : S120), (⟨93, 93, 9⟩ : S120), (⟨123, 123, 8⟩ : S120), (⟨125, 125, 9⟩ : S120), (⟨160, 160, 5⟩ : S120), (⟨173, 173, 14⟩ : S120), (⟨1632, 1641, 2⟩ : S120), (⟨8203, 8203, 6⟩ : S120), (⟨8205, 8205, 7⟩ : S120), (⟨19968, 40959, 15⟩ : S120)] : List (S120)))
theorem impl_lineReaches.calls  (r : List (S120)) (w : World) (h : impl_lineReaches.f  = some r) :
  Calls Tryz.prog 117 #[] w fun e w' => ∃ v0_ : Value, e = .returned (v0_) ∧ Kd.R k120 120 w' w.heap.size (fun _ => True) v0_ r ∧ Below w.heap.size w w' := by
 have hu120 := Tryz.underlying120; have HB := az (Below.refl w.heap.size w); have H : (some (([(⟨9, 9, 14⟩ : S120), (⟨10, 10, 4⟩ : S120), (⟨32, 32, 3⟩ : S120), (⟨33, 33, 10⟩ : S120), (⟨34, 34, 11⟩ : S120), (⟨40, 40, 8⟩ : S120), (⟨41, 41, 9⟩ : S120), (⟨44, 44, 13⟩ : S120), (⟨45, 45, 12⟩ : S120), (⟨46, 47, 13⟩ : S120), (⟨48, 57, 2⟩ : S120), (⟨58, 59, 13⟩ : S120), (⟨63, 63, 10⟩ : S120), (⟨91, 91, 8⟩ : S120), (⟨93, 93, 9⟩ : S120), (⟨123, 123, 8⟩ : S120), (⟨125, 125, 9⟩ : S120), (⟨160, 160, 5⟩ : S120), (⟨173, 173, 14⟩ : S120), (⟨1632, 1641, 2⟩ : S120), (⟨8203, 8203, 6⟩ : S120), (⟨8205, 8205, 7⟩ : S120), (⟨19968, 40959, 15⟩ : S120)] : List (S120)))) = some r := h; clear h; obtain ⟨y280, hy280⟩ : ∃ y_ : List (S120), y_ = (([(⟨9, 9, 14⟩ : S120), (⟨10, 10, 4⟩ : S120), (⟨32, 32, 3⟩ : S120), (⟨33, 33, 10⟩ : S120), (⟨34, 34, 11⟩ : S120), (⟨40, 40, 8⟩ : S120), (⟨41, 41, 9⟩ : S120), (⟨44, 44, 13⟩ : S120), (⟨45, 45, 12⟩ : S120), (⟨46, 47, 13⟩ : S120), (⟨48, 57, 2⟩ : S120), (⟨58, 59, 13⟩ : S120), (⟨63, 63, 10⟩ : S120), (⟨91, 91, 8⟩ : S120), (⟨93, 93, 9⟩ : S120), (⟨123, 123, 8⟩ : S120), (⟨125, 125, 9⟩ : S120), (⟨160, 160, 5⟩ : S120), (⟨173, 173, 14⟩ : S120), (⟨1632, 1641, 2⟩ : S120), (⟨8203, 8203, 6⟩ : S120), (⟨8205, 8205, 7⟩ : S120), (⟨19968, 40959, 15⟩ : S120)] : List (S120))) := ⟨_, rfl⟩; replace H : (some y280) = some r := by first | (rw [hy280]; with_reducible exact H) | (have H2_ := (Option.bind_some _ _).symm.trans H; rw [hy280]; with_reducible exact H2_) | (have H2_ := (Option.bind_some _ _).symm.trans H; with_reducible exact H2_) | with_reducible exact H | (rw [hy280]; exact H) | exact H
 have Ny280 := az hy280; clear hy280; obtain rfl := Option.some.inj H; go_enter Tryz.func117, Tryz.ntmps117; go_wp2_with (first | ((with_reducible refine gate_dst (N := 24) rfl ?_); refine Kd.R_lit k120 _ 120 ?hg (N := 24) ?hd (xs := ([(⟨9, 9, 14⟩ : S120), (⟨10, 10, 4⟩ : S120), (⟨32, 32, 3⟩ : S120), (⟨33, 33, 10⟩ : S120), (⟨34, 34, 11⟩ : S120), (⟨40, 40, 8⟩ : S120), (⟨41, 41, 9⟩ : S120), (⟨44, 44, 13⟩ : S120), (⟨45, 45, 12⟩ : S120), (⟨46, 47, 13⟩ : S120), (⟨48, 57, 2⟩ : S120), (⟨58, 59, 13⟩ : S120), (⟨63, 63, 10⟩ : S120), (⟨91, 91, 8⟩ : S120), (⟨93, 93, 9⟩ : S120), (⟨123, 123, 8⟩ : S120), (⟨125, 125, 9⟩ : S120), (⟨160, 160, 5⟩ : S120), (⟨173, 173, 14⟩ : S120), (⟨1632, 1641, 2⟩ : S120), (⟨8203, 8203, 6⟩ : S120), (⟨8205, 8205, 7⟩ : S120), (⟨19968, 40959, 15⟩ : S120)] : List (S120))) (inner := [.int .i64 9, .int .i64 9, .int .i64 14, .int .i64 10, .int .i64 10, .int .i64 4, .int .i64 32, .int .i64 32, .int .i64 3, .int .i64 33, .int .i64 33, .int .i64 10, .int .i64 34, .int .i64 34, .int .i64 11, .int .i64 40, .int .i64 40, .int .i64 8, .int .i64 41, .int .i64 41, .int .i64 9, .int .i64 44, .int .i64 44, .int .i64 13, .int .i64 45, .int .i64 45, .int .i64 12, .int .i64 46, .int .i64 47, .int .i64 13, .int .i64 48, .int .i64 57, .int .i64 2, .int .i64 58, .int .i64 59, .int .i64 13, .int .i64 63, .int .i64 63, .int .i64 10, .int .i64 91, .int .i64 91, .int .i64 8, .int .i64 93, .int .i64 93, .int .i64 9, .int .i64 123, .int .i64 123, .int .i64 8, .int .i64 125, .int .i64 125, .int .i64 9, .int .i64 160, .int .i64 160, .int .i64 5, .int .i64 173, .int .i64 173, .int .i64 14, .int .i64 1632, .int .i64 1641, .int .i64 2, .int .i64 8203, .int .i64 8203, .int .i64 6, .int .i64 8205, .int .i64 8205, .int .i64 7, .int .i64 19968, .int .i64 40959, .int .i64 15]) (ok := fun _ => True) (okp := fun _ => True) ?hr ?hp (fun _ hk => hk) trivial (Below.refl _ _) (Nat.le_refl _) (by simp) ?_; (case hd => rfl); (case hg => rfl); (case hr => first | (go_simp; done) | (go_simp; rfl)); (case hp => exact (Reps.c3 (show Kd.M k120 _ _ _ (⟨9, 9, 14⟩ : S120) [.int .i64 9, .int .i64 9, .int .i64 14] from (k120_mkM _ _ _ (⟨9, 9, 14⟩ : S120) )) (Reps.c3 (show Kd.M k120 _ _ _ (⟨10, 10, 4⟩ : S120) [.int .i64 10, .int .i64 10, .int .i64 4] from (k120_mkM _ _ _ (⟨10, 10, 4⟩ : S120) )) (Reps.c3 (show Kd.M k120 _ _ _ (⟨32, 32, 3⟩ : S120) [.int .i64 32, .int .i64 32, .int .i64 3] from (k120_mkM _ _ _ (⟨32, 32, 3⟩ : S120) )) (Reps.c3 (show Kd.M k120 _ _ _ (⟨33, 33, 10⟩ : S120) [.int .i64 33, .int .i64 33, .int .i64 10] from (k120_mkM _ _ _ (⟨33, 33, 10⟩ : S120) )) (Reps.c3 (show Kd.M k120 _ _ _ (⟨34, 34, 11⟩ : S120) [.int .i64 34, .int .i64 34, .int .i64 11] from (k120_mkM _ _ _ (⟨34, 34, 11⟩ : S120) )) (Reps.c3 (show Kd.M k120 _ _ _ (⟨40, 40, 8⟩ : S120) [.int .i64 40, .int .i64 40, .int .i64 8] from (k120_mkM _ _ _ (⟨40, 40, 8⟩ : S120) )) (Reps.c3 (show Kd.M k120 _ _ _ (⟨41, 41, 9⟩ : S120) [.int .i64 41, .int .i64 41, .int .i64 9] from (k120_mkM _ _ _ (⟨41, 41, 9⟩ : S120) )) (Reps.c3 (show Kd.M k120 _ _ _ (⟨44, 44, 13⟩ : S120) [.int .i64 44, .int .i64 44, .int .i64 13] from (k120_mkM _ _ _ (⟨44, 44, 13⟩ : S120) )) (Reps.c3 (show Kd.M k120 _ _ _ (⟨45, 45, 12⟩ : S120) [.int .i64 45, .int .i64 45, .int .i64 12] from (k120_mkM _ _ _ (⟨45, 45, 12⟩ : S120) )) (Reps.c3 (show Kd.M k120 _ _ _ (⟨46, 47, 13⟩ : S120) [.int .i64 46, .int .i64 47, .int .i64 13] from (k120_mkM _ _ _ (⟨46, 47, 13⟩ : S120) )) (Reps.c3 (show Kd.M k120 _ _ _ (⟨48, 57, 2⟩ : S120) [.int .i64 48, .int .i64 57, .int .i64 2] from (k120_mkM _ _ _ (⟨48, 57, 2⟩ : S120) )) (Reps.c3 (show Kd.M k120 _ _ _ (⟨58, 59, 13⟩ : S120) [.int .i64 58, .int .i64 59, .int .i64 13] from (k120_mkM _ _ _ (⟨58, 59, 13⟩ : S120) )) (Reps.c3 (show Kd.M k120 _ _ _ (⟨63, 63, 10⟩ : S120) [.int .i64 63, .int .i64 63, .int .i64 10] from (k120_mkM _ _ _ (⟨63, 63, 10⟩ : S120) )) (Reps.c3 (show Kd.M k120 _ _ _ (⟨91, 91, 8⟩ : S120) [.int .i64 91, .int .i64 91, .int .i64 8] from (k120_mkM _ _ _ (⟨91, 91, 8⟩ : S120) )) (Reps.c3 (show Kd.M k120 _ _ _ (⟨93, 93, 9⟩ : S120) [.int .i64 93, .int .i64 93, .int .i64 9] from (k120_mkM _ _ _ (⟨93, 93, 9⟩ : S120) )) (Reps.c3 (show Kd.M k120 _ _ _ (⟨123, 123, 8⟩ : S120) [.int .i64 123, .int .i64 123, .int .i64 8] from (k120_mkM _ _ _ (⟨123, 123, 8⟩ : S120) )) (Reps.c3 (show Kd.M k120 _ _ _ (⟨125, 125, 9⟩ : S120) [.int .i64 125, .int .i64 125, .int .i64 9] from (k120_mkM _ _ _ (⟨125, 125, 9⟩ : S120) )) (Reps.c3 (show Kd.M k120 _ _ _ (⟨160, 160, 5⟩ : S120) [.int .i64 160, .int .i64 160, .int .i64 5] from (k120_mkM _ _ _ (⟨160, 160, 5⟩ : S120) )) (Reps.c3 (show Kd.M k120 _ _ _ (⟨173, 173, 14⟩ : S120) [.int .i64 173, .int .i64 173, .int .i64 14] from (k120_mkM _ _ _ (⟨173, 173, 14⟩ : S120) )) (Reps.c3 (show Kd.M k120 _ _ _ (⟨1632, 1641, 2⟩ : S120) [.int .i64 1632, .int .i64 1641, .int .i64 2] from (k120_mkM _ _ _ (⟨1632, 1641, 2⟩ : S120) )) (Reps.c3 (show Kd.M k120 _ _ _ (⟨8203, 8203, 6⟩ : S120) [.int .i64 8203, .int .i64 8203, .int .i64 6] from (k120_mkM _ _ _ (⟨8203, 8203, 6⟩ : S120) )) (Reps.c3 (show Kd.M k120 _ _ _ (⟨8205, 8205, 7⟩ : S120) [.int .i64 8205, .int .i64 8205, .int .i64 7] from (k120_mkM _ _ _ (⟨8205, 8205, 7⟩ : S120) )) (Reps.c3 (show Kd.M k120 _ _ _ (⟨19968, 40959, 15⟩ : S120) [.int .i64 19968, .int .i64 40959, .int .i64 15] from (k120_mkM _ _ _ (⟨19968, 40959, 15⟩ : S120) )) (Reps.none _ _))))))))))))))))))))))))); intro v281 w1 ho2 hb hg_ hnew_; clear hg_ hnew_; (first | rw [← Ny280.out] at ho2 | (simp only [Int.reduceToNat] at ho2; rw [← Ny280.out] at ho2)); have n0_ := az (Kd.R_lower ho2 (below_size (zA HB.out))); have n1_ := az (below_step (zA HB.out) hb); clear HB; have HO282 := n0_; have HB := n1_; clear n0_ n1_; clear hb ho2))
 go_ret; exact ⟨_, zG, zF HO282.out, zA HB.out⟩
def impl_RuneLine.j0 : Nat → Int → Bool → Option (Int)
 | 0, _, _ => none
 | k + 1, x0, x11 => if x11 = true then (some 7) else ((impl_lineReaches.f).bind fun t284 => ((impl_find.f t284 x0 1).bind fun t287 => (some t287)))
def impl_RuneLine.f (k : Nat) (a0 : Int) : Option (Int) := (impl_RuneBidi.f a0).bind fun t283 => (if t283 = 9 then (impl_RuneLine.j0 k a0 true) else (impl_RuneLine.j0 k a0 (decide (t283 ≥ 14))))
theorem impl_RuneLine.mono_l : ∀ k, (∀ y0 y1, LeO (impl_RuneLine.j0 k y0 y1) (impl_RuneLine.j0 (k + 1) y0 y1))
 | 0 => fun _ _ r h => by simp [impl_RuneLine.j0] at h
 | k + 1 => by
  have ih0 := impl_RuneLine.mono_l k
  ·
   intro y0 y1; unfold impl_RuneLine.j0
   repeat' first
   | (with_reducible exact ih0 _ _)
   | (with_reducible exact LeO.refl _)
   | (with_reducible exact LeO.none _)
   | (with_reducible refine LeO.ite ?_ ?_)
   | (with_reducible refine LeO.bind ?_ (fun _ => ?_))
   | exact ih0 _ _
   | exact LeO.none _
   | refine LeO.ite ?_ ?_
   | refine LeO.bind ?_ (fun _ => ?_)
theorem impl_RuneLine.mono : ∀ a0 k, LeO (impl_RuneLine.f k a0) (impl_RuneLine.f (k + 1) a0) := by
 intro a0 k; have ih0 := impl_RuneLine.mono_l k; unfold impl_RuneLine.f
 repeat' first
   | (with_reducible exact ih0 _ _)
   | (with_reducible exact LeO.refl _)
   | (with_reducible exact LeO.none _)
   | (with_reducible refine LeO.ite ?_ ?_)
   | (with_reducible refine LeO.bind ?_ (fun _ => ?_))
   | exact ih0 _ _
   | exact LeO.none _
   | refine LeO.ite ?_ ?_
   | refine LeO.bind ?_ (fun _ => ?_)
theorem impl_RuneLine.calls (k : Nat) (a0 : Int) (r : Int) (w : World) (h : impl_RuneLine.f k a0 = some r) :
  Calls Tryz.prog 81 #[.int .i64 a0] w fun e w' => e = .returned (.int .i64 r) ∧ Below w.heap.size w w' := by
 have HB := az (Below.refl w.heap.size w); have H : ((impl_RuneBidi.f a0).bind fun t283 => (if t283 = 9 then (impl_RuneLine.j0 k a0 true) else (impl_RuneLine.j0 k a0 (decide (t283 ≥ 14))))) = some r := h; clear h; replace H := Option.bind_eq_some_iff.mp H; obtain ⟨t283, A20, H⟩ := H; replace H : (if t283 = 9 then (impl_RuneLine.j0 k a0 true) else (impl_RuneLine.j0 k a0 (decide (t283 ≥ 14)))) = some r := H; have A2 := az A20; clear A20; have HC3 := az H; clear H; go_enter Tryz.func81, Tryz.ntmps81; go_upto_region 2 with (first | ((with_reducible refine gate_callee (f := 115) rfl ?_); refine goesL_ (some 5) rfl rfl Tryz.func115 (by kernel_rfl) rfl #[.int .i64 a0] rfl zC ?_; (with_reducible refine (impl_RuneBidi.calls a0 t283 _ A2.out).mono ?_); rintro e w4 ⟨rfl, hb⟩; refine ⟨_, rfl, ?_⟩; have n0_ := az (below_step (zA HB.out) hb); clear HB; have HB := n0_; clear n0_; (try clear hb); (try clear hb2); (try clear hk); (try clear hi)))
 (try simp only [Act.put, List.setIfInBounds_toArray, List.set_cons_zero, List.set_cons_succ]); go_cut [11] (fun v11 wc => ∃ (kq : Nat) (x11_2 : Bool), v11 = .bool x11_2 ∧ Aside0 (impl_RuneLine.j0 kq a0 x11_2 = some r) ∧ Aside0 (kq ≤ k) ∧ Aside0 (Below w.heap.size w wc))
 case first =>
  have H := HC3.out; clear HC3; by_cases c5 : t283 = 9
  ·
   rw [if_pos c5] at H; have c5b0 : (t283 == 9) = true := beq_iff_eq.mpr c5; have c5b1 : (t283 != 9) = false := bne_eq_false_iff_eq.mpr c5; clear c5; (first | rw [c5b0] | (simp only [i64_w, i32_w]; rw [c5b0]) | skip); have H' := az H; clear H; go_wp2; go_meet
   case rel => exact ⟨_, (true), zB, H', ⟨zI⟩, ⟨zA HB.out⟩⟩
  ·
   rw [if_neg c5] at H; have c5b0 : (t283 == 9) = false := beq_eq_false_iff_ne.mpr c5; have c5b1 : (t283 != 9) = true := bne_iff_ne.mpr c5; (first | rw [c5b0] | (simp only [i64_w, i32_w]; rw [c5b0]) | skip); have H' := az H; clear H; go_wp2; go_meet
   case rel => exact ⟨_, (decide (t283 ≥ 14)), zB, H', ⟨zI⟩, ⟨zA HB.out⟩⟩
 case rest =>
  clear HC3; (try clear c1); (try clear p2); (try clear c5); (try clear c5b0); (try clear c5b1); obtain ⟨kq, x11_2, rfl, HA, HJ2, HB⟩ := hcut
  cases kq with
  | zero => exact absurd HA.out (by simp [impl_RuneLine.j0])
  | succ kj2 =>
   have H := HA.out; clear HA; simp only [impl_RuneLine.j0] at H; by_cases c6 : x11_2 = true
   ·
    subst c6; have H1 : (some 7) = some r := by rw [if_pos rfl] at H; exact H
    clear H; have H := H1; clear H1; obtain rfl := Option.some.inj H; go_wp2; go_ret; exact ⟨zG, zA HB.out⟩
   ·
    replace c6 := Bool.eq_false_iff.mpr c6; subst c6; have H1 : ((impl_lineReaches.f).bind fun t284 => ((impl_find.f t284 a0 1).bind fun t287 => (some t287))) = some r := by rw [if_neg (show ¬ (false = true) by decide)] at H; exact H
    clear H; have H := H1; clear H1; replace H := Option.bind_eq_some_iff.mp H; obtain ⟨t284, A70, H⟩ := H; replace H : ((impl_find.f t284 a0 1).bind fun t287 => (some t287)) = some r := H; have A7 := az A70; clear A70; replace H := Option.bind_eq_some_iff.mp H; obtain ⟨t287, A80, H⟩ := H; replace H : (some t287) = some r := H; have A8 := az A80; clear A80; obtain rfl := Option.some.inj H; go_wp2_with (first | ((with_reducible refine gate_callee (f := 117) rfl ?_); refine goesL_ (some 12) rfl rfl Tryz.func117 (by kernel_rfl) rfl #[] rfl zC ?_; (with_reducible refine (impl_lineReaches.calls  t284 _ A7.out).mono ?_); rintro e w9 ⟨v285, rfl, ho0, hb⟩; refine ⟨_, rfl, ?_⟩; have n0_ := az (Kd.R_lower ho0 (below_size (zA HB.out))); have n1_ := az (below_step (zA HB.out) hb); clear HB; have HO286 := n0_; have HB := n1_; clear n0_ n1_; (try clear hb); (try clear hb2); (try clear hk); (try clear hi); (try clear ho0); obtain ⟨Ao10, co10, eo10⟩ := Kd.R_slice HO286.out; subst eo10) | ((with_reducible refine gate_callee (f := 116) rfl ?_); refine goesL_ (some 14) rfl rfl Tryz.func116 (by kernel_rfl) rfl #[.slice Ao10 t284.length co10, .int .i64 a0, .int .i64 1] rfl zC ?_; (with_reducible refine (impl_find.calls _ _ t284 a0 1 t287 _ ?side1 ?side2 A8.out).mono ?_); (case side1 => exact (zR HO286.out)); (case side2 => exact (Kd.R_reads' HO286.out).2.1); rintro e w11 ⟨rfl, hb⟩; refine ⟨_, rfl, ?_⟩; have n0_ := az (Kd.R_below (zF HO286.out) hb); have n1_ := az (below_step (zA HB.out) hb); clear HO286; clear HB; have HO286 := n0_; have HB := n1_; clear n0_ n1_; (try clear hb); (try clear hb2); (try clear hk); (try clear hi))); go_ret; exact ⟨zG, zA HB.out⟩
def impl_oneOf.l0 : Nat → Int → List Int → Int → Int → Option (Bool)
 | 0, _, _, _, _ => none
 | k + 1, x0, x7, x8, x9 => if x9 < x8 then (if 0 ≤ x9 then (if x9 < (x7.length : Int) then (if x0 = (rd x7 x9) then (some true) else (impl_oneOf.l0 k x0 x7 x8 (wrap64 (x9 + 1)))) else (none)) else (none)) else (some false)
def impl_oneOf.f (k : Nat) (a0 : Int) (l1 : List Int) : Option (Bool) := impl_oneOf.l0 k a0 l1 (l1.length : Int) 0
theorem impl_oneOf.mono_l : ∀ k, (∀ y0 y1 y2 y3, LeO (impl_oneOf.l0 k y0 y1 y2 y3) (impl_oneOf.l0 (k + 1) y0 y1 y2 y3))
 | 0 => fun _ _ _ _ r h => by simp [impl_oneOf.l0] at h
 | k + 1 => by
  have ih0 := impl_oneOf.mono_l k
  ·
   intro y0 y1 y2 y3; unfold impl_oneOf.l0
   repeat' first
   | (with_reducible exact ih0 _ _ _ _)
   | (with_reducible exact LeO.refl _)
   | (with_reducible exact LeO.none _)
   | (with_reducible refine LeO.ite ?_ ?_)
   | (with_reducible refine LeO.bind ?_ (fun _ => ?_))
   | exact ih0 _ _ _ _
   | exact LeO.none _
   | refine LeO.ite ?_ ?_
   | refine LeO.bind ?_ (fun _ => ?_)
theorem impl_oneOf.mono : ∀ a0 a1 k, LeO (impl_oneOf.f k a0 a1) (impl_oneOf.f (k + 1) a0 a1) := by
 intro a0 a1 k; have ih0 := impl_oneOf.mono_l k; unfold impl_oneOf.f
 repeat' first
   | (with_reducible exact ih0 _ _ _ _)
   | (with_reducible exact LeO.refl _)
   | (with_reducible exact LeO.none _)
   | (with_reducible refine LeO.ite ?_ ?_)
   | (with_reducible refine LeO.bind ?_ (fun _ => ?_))
   | exact ih0 _ _ _ _
   | exact LeO.none _
   | refine LeO.ite ?_ ?_
   | refine LeO.bind ?_ (fun _ => ?_)
theorem impl_oneOf.calls (k : Nat) (a0 : Int) (A1 : Option Addr) (c1 : Nat) (l1 : List Int) (r : Bool) (w : World) (hr1 : Kd.C (Kd.int .i64) w A1 l1.length l1) (hc1 : l1.length ≤ c1) (h : impl_oneOf.f k a0 l1 = some r) :
  Calls Tryz.prog 104 #[.int .i64 a0, .slice A1 l1.length c1] w fun e w' => e = .returned (.bool r) ∧ Drawn0 w w' := by
 have HR1 := az hr1; have HC1 := az hc1; clear hr1 hc1; have H : (impl_oneOf.l0 k a0 l1 (l1.length : Int) 0) = some r := h; clear h; have H' := az H; clear H; go_enter Tryz.func104, Tryz.ntmps104; go_wp2; go_loopg [9] k (fun kq v9 w' => ∃ (x9_1 : Int), v9 = .int .i64 x9_1 ∧ Aside0 (impl_oneOf.l0 kq a0 l1 (l1.length : Int) x9_1 = some r) ∧ Aside0 (kq ≤ k) ∧ Drawn0 w w')
 case atStart => exact ⟨(0), zB, H', ⟨Nat.le_refl _⟩, zD⟩
 case round =>
  clear H'; (try clear c1); (try clear p2); obtain ⟨x9_1, rfl, HA, HK1, ⟨m1, rfl⟩⟩ := hrel
  cases gk with
  | zero => exact absurd HA.out (by simp [impl_oneOf.l0])
  | succ k1 =>
   have H := HA.out; clear HA; simp only [impl_oneOf.l0] at H; by_cases c3 : x9_1 < (l1.length : Int)
   ·
    rw [if_pos c3] at H; have c3b0 : decide (x9_1 < (l1.length : Int)) = true := decide_eq_true c3; clear c3; by_cases c4 : 0 ≤ x9_1
    ·
     rw [if_pos c4] at H; have c4b0 : decide (0 ≤ x9_1) = true := decide_eq_true c4; clear c4; by_cases c5 : x9_1 < (l1.length : Int)
     ·
      rw [if_pos c5] at H; have c5b0 : decide (x9_1 < (l1.length : Int)) = true := decide_eq_true c5; clear c5; by_cases c6 : a0 = (rd l1 x9_1)
      ·
       rw [if_pos c6] at H; have c6b0 : (a0 == (rd l1 x9_1)) = true := beq_iff_eq.mpr c6; have c6b1 : (a0 != (rd l1 x9_1)) = false := bne_eq_false_iff_eq.mpr c6; clear c6; obtain rfl := Option.some.inj H; have p288 : 0 ≤ (x9_1 : Int) := of_decide_eq_true (by assumption); have q288 : x9_1 < (l1.length : Int) := of_decide_eq_true (by assumption); obtain ⟨ad288, e288, hx288_0⟩ := Kd.at_int HR1.out x9_1 p288 q288
       cases e288
       replace p288 := eq_true p288; replace q288 := eq_true q288; go_wp2; go_ret; exact ⟨zB, zD⟩
      ·
       rw [if_neg c6] at H; have c6b0 : (a0 == (rd l1 x9_1)) = false := beq_eq_false_iff_ne.mpr c6; have c6b1 : (a0 != (rd l1 x9_1)) = true := bne_iff_ne.mpr c6; have H' := az H; clear H; have p288 : 0 ≤ (x9_1 : Int) := of_decide_eq_true (by assumption); have q288 : x9_1 < (l1.length : Int) := of_decide_eq_true (by assumption); obtain ⟨ad288, e288, hx288_0⟩ := Kd.at_int HR1.out x9_1 p288 q288
       cases e288
       replace p288 := eq_true p288; replace q288 := eq_true q288; go_wp2; go_roundg k1
       case measure => have := HK1.out; omega
       case rel => exact ⟨(wrap64 (x9_1 + 1)), zB, H', ⟨zE HK1.out⟩, zD⟩
     ·
      rw [if_neg c5] at H; exact absurd H (by simp)
    ·
     rw [if_neg c4] at H; exact absurd H (by simp)
   ·
    rw [if_neg c3] at H; have c3b0 : decide (x9_1 < (l1.length : Int)) = false := decide_eq_false c3; clear c3; obtain rfl := Option.some.inj H; go_wp2; go_ret; exact ⟨zB, zD⟩
def impl_afterSpace.f (k : Nat) (a0 : Int) : Option (Bool) := (impl_oneOf.f k a0 (([3, 4, 6] : List Int))).bind fun t292 => (some t292)
theorem impl_afterSpace.mono : ∀ a0 k, LeO (impl_afterSpace.f k a0) (impl_afterSpace.f (k + 1) a0) := by
 intro a0 k; unfold impl_afterSpace.f
 repeat' first
   | (with_reducible exact impl_oneOf.mono _ _ _)
   | (with_reducible exact LeO.refl _)
   | (with_reducible exact LeO.none _)
   | (with_reducible refine LeO.ite ?_ ?_)
   | (with_reducible refine LeO.bind ?_ (fun _ => ?_))
   | exact impl_oneOf.mono _ _ _
   | exact LeO.none _
   | refine LeO.ite ?_ ?_
   | refine LeO.bind ?_ (fun _ => ?_)
theorem impl_afterSpace.calls (k : Nat) (a0 : Int) (r : Bool) (w : World) (h : impl_afterSpace.f k a0 = some r) :
  Calls Tryz.prog 82 #[.int .i64 a0] w fun e w' => e = .returned (.bool r) ∧ Below w.heap.size w w' := by
 have HB := az (Below.refl w.heap.size w); have H : ((impl_oneOf.f k a0 (([3, 4, 6] : List Int))).bind fun t292 => (some t292)) = some r := h; clear h; obtain ⟨y289, hy289⟩ : ∃ y_ : List Int, y_ = (([3, 4, 6] : List Int)) := ⟨_, rfl⟩; replace H : ((impl_oneOf.f k a0 y289).bind fun t292 => (some t292)) = some r := by first | (rw [hy289]; with_reducible exact H) | (have H2_ := (Option.bind_some _ _).symm.trans H; rw [hy289]; with_reducible exact H2_) | (have H2_ := (Option.bind_some _ _).symm.trans H; with_reducible exact H2_) | with_reducible exact H | (rw [hy289]; exact H) | exact H
 have Ny289 := az hy289; clear hy289; replace H := Option.bind_eq_some_iff.mp H; obtain ⟨t292, A20, H⟩ := H; replace H : (some t292) = some r := H; have A2 := az A20; clear A20; obtain rfl := Option.some.inj H; go_enter Tryz.func82, Tryz.ntmps82; go_wp2_with (first | ((with_reducible refine gate_dst (N := 4) rfl ?_); refine Kd.R_lit (Kd.int .i64) _ 3 ?hg (N := 4) ?hd (xs := ([3, 4, 6] : List Int)) (inner := [.int .i64 3, .int .i64 4, .int .i64 6]) (ok := fun _ => True) (okp := fun _ => True) ?hr ?hp (fun _ hk => hk) trivial (Below.refl _ _) (Nat.le_refl _) (by simp) ?_; (case hd => rfl); (case hg => rfl); (case hr => first | (go_simp; done) | (go_simp; rfl)); (case hp => exact (Reps.one (show Kd.M (Kd.int .i64) _ _ _ 3 [.int .i64 3] from rfl) (Reps.one (show Kd.M (Kd.int .i64) _ _ _ 4 [.int .i64 4] from rfl) (Reps.one (show Kd.M (Kd.int .i64) _ _ _ 6 [.int .i64 6] from rfl) (Reps.none _ _))))); intro v290 w3 ho4 hb hg_ hnew_; clear hg_ hnew_; (first | rw [← Ny289.out] at ho4 | (simp only [Int.reduceToNat] at ho4; rw [← Ny289.out] at ho4)); have n0_ := az (Kd.R_lower ho4 (below_size (zA HB.out))); have n1_ := az (below_step (zA HB.out) hb); clear HB; have HO291 := n0_; have HB := n1_; clear n0_ n1_; clear hb ho4; obtain ⟨Ao5, co5, eo5⟩ := Kd.R_slice HO291.out; subst eo5) | ((with_reducible refine gate_callee (f := 104) rfl ?_); refine goesL_ (some 5) rfl rfl Tryz.func104 (by kernel_rfl) rfl #[.int .i64 a0, .slice Ao5 y289.length co5] rfl zC ?_; (with_reducible refine (impl_oneOf.calls k a0 _ _ y289 t292 _ ?side1 ?side2 A2.out).mono ?_); (case side1 => exact (zR HO291.out)); (case side2 => exact (Kd.R_reads' HO291.out).2.1); rintro e w' ⟨rfl, ⟨nd, rfl⟩⟩; refine ⟨_, rfl, ?_⟩)); go_ret; exact ⟨zG, zA HB.out⟩
def impl_countsOf.l0 : Nat → List Int → List Int → Int → Int → Option (List Int)
 | 0, _, _, _, _ => none
 | k + 1, x3, x7, x8, x9 => if x9 < x8 then (if 0 ≤ x9 then (if x9 < (x7.length : Int) then ((impl_RuneLine.f k (rd x7 x9)).bind fun t294 => (if t294 = 7 then (if x9 > 0 then (if 0 ≤ (wrap64 (x9 - 1)) then (if (wrap64 (x9 - 1)) < (x3.length : Int) then ((impl_afterSpace.f k (rd x3 (wrap64 (x9 - 1)))).bind fun t296 => (if t296 = true then (if x3.length < 17592186044416 then (impl_countsOf.l0 k (x3 ++ [1]) x7 x8 (wrap64 (x9 + 1))) else (none)) else (if x3.length < 17592186044416 then (impl_countsOf.l0 k (x3 ++ [rd x3 (wrap64 (x9 - 1))]) x7 x8 (wrap64 (x9 + 1))) else (none)))) else (none)) else (none)) else (if x3.length < 17592186044416 then (impl_countsOf.l0 k (x3 ++ [1]) x7 x8 (wrap64 (x9 + 1))) else (none))) else (if x3.length < 17592186044416 then (impl_countsOf.l0 k (x3 ++ [t294]) x7 x8 (wrap64 (x9 + 1))) else (none)))) else (none)) else (none)) else (some x3)
def impl_countsOf.f (k : Nat) (l0 : List Int) : Option (List Int) := impl_countsOf.l0 k ([] : List Int) l0 (l0.length : Int) 0
theorem impl_countsOf.mono_l : ∀ k, (∀ y0 y1 y2 y3, LeO (impl_countsOf.l0 k y0 y1 y2 y3) (impl_countsOf.l0 (k + 1) y0 y1 y2 y3))
 | 0 => fun _ _ _ _ r h => by simp [impl_countsOf.l0] at h
 | k + 1 => by
  have ih0 := impl_countsOf.mono_l k
  ·
   intro y0 y1 y2 y3; unfold impl_countsOf.l0
   repeat' first
   | (with_reducible exact ih0 _ _ _ _)
   | (with_reducible exact impl_RuneLine.mono _ _)
   | (with_reducible exact impl_afterSpace.mono _ _)
   | (with_reducible exact LeO.refl _)
   | (with_reducible exact LeO.none _)
   | (with_reducible refine LeO.ite ?_ ?_)
   | (with_reducible refine LeO.bind ?_ (fun _ => ?_))
   | exact ih0 _ _ _ _
   | exact impl_RuneLine.mono _ _
   | exact impl_afterSpace.mono _ _
   | exact LeO.none _
   | refine LeO.ite ?_ ?_
   | refine LeO.bind ?_ (fun _ => ?_)
theorem impl_countsOf.mono : ∀ a0 k, LeO (impl_countsOf.f k a0) (impl_countsOf.f (k + 1) a0) := by
 intro a0 k; have ih0 := impl_countsOf.mono_l k; unfold impl_countsOf.f
 repeat' first
   | (with_reducible exact ih0 _ _ _ _)
   | (with_reducible exact impl_RuneLine.mono _ _)
   | (with_reducible exact impl_afterSpace.mono _ _)
   | (with_reducible exact LeO.refl _)
   | (with_reducible exact LeO.none _)
   | (with_reducible refine LeO.ite ?_ ?_)
   | (with_reducible refine LeO.bind ?_ (fun _ => ?_))
   | exact ih0 _ _ _ _
   | exact impl_RuneLine.mono _ _
   | exact impl_afterSpace.mono _ _
   | exact LeO.none _
   | refine LeO.ite ?_ ?_
   | refine LeO.bind ?_ (fun _ => ?_)
theorem impl_countsOf.calls (k : Nat) (A0 : Option Addr) (c0 : Nat) (l0 : List Int) (r : List Int) (w : World) (hr0 : Kd.C (Kd.int .i64) w A0 l0.length l0) (hc0 : l0.length ≤ c0) (h : impl_countsOf.f k l0 = some r) :
  Calls Tryz.prog 78 #[.slice A0 l0.length c0] w fun e w' => ∃ v0_ : Value, e = .returned (v0_) ∧ Kd.R (Kd.int .i64) 3 w' w.heap.size (fun _ => True) v0_ r ∧ Below w.heap.size w w' := by
 have HR0 := az hr0; have HC0 := az hc0; clear hr0 hc0; have HB := az (Below.refl w.heap.size w); have H : (impl_countsOf.l0 k ([] : List Int) l0 (l0.length : Int) 0) = some r := h; clear h; have H' := az H; clear H; go_enter Tryz.func78, Tryz.ntmps78; go_wp2; go_loopg [3, 9] k (fun kq v3 v9 w' => ∃ (x3_1 : List Int) (x9_1 : Int), v9 = .int .i64 x9_1 ∧ Aside0 (impl_countsOf.l0 kq x3_1 l0 (l0.length : Int) x9_1 = some r) ∧ Aside0 (kq ≤ k) ∧ Aside0 (Kd.R (Kd.int .i64) 3 w' w.heap.size (fun _ => True) v3 x3_1) ∧ Aside0 (Below w.heap.size w w'))
 case atStart => exact ⟨(([] : List Int)), (0), zB, H', ⟨Nat.le_refl _⟩, ⟨zS⟩, ⟨zA HB.out⟩⟩
 case round =>
  clear H'; obtain ⟨x3_1, x9_1, rfl, HA, HK1, HO_3, HB⟩ := hrel
  cases gk with
  | zero => exact absurd HA.out (by simp [impl_countsOf.l0])
  | succ k1 =>
   have H := HA.out; clear HA; simp only [impl_countsOf.l0] at H; by_cases c2 : x9_1 < (l0.length : Int)
   ·
    rw [if_pos c2] at H; have c2b0 : decide (x9_1 < (l0.length : Int)) = true := decide_eq_true c2; clear c2; by_cases c3 : 0 ≤ x9_1
    ·
     rw [if_pos c3] at H; have c3b0 : decide (0 ≤ x9_1) = true := decide_eq_true c3; clear c3; by_cases c4 : x9_1 < (l0.length : Int)
     ·
      rw [if_pos c4] at H; have c4b0 : decide (x9_1 < (l0.length : Int)) = true := decide_eq_true c4; clear c4; replace H := Option.bind_eq_some_iff.mp H; obtain ⟨t294, A50, H⟩ := H; replace H : (if t294 = 7 then (if x9_1 > 0 then (if 0 ≤ (wrap64 (x9_1 - 1)) then (if (wrap64 (x9_1 - 1)) < (x3_1.length : Int) then ((impl_afterSpace.f k1 (rd x3_1 (wrap64 (x9_1 - 1)))).bind fun t296 => (if t296 = true then (if x3_1.length < 17592186044416 then (impl_countsOf.l0 k1 (x3_1 ++ [1]) l0 (l0.length : Int) (wrap64 (x9_1 + 1))) else (none)) else (if x3_1.length < 17592186044416 then (impl_countsOf.l0 k1 (x3_1 ++ [rd x3_1 (wrap64 (x9_1 - 1))]) l0 (l0.length : Int) (wrap64 (x9_1 + 1))) else (none)))) else (none)) else (none)) else (if x3_1.length < 17592186044416 then (impl_countsOf.l0 k1 (x3_1 ++ [1]) l0 (l0.length : Int) (wrap64 (x9_1 + 1))) else (none))) else (if x3_1.length < 17592186044416 then (impl_countsOf.l0 k1 (x3_1 ++ [t294]) l0 (l0.length : Int) (wrap64 (x9_1 + 1))) else (none))) = some r := H; have A5 := az A50; clear A50; by_cases c6 : t294 = 7
      ·
       rw [if_pos c6] at H; have c6b0 : (t294 == 7) = true := beq_iff_eq.mpr c6; have c6b1 : (t294 != 7) = false := bne_eq_false_iff_eq.mpr c6; clear c6; by_cases c7 : x9_1 > 0
       ·
        rw [if_pos c7] at H; have c7b0 : decide (0 < x9_1) = true := decide_eq_true c7; clear c7; obtain ⟨ji8, hji8⟩ : ∃ j_ : Int, (wrap64 (x9_1 - 1)) = j_ := ⟨_, rfl⟩; replace H : (if 0 ≤ (ji8) then (if (ji8) < (x3_1.length : Int) then ((impl_afterSpace.f k1 (rd x3_1 (ji8))).bind fun t296 => (if t296 = true then (if x3_1.length < 17592186044416 then (impl_countsOf.l0 k1 (x3_1 ++ [1]) l0 (l0.length : Int) (wrap64 (x9_1 + 1))) else (none)) else (if x3_1.length < 17592186044416 then (impl_countsOf.l0 k1 (x3_1 ++ [rd x3_1 (ji8)]) l0 (l0.length : Int) (wrap64 (x9_1 + 1))) else (none)))) else (none)) else (none)) = some r := by first | (rw [hji8] at H; exact H) | (simp only [hji8] at H ⊢; exact H)
        (try rw [hji8] at A5); have hji8w : (IntKind.i64.wrap (x9_1 - 1)) = ji8 := (i64_w _).trans hji8; by_cases c9 : 0 ≤ (ji8)
        ·
         rw [if_pos c9] at H; have c9b0 : decide (0 ≤ (ji8)) = true := decide_eq_true c9; clear c9; by_cases c10 : (ji8) < (x3_1.length : Int)
         ·
          rw [if_pos c10] at H; have c10b0 : decide ((ji8) < (x3_1.length : Int)) = true := decide_eq_true c10; clear c10; replace H := Option.bind_eq_some_iff.mp H; obtain ⟨t296, A110, H⟩ := H; replace H : (if t296 = true then (if x3_1.length < 17592186044416 then (impl_countsOf.l0 k1 (x3_1 ++ [1]) l0 (l0.length : Int) (wrap64 (x9_1 + 1))) else (none)) else (if x3_1.length < 17592186044416 then (impl_countsOf.l0 k1 (x3_1 ++ [rd x3_1 (ji8)]) l0 (l0.length : Int) (wrap64 (x9_1 + 1))) else (none))) = some r := H; have A11 := az A110; clear A110; by_cases c12 : t296 = true
          ·
           subst c12; have H1 : (if x3_1.length < 17592186044416 then (impl_countsOf.l0 k1 (x3_1 ++ [1]) l0 (l0.length : Int) (wrap64 (x9_1 + 1))) else (none)) = some r := by rw [if_pos rfl] at H; exact H
           clear H; have H := H1; clear H1; by_cases c13 : x3_1.length < 17592186044416
           ·
            rw [if_pos c13] at H; have LMc13 := az c13; clear c13; obtain ⟨y297, hy297⟩ : ∃ y_ : List Int, y_ = (x3_1 ++ [1]) := ⟨_, rfl⟩; replace H : (impl_countsOf.l0 k1 y297 l0 (l0.length : Int) (wrap64 (x9_1 + 1))) = some r := by first | (rw [hy297]; with_reducible exact H) | (have H2_ := (Option.bind_some _ _).symm.trans H; rw [hy297]; with_reducible exact H2_) | (have H2_ := (Option.bind_some _ _).symm.trans H; with_reducible exact H2_) | with_reducible exact H | (rw [hy297]; exact H) | exact H
            have Ny297 := az hy297; clear hy297; have H' := az H; clear H; have p293 : 0 ≤ (x9_1 : Int) := of_decide_eq_true (by assumption); have q293 : x9_1 < (l0.length : Int) := of_decide_eq_true (by assumption); obtain ⟨ad293, e293, hx293_0⟩ := Kd.at_int HR0.out x9_1 p293 q293
            cases e293
            replace hx293_0 := (HB.out.cell (World.block_lt_of_cell? w _ hx293_0)).trans hx293_0; replace p293 := eq_true p293; replace q293 := eq_true q293; go_wp2_with (first | ((with_reducible refine gate_callee (f := 81) rfl ?_); refine goesL_ (some 15) rfl rfl Tryz.func81 (by kernel_rfl) rfl #[.int .i64 (rd l0 x9_1)] rfl zC ?_; (with_reducible refine (impl_RuneLine.calls k1 (rd l0 x9_1) t294 _ A5.out).mono ?_); rintro e w14 ⟨rfl, hb⟩; refine ⟨_, rfl, ?_⟩; have n0_ := az (Kd.R_below (zF HO_3.out) hb); have n1_ := az (below_step (zA HB.out) hb); clear HO_3; clear HB; have HO_3 := n0_; have HB := n1_; clear n0_ n1_; (try clear hb); (try clear hb2); (try clear hk); (try clear hi); obtain ⟨Ao15, co15, eo15⟩ := Kd.R_slice HO_3.out; subst eo15; have p295 : 0 ≤ ((ji8) : Int) := of_decide_eq_true (by assumption); have q295 : (ji8) < (x3_1.length : Int) := of_decide_eq_true (by assumption); obtain ⟨ad295, e295, hx295_0⟩ := Kd.at_int (Kd.R_reads' HO_3.out).2.2 (ji8) p295 q295; cases e295; replace p295 := eq_true p295; replace q295 := eq_true q295) | (go_at_call 82; (with_reducible refine (impl_afterSpace.calls k1 (rd x3_1 (ji8)) true _ A11.out).mono ?_); rintro e w16 ⟨rfl, hb⟩; have n0_ := az (Kd.R_below (zF HO_3.out) hb); have n1_ := az (below_step (zA HB.out) hb); clear HO_3; clear HB; have HO_3 := n0_; have HB := n1_; clear n0_ n1_; (try clear hb); (try clear hb2); (try clear hk); (try clear hi)) | ((with_reducible refine gate_builtin (b := .append) (xs := #[.tmp 34, .tmp 36]) rfl ?_); at_builtin; refine Kd.R_append (Kd.int .i64) (w0 := w) w.heap.size rfl (.tmp 34) (.tmp 36) 22 3 (.int .i64 0) 8 rfl Tryz.underlying22 info3 rfl (by decide) (by omega) (.slice (some ad295) x3_1.length co15) x3_1 1 [.int .i64 1] (fun _ => True) (fun _ => False) rfl rfl ?aP (fun _ hk => hk.elim) ?aF ?aO ?aB ?aS ?aL ?_; (case aP => exact rfl); (case aB => exact (zA HB.out)); (case aF => exact (fun _ _ => trivial)); (case aO => exact (zF HO_3.out)); (case aS => exact (below_size (zA HB.out))); (case aL => have := LMc13.out; omega); intro v298 w17 ho hb hg hat; rw [← Ny297.out] at ho; have n0_ := az (hb); have n1_ := az (ho); clear HB; clear HO_3; have HB := n0_; have HO299 := n1_; clear n0_ n1_; clear ho hb hg hat)); go_roundg k1
            case measure => have := HK1.out; omega
            case rel => exact ⟨(y297), (wrap64 (x9_1 + 1)), zB, H', ⟨zE HK1.out⟩, ⟨zF HO299.out⟩, ⟨zA HB.out⟩⟩
           ·
            rw [if_neg c13] at H; exact absurd H (by simp)
          ·
           replace c12 := Bool.eq_false_iff.mpr c12; subst c12; have H1 : (if x3_1.length < 17592186044416 then (impl_countsOf.l0 k1 (x3_1 ++ [rd x3_1 (ji8)]) l0 (l0.length : Int) (wrap64 (x9_1 + 1))) else (none)) = some r := by rw [if_neg (show ¬ (false = true) by decide)] at H; exact H
           clear H; have H := H1; clear H1; by_cases c18 : x3_1.length < 17592186044416
           ·
            rw [if_pos c18] at H; have LMc18 := az c18; clear c18; obtain ⟨y301, hy301⟩ : ∃ y_ : List Int, y_ = (x3_1 ++ [rd x3_1 (ji8)]) := ⟨_, rfl⟩; replace H : (impl_countsOf.l0 k1 y301 l0 (l0.length : Int) (wrap64 (x9_1 + 1))) = some r := by first | (rw [hy301]; with_reducible exact H) | (have H2_ := (Option.bind_some _ _).symm.trans H; rw [hy301]; with_reducible exact H2_) | (have H2_ := (Option.bind_some _ _).symm.trans H; with_reducible exact H2_) | with_reducible exact H | (rw [hy301]; exact H) | exact H
            have Ny301 := az hy301; clear hy301; have H' := az H; clear H; have p293 : 0 ≤ (x9_1 : Int) := of_decide_eq_true (by assumption); have q293 : x9_1 < (l0.length : Int) := of_decide_eq_true (by assumption); obtain ⟨ad293, e293, hx293_0⟩ := Kd.at_int HR0.out x9_1 p293 q293
            cases e293
            replace hx293_0 := (HB.out.cell (World.block_lt_of_cell? w _ hx293_0)).trans hx293_0; replace p293 := eq_true p293; replace q293 := eq_true q293; go_wp2_with (first | ((with_reducible refine gate_callee (f := 81) rfl ?_); refine goesL_ (some 15) rfl rfl Tryz.func81 (by kernel_rfl) rfl #[.int .i64 (rd l0 x9_1)] rfl zC ?_; (with_reducible refine (impl_RuneLine.calls k1 (rd l0 x9_1) t294 _ A5.out).mono ?_); rintro e w19 ⟨rfl, hb⟩; refine ⟨_, rfl, ?_⟩; have n0_ := az (Kd.R_below (zF HO_3.out) hb); have n1_ := az (below_step (zA HB.out) hb); clear HO_3; clear HB; have HO_3 := n0_; have HB := n1_; clear n0_ n1_; (try clear hb); (try clear hb2); (try clear hk); (try clear hi); obtain ⟨Ao20, co20, eo20⟩ := Kd.R_slice HO_3.out; subst eo20; have p295 : 0 ≤ ((ji8) : Int) := of_decide_eq_true (by assumption); have q295 : (ji8) < (x3_1.length : Int) := of_decide_eq_true (by assumption); obtain ⟨ad295, e295, hx295_0⟩ := Kd.at_int (Kd.R_reads' HO_3.out).2.2 (ji8) p295 q295; cases e295; replace p295 := eq_true p295; replace q295 := eq_true q295) | (go_at_call 82; (with_reducible refine (impl_afterSpace.calls k1 (rd x3_1 (ji8)) false _ A11.out).mono ?_); rintro e w21 ⟨rfl, hb⟩; have n0_ := az (Kd.R_below (zF HO_3.out) hb); have n1_ := az (below_step (zA HB.out) hb); clear HO_3; clear HB; have HO_3 := n0_; have HB := n1_; clear n0_ n1_; (try clear hb); (try clear hb2); (try clear hk); (try clear hi); have p300 : 0 ≤ ((ji8) : Int) := of_decide_eq_true (by assumption); have q300 : (ji8) < (x3_1.length : Int) := of_decide_eq_true (by assumption); obtain ⟨ad300, e300, hx300_0⟩ := Kd.at_int (Kd.R_reads' HO_3.out).2.2 (ji8) p300 q300; obtain rfl : ad295 = ad300 := (by injection e300); replace p300 := eq_true p300; replace q300 := eq_true q300) | ((with_reducible refine gate_builtin (b := .append) (xs := #[.tmp 34, .tmp 36]) rfl ?_); at_builtin; refine Kd.R_append (Kd.int .i64) (w0 := w) w.heap.size rfl (.tmp 34) (.tmp 36) 22 3 (.int .i64 0) 8 rfl Tryz.underlying22 info3 rfl (by decide) (by omega) (.slice (some ad295) x3_1.length co20) x3_1 (rd x3_1 (ji8)) [.int .i64 (rd x3_1 (ji8))] (fun _ => True) (fun _ => False) rfl rfl ?aP (fun _ hk => hk.elim) ?aF ?aO ?aB ?aS ?aL ?_; (case aP => exact rfl); (case aB => exact (zA HB.out)); (case aF => exact (fun _ _ => trivial)); (case aO => exact (zF HO_3.out)); (case aS => exact (below_size (zA HB.out))); (case aL => have := LMc18.out; omega); intro v302 w22 ho hb hg hat; rw [← Ny301.out] at ho; have n0_ := az (hb); have n1_ := az (ho); clear HB; clear HO_3; have HB := n0_; have HO303 := n1_; clear n0_ n1_; clear ho hb hg hat)); go_roundg k1
            case measure => have := HK1.out; omega
            case rel => exact ⟨(y301), (wrap64 (x9_1 + 1)), zB, H', ⟨zE HK1.out⟩, ⟨zF HO303.out⟩, ⟨zA HB.out⟩⟩
           ·
            rw [if_neg c18] at H; exact absurd H (by simp)
         ·
          rw [if_neg c10] at H; exact absurd H (by simp)
        ·
         rw [if_neg c9] at H; exact absurd H (by simp)
       ·
        rw [if_neg c7] at H; have c7b0 : decide (0 < x9_1) = false := decide_eq_false c7; clear c7; by_cases c23 : x3_1.length < 17592186044416
        ·
         rw [if_pos c23] at H; have LMc23 := az c23; clear c23; obtain ⟨y304, hy304⟩ : ∃ y_ : List Int, y_ = (x3_1 ++ [1]) := ⟨_, rfl⟩; replace H : (impl_countsOf.l0 k1 y304 l0 (l0.length : Int) (wrap64 (x9_1 + 1))) = some r := by first | (rw [hy304]; with_reducible exact H) | (have H2_ := (Option.bind_some _ _).symm.trans H; rw [hy304]; with_reducible exact H2_) | (have H2_ := (Option.bind_some _ _).symm.trans H; with_reducible exact H2_) | with_reducible exact H | (rw [hy304]; exact H) | exact H
         have Ny304 := az hy304; clear hy304; have H' := az H; clear H; have p293 : 0 ≤ (x9_1 : Int) := of_decide_eq_true (by assumption); have q293 : x9_1 < (l0.length : Int) := of_decide_eq_true (by assumption); obtain ⟨ad293, e293, hx293_0⟩ := Kd.at_int HR0.out x9_1 p293 q293
         cases e293
         replace hx293_0 := (HB.out.cell (World.block_lt_of_cell? w _ hx293_0)).trans hx293_0; replace p293 := eq_true p293; replace q293 := eq_true q293; go_wp2_with (first | ((with_reducible refine gate_callee (f := 81) rfl ?_); refine goesL_ (some 15) rfl rfl Tryz.func81 (by kernel_rfl) rfl #[.int .i64 (rd l0 x9_1)] rfl zC ?_; (with_reducible refine (impl_RuneLine.calls k1 (rd l0 x9_1) t294 _ A5.out).mono ?_); rintro e w24 ⟨rfl, hb⟩; refine ⟨_, rfl, ?_⟩; have n0_ := az (Kd.R_below (zF HO_3.out) hb); have n1_ := az (below_step (zA HB.out) hb); clear HO_3; clear HB; have HO_3 := n0_; have HB := n1_; clear n0_ n1_; (try clear hb); (try clear hb2); (try clear hk); (try clear hi)) | ((with_reducible refine gate_builtin (b := .append) (xs := #[.tmp 34, .tmp 36]) rfl ?_); at_builtin; refine Kd.R_append (Kd.int .i64) (w0 := w) w.heap.size rfl (.tmp 34) (.tmp 36) 22 3 (.int .i64 0) 8 rfl Tryz.underlying22 info3 rfl (by decide) (by omega) u3 x3_1 1 [.int .i64 1] (fun _ => True) (fun _ => False) rfl rfl ?aP (fun _ hk => hk.elim) ?aF ?aO ?aB ?aS ?aL ?_; (case aP => exact rfl); (case aB => exact (zA HB.out)); (case aF => exact (fun _ _ => trivial)); (case aO => exact (zF HO_3.out)); (case aS => exact (below_size (zA HB.out))); (case aL => have := LMc23.out; omega); intro v305 w25 ho hb hg hat; rw [← Ny304.out] at ho; have n0_ := az (hb); have n1_ := az (ho); clear HB; clear HO_3; have HB := n0_; have HO306 := n1_; clear n0_ n1_; clear ho hb hg hat)); go_roundg k1
         case measure => have := HK1.out; omega
         case rel => exact ⟨(y304), (wrap64 (x9_1 + 1)), zB, H', ⟨zE HK1.out⟩, ⟨zF HO306.out⟩, ⟨zA HB.out⟩⟩
        ·
         rw [if_neg c23] at H; exact absurd H (by simp)
      ·
       rw [if_neg c6] at H; have c6b0 : (t294 == 7) = false := beq_eq_false_iff_ne.mpr c6; have c6b1 : (t294 != 7) = true := bne_iff_ne.mpr c6; by_cases c26 : x3_1.length < 17592186044416
       ·
        rw [if_pos c26] at H; have LMc26 := az c26; clear c26; obtain ⟨y307, hy307⟩ : ∃ y_ : List Int, y_ = (x3_1 ++ [t294]) := ⟨_, rfl⟩; replace H : (impl_countsOf.l0 k1 y307 l0 (l0.length : Int) (wrap64 (x9_1 + 1))) = some r := by first | (rw [hy307]; with_reducible exact H) | (have H2_ := (Option.bind_some _ _).symm.trans H; rw [hy307]; with_reducible exact H2_) | (have H2_ := (Option.bind_some _ _).symm.trans H; with_reducible exact H2_) | with_reducible exact H | (rw [hy307]; exact H) | exact H
        have Ny307 := az hy307; clear hy307; have H' := az H; clear H; have p293 : 0 ≤ (x9_1 : Int) := of_decide_eq_true (by assumption); have q293 : x9_1 < (l0.length : Int) := of_decide_eq_true (by assumption); obtain ⟨ad293, e293, hx293_0⟩ := Kd.at_int HR0.out x9_1 p293 q293
        cases e293
        replace hx293_0 := (HB.out.cell (World.block_lt_of_cell? w _ hx293_0)).trans hx293_0; replace p293 := eq_true p293; replace q293 := eq_true q293; go_wp2_with (first | ((with_reducible refine gate_callee (f := 81) rfl ?_); refine goesL_ (some 15) rfl rfl Tryz.func81 (by kernel_rfl) rfl #[.int .i64 (rd l0 x9_1)] rfl zC ?_; (with_reducible refine (impl_RuneLine.calls k1 (rd l0 x9_1) t294 _ A5.out).mono ?_); rintro e w27 ⟨rfl, hb⟩; refine ⟨_, rfl, ?_⟩; have n0_ := az (Kd.R_below (zF HO_3.out) hb); have n1_ := az (below_step (zA HB.out) hb); clear HO_3; clear HB; have HO_3 := n0_; have HB := n1_; clear n0_ n1_; (try clear hb); (try clear hb2); (try clear hk); (try clear hi)) | ((with_reducible refine gate_builtin (b := .append) (xs := #[.tmp 34, .tmp 36]) rfl ?_); at_builtin; refine Kd.R_append (Kd.int .i64) (w0 := w) w.heap.size rfl (.tmp 34) (.tmp 36) 22 3 (.int .i64 0) 8 rfl Tryz.underlying22 info3 rfl (by decide) (by omega) u3 x3_1 t294 [.int .i64 t294] (fun _ => True) (fun _ => False) rfl rfl ?aP (fun _ hk => hk.elim) ?aF ?aO ?aB ?aS ?aL ?_; (case aP => exact rfl); (case aB => exact (zA HB.out)); (case aF => exact (fun _ _ => trivial)); (case aO => exact (zF HO_3.out)); (case aS => exact (below_size (zA HB.out))); (case aL => have := LMc26.out; omega); intro v308 w28 ho hb hg hat; rw [← Ny307.out] at ho; have n0_ := az (hb); have n1_ := az (ho); clear HB; clear HO_3; have HB := n0_; have HO309 := n1_; clear n0_ n1_; clear ho hb hg hat)); go_roundg k1
        case measure => have := HK1.out; omega
        case rel => exact ⟨(y307), (wrap64 (x9_1 + 1)), zB, H', ⟨zE HK1.out⟩, ⟨zF HO309.out⟩, ⟨zA HB.out⟩⟩
       ·
        rw [if_neg c26] at H; exact absurd H (by simp)
     ·
      rw [if_neg c4] at H; exact absurd H (by simp)
    ·
     rw [if_neg c3] at H; exact absurd H (by simp)
   ·
    rw [if_neg c2] at H; have c2b0 : decide (x9_1 < (l0.length : Int)) = false := decide_eq_false c2; clear c2; obtain rfl := Option.some.inj H; go_wp2; go_ret; exact ⟨_, zG, zF HO_3.out, zA HB.out⟩
def impl_isRegional.f (a0 : Int) : Option (Bool) := if a0 ≥ 127462 then (some (decide (a0 ≤ 127487))) else (some false)
theorem impl_isRegional.calls (a0 : Int) (r : Bool) (w : World) (h : impl_isRegional.f a0 = some r) :
  Calls Tryz.prog 131 #[.int .i64 a0] w fun e w' => e = .returned (.bool r) ∧ Drawn0 w w' := by
 have H : (if a0 ≥ 127462 then (some (decide (a0 ≤ 127487))) else (some false)) = some r := h
 clear h
 by_cases c2 : a0 ≥ 127462
 ·
  rw [if_pos c2] at H
  have c2b0 : decide (127462 ≤ a0) = true := decide_eq_true c2
  clear c2
  obtain rfl := Option.some.inj H
  go_enter Tryz.func131, Tryz.ntmps131
  go_wp2
  go_ret
  exact ⟨zB, zD⟩
 ·
  rw [if_neg c2] at H
  have c2b0 : decide (127462 ≤ a0) = false := decide_eq_false c2
  clear c2
  obtain rfl := Option.some.inj H
  go_enter Tryz.func131, Tryz.ntmps131
  go_wp2
  go_ret
  exact ⟨zB, zD⟩
def impl_joining_joins.j0 : Nat → Int → Int → Bool → Option (Bool)
 | 0, _, _, _ => none
 | k + 1, x0, x1, x8 => if x8 = true then (if x0 = 1 then (some (x1 == 10)) else (some false)) else ((impl_RuneBidi.f x1).bind fun t310 => (if t310 = 9 then (some true) else (if x1 = 8205 then (some true) else ((impl_isRegional.f x1).bind fun t311 => (if t311 = true then (some (x0 == 3)) else (some false))))))
def impl_joining_joins.f (k : Nat) (a0 : Int) (a1 : Int) : Option (Bool) := if a0 = 0 then (some false) else (if a0 = 2 then (impl_joining_joins.j0 k a0 a1 true) else (impl_joining_joins.j0 k a0 a1 (a1 == 10)))
theorem impl_joining_joins.mono_l : ∀ k, (∀ y0 y1 y2, LeO (impl_joining_joins.j0 k y0 y1 y2) (impl_joining_joins.j0 (k + 1) y0 y1 y2))
 | 0 => fun _ _ _ r h => by simp [impl_joining_joins.j0] at h
 | k + 1 => by
  have ih0 := impl_joining_joins.mono_l k
  ·
   intro y0 y1 y2; unfold impl_joining_joins.j0
   repeat' first
   | (with_reducible exact ih0 _ _ _)
   | (with_reducible exact LeO.refl _)
   | (with_reducible exact LeO.none _)
   | (with_reducible refine LeO.ite ?_ ?_)
   | (with_reducible refine LeO.bind ?_ (fun _ => ?_))
   | exact ih0 _ _ _
   | exact LeO.none _
   | refine LeO.ite ?_ ?_
   | refine LeO.bind ?_ (fun _ => ?_)
theorem impl_joining_joins.mono : ∀ a0 a1 k, LeO (impl_joining_joins.f k a0 a1) (impl_joining_joins.f (k + 1) a0 a1) := by
 intro a0 a1 k; have ih0 := impl_joining_joins.mono_l k; unfold impl_joining_joins.f
 repeat' first
   | (with_reducible exact ih0 _ _ _)
   | (with_reducible exact LeO.refl _)
   | (with_reducible exact LeO.none _)
   | (with_reducible refine LeO.ite ?_ ?_)
   | (with_reducible refine LeO.bind ?_ (fun _ => ?_))
   | exact ih0 _ _ _
   | exact LeO.none _
   | refine LeO.ite ?_ ?_
   | refine LeO.bind ?_ (fun _ => ?_)
theorem impl_joining_joins.calls (k : Nat) (a0 : Int) (a1 : Int) (r : Bool) (w : World) (h : impl_joining_joins.f k a0 a1 = some r) :
  Calls Tryz.prog 99 #[.int .i64 a0, .int .i64 a1] w fun e w' => e = .returned (.bool r) ∧ Below w.heap.size w w' := by
 have HB := az (Below.refl w.heap.size w); have H : (if a0 = 0 then (some false) else (if a0 = 2 then (impl_joining_joins.j0 k a0 a1 true) else (impl_joining_joins.j0 k a0 a1 (a1 == 10)))) = some r := h; clear h; by_cases c3 : a0 = 0
 ·
  rw [if_pos c3] at H; have c3b0 : (a0 == 0) = true := beq_iff_eq.mpr c3; have c3b1 : (a0 != 0) = false := bne_eq_false_iff_eq.mpr c3; clear c3; obtain rfl := Option.some.inj H; go_enter Tryz.func99, Tryz.ntmps99; go_wp2; go_ret; exact ⟨zG, zA HB.out⟩
 ·
  rw [if_neg c3] at H; have c3b0 : (a0 == 0) = false := beq_eq_false_iff_ne.mpr c3; have c3b1 : (a0 != 0) = true := bne_iff_ne.mpr c3; have HC4 := az H; clear H; go_enter Tryz.func99, Tryz.ntmps99; go_upto_region 3 with (fail)
  go_cut [8] (fun v8 wc => ∃ (kq : Nat) (x8_3 : Bool), v8 = .bool x8_3 ∧ Aside0 (impl_joining_joins.j0 kq a0 a1 x8_3 = some r) ∧ Aside0 (kq ≤ k) ∧ Aside0 (Below w.heap.size w wc))
  case first =>
   have H := HC4.out; clear HC4; by_cases c5 : a0 = 2
   ·
    rw [if_pos c5] at H; have c5b0 : (a0 == 2) = true := beq_iff_eq.mpr c5; have c5b1 : (a0 != 2) = false := bne_eq_false_iff_eq.mpr c5; clear c5; (first | rw [c5b0] | (simp only [i64_w, i32_w]; rw [c5b0]) | skip); have H' := az H; clear H; go_wp2; go_meet
    case rel => exact ⟨_, (true), zB, H', ⟨zI⟩, ⟨zA HB.out⟩⟩
   ·
    rw [if_neg c5] at H; have c5b0 : (a0 == 2) = false := beq_eq_false_iff_ne.mpr c5; have c5b1 : (a0 != 2) = true := bne_iff_ne.mpr c5; (first | rw [c5b0] | (simp only [i64_w, i32_w]; rw [c5b0]) | skip); have H' := az H; clear H; go_wp2; go_meet
    case rel => exact ⟨_, ((a1 == 10)), zB, H', ⟨zI⟩, ⟨zA HB.out⟩⟩
  case rest =>
   clear HC4; (try clear p2); (try clear c3); (try clear c3b0); (try clear c3b1); (try clear c5); (try clear c5b0); (try clear c5b1); obtain ⟨kq, x8_3, rfl, HA, HJ3, HB⟩ := hcut
   cases kq with
   | zero => exact absurd HA.out (by simp [impl_joining_joins.j0])
   | succ kj3 =>
    have H := HA.out; clear HA; simp only [impl_joining_joins.j0] at H; by_cases c6 : x8_3 = true
    ·
     subst c6; have H1 : (if a0 = 1 then (some (a1 == 10)) else (some false)) = some r := by rw [if_pos rfl] at H; exact H
     clear H; have H := H1; clear H1; by_cases c7 : a0 = 1
     ·
      rw [if_pos c7] at H; have c7b0 : (a0 == 1) = true := beq_iff_eq.mpr c7; have c7b1 : (a0 != 1) = false := bne_eq_false_iff_eq.mpr c7; clear c7; obtain rfl := Option.some.inj H; go_wp2; go_ret; exact ⟨zG, zA HB.out⟩
     ·
      rw [if_neg c7] at H; have c7b0 : (a0 == 1) = false := beq_eq_false_iff_ne.mpr c7; have c7b1 : (a0 != 1) = true := bne_iff_ne.mpr c7; obtain rfl := Option.some.inj H; go_wp2; go_ret; exact ⟨zG, zA HB.out⟩
    ·
     replace c6 := Bool.eq_false_iff.mpr c6; subst c6; have H1 : ((impl_RuneBidi.f a1).bind fun t310 => (if t310 = 9 then (some true) else (if a1 = 8205 then (some true) else ((impl_isRegional.f a1).bind fun t311 => (if t311 = true then (some (a0 == 3)) else (some false)))))) = some r := by rw [if_neg (show ¬ (false = true) by decide)] at H; exact H
     clear H; have H := H1; clear H1; replace H := Option.bind_eq_some_iff.mp H; obtain ⟨t310, A80, H⟩ := H; replace H : (if t310 = 9 then (some true) else (if a1 = 8205 then (some true) else ((impl_isRegional.f a1).bind fun t311 => (if t311 = true then (some (a0 == 3)) else (some false))))) = some r := H; have A8 := az A80; clear A80; by_cases c9 : t310 = 9
     ·
      rw [if_pos c9] at H; have c9b0 : (t310 == 9) = true := beq_iff_eq.mpr c9; have c9b1 : (t310 != 9) = false := bne_eq_false_iff_eq.mpr c9; clear c9; obtain rfl := Option.some.inj H; go_wp2_with (first | ((with_reducible refine gate_callee (f := 115) rfl ?_); refine goesL_ (some 23) rfl rfl Tryz.func115 (by kernel_rfl) rfl #[.int .i64 a1] rfl zC ?_; (with_reducible refine (impl_RuneBidi.calls a1 t310 _ A8.out).mono ?_); rintro e w10 ⟨rfl, hb⟩; refine ⟨_, rfl, ?_⟩; have n0_ := az (below_step (zA HB.out) hb); clear HB; have HB := n0_; clear n0_; (try clear hb); (try clear hb2); (try clear hk); (try clear hi))); go_ret; exact ⟨zG, zA HB.out⟩
     ·
      rw [if_neg c9] at H; have c9b0 : (t310 == 9) = false := beq_eq_false_iff_ne.mpr c9; have c9b1 : (t310 != 9) = true := bne_iff_ne.mpr c9; by_cases c11 : a1 = 8205
      ·
       rw [if_pos c11] at H; have c11b0 : (a1 == 8205) = true := beq_iff_eq.mpr c11; have c11b1 : (a1 != 8205) = false := bne_eq_false_iff_eq.mpr c11; clear c11; obtain rfl := Option.some.inj H; go_wp2_with (first | ((with_reducible refine gate_callee (f := 115) rfl ?_); refine goesL_ (some 23) rfl rfl Tryz.func115 (by kernel_rfl) rfl #[.int .i64 a1] rfl zC ?_; (with_reducible refine (impl_RuneBidi.calls a1 t310 _ A8.out).mono ?_); rintro e w12 ⟨rfl, hb⟩; refine ⟨_, rfl, ?_⟩; have n0_ := az (below_step (zA HB.out) hb); clear HB; have HB := n0_; clear n0_; (try clear hb); (try clear hb2); (try clear hk); (try clear hi))); go_ret; exact ⟨zG, zA HB.out⟩
      ·
       rw [if_neg c11] at H; have c11b0 : (a1 == 8205) = false := beq_eq_false_iff_ne.mpr c11; have c11b1 : (a1 != 8205) = true := bne_iff_ne.mpr c11; replace H := Option.bind_eq_some_iff.mp H; obtain ⟨t311, A130, H⟩ := H; replace H : (if t311 = true then (some (a0 == 3)) else (some false)) = some r := H; have A13 := az A130; clear A130; by_cases c14 : t311 = true
       ·
        subst c14; have H1 : (some (a0 == 3)) = some r := by rw [if_pos rfl] at H; exact H
        clear H; have H := H1; clear H1; obtain rfl := Option.some.inj H; go_wp2_with (first | ((with_reducible refine gate_callee (f := 115) rfl ?_); refine goesL_ (some 23) rfl rfl Tryz.func115 (by kernel_rfl) rfl #[.int .i64 a1] rfl zC ?_; (with_reducible refine (impl_RuneBidi.calls a1 t310 _ A8.out).mono ?_); rintro e w15 ⟨rfl, hb⟩; refine ⟨_, rfl, ?_⟩; have n0_ := az (below_step (zA HB.out) hb); clear HB; have HB := n0_; clear n0_; (try clear hb); (try clear hb2); (try clear hk); (try clear hi)) | ((with_reducible refine gate_callee (f := 131) rfl ?_); refine goesL_ (some 30) rfl rfl Tryz.func131 (by kernel_rfl) rfl #[.int .i64 a1] rfl zC ?_; (with_reducible refine (impl_isRegional.calls a1 true _ A13.out).mono ?_); rintro e w' ⟨rfl, ⟨nd, rfl⟩⟩; refine ⟨_, rfl, ?_⟩)); go_ret; exact ⟨zG, zA HB.out⟩
       ·
        replace c14 := Bool.eq_false_iff.mpr c14; subst c14; have H1 : (some false) = some r := by rw [if_neg (show ¬ (false = true) by decide)] at H; exact H
        clear H; have H := H1; clear H1; obtain rfl := Option.some.inj H; go_wp2_with (first | ((with_reducible refine gate_callee (f := 115) rfl ?_); refine goesL_ (some 23) rfl rfl Tryz.func115 (by kernel_rfl) rfl #[.int .i64 a1] rfl zC ?_; (with_reducible refine (impl_RuneBidi.calls a1 t310 _ A8.out).mono ?_); rintro e w16 ⟨rfl, hb⟩; refine ⟨_, rfl, ?_⟩; have n0_ := az (below_step (zA HB.out) hb); clear HB; have HB := n0_; clear n0_; (try clear hb); (try clear hb2); (try clear hk); (try clear hi)) | ((with_reducible refine gate_callee (f := 131) rfl ?_); refine goesL_ (some 30) rfl rfl Tryz.func131 (by kernel_rfl) rfl #[.int .i64 a1] rfl zC ?_; (with_reducible refine (impl_isRegional.calls a1 false _ A13.out).mono ?_); rintro e w' ⟨rfl, ⟨nd, rfl⟩⟩; refine ⟨_, rfl, ?_⟩)); go_ret; exact ⟨zG, zA HB.out⟩
def impl_joining_next.j0 : Nat → Int → Bool → Option (Int)
 | 0, _, _ => none
 | k + 1, x1, x11 => if x11 = true then (some 4) else ((impl_isRegional.f x1).bind fun t313 => (if t313 = true then (some 3) else (some 5)))
def impl_joining_next.f (k : Nat) (a0 : Int) (a1 : Int) : Option (Int) := if a1 = 13 then (some 1) else (if a1 = 10 then (some 2) else ((impl_isRegional.f a1).bind fun t312 => (if t312 = true then (impl_joining_next.j0 k a1 (a0 == 3)) else (impl_joining_next.j0 k a1 false))))
theorem impl_joining_next.mono_l : ∀ k, (∀ y0 y1, LeO (impl_joining_next.j0 k y0 y1) (impl_joining_next.j0 (k + 1) y0 y1))
 | 0 => fun _ _ r h => by simp [impl_joining_next.j0] at h
 | k + 1 => by
  have ih0 := impl_joining_next.mono_l k
  ·
   intro y0 y1; unfold impl_joining_next.j0
   repeat' first
   | (with_reducible exact ih0 _ _)
   | (with_reducible exact LeO.refl _)
   | (with_reducible exact LeO.none _)
   | (with_reducible refine LeO.ite ?_ ?_)
   | (with_reducible refine LeO.bind ?_ (fun _ => ?_))
   | exact ih0 _ _
   | exact LeO.none _
   | refine LeO.ite ?_ ?_
   | refine LeO.bind ?_ (fun _ => ?_)
theorem impl_joining_next.mono : ∀ a0 a1 k, LeO (impl_joining_next.f k a0 a1) (impl_joining_next.f (k + 1) a0 a1) := by
 intro a0 a1 k; have ih0 := impl_joining_next.mono_l k; unfold impl_joining_next.f
 repeat' first
   | (with_reducible exact ih0 _ _)
   | (with_reducible exact LeO.refl _)
   | (with_reducible exact LeO.none _)
   | (with_reducible refine LeO.ite ?_ ?_)
   | (with_reducible refine LeO.bind ?_ (fun _ => ?_))
   | exact ih0 _ _
   | exact LeO.none _
   | refine LeO.ite ?_ ?_
   | refine LeO.bind ?_ (fun _ => ?_)
theorem impl_joining_next.calls (k : Nat) (a0 : Int) (a1 : Int) (r : Int) (w : World) (h : impl_joining_next.f k a0 a1 = some r) :
  Calls Tryz.prog 100 #[.int .i64 a0, .int .i64 a1] w fun e w' => e = .returned (.int .i64 r) ∧ Drawn0 w w' := by
 have H : (if a1 = 13 then (some 1) else (if a1 = 10 then (some 2) else ((impl_isRegional.f a1).bind fun t312 => (if t312 = true then (impl_joining_next.j0 k a1 (a0 == 3)) else (impl_joining_next.j0 k a1 false))))) = some r := h; clear h; by_cases c3 : a1 = 13
 ·
  rw [if_pos c3] at H; have c3b0 : (a1 == 13) = true := beq_iff_eq.mpr c3; have c3b1 : (a1 != 13) = false := bne_eq_false_iff_eq.mpr c3; clear c3; obtain rfl := Option.some.inj H; go_enter Tryz.func100, Tryz.ntmps100; go_wp2; go_ret; exact ⟨zB, zD⟩
 ·
  rw [if_neg c3] at H; have c3b0 : (a1 == 13) = false := beq_eq_false_iff_ne.mpr c3; have c3b1 : (a1 != 13) = true := bne_iff_ne.mpr c3; by_cases c4 : a1 = 10
  ·
   rw [if_pos c4] at H; have c4b0 : (a1 == 10) = true := beq_iff_eq.mpr c4; have c4b1 : (a1 != 10) = false := bne_eq_false_iff_eq.mpr c4; clear c4; obtain rfl := Option.some.inj H; go_enter Tryz.func100, Tryz.ntmps100; go_wp2; go_ret; exact ⟨zB, zD⟩
  ·
   rw [if_neg c4] at H; have c4b0 : (a1 == 10) = false := beq_eq_false_iff_ne.mpr c4; have c4b1 : (a1 != 10) = true := bne_iff_ne.mpr c4; have HC5 := az H; clear H; go_enter Tryz.func100, Tryz.ntmps100; go_upto_region 5 with (fail)
   go_cut [11] (fun v11 wc => ∃ (kq : Nat) (x11_4 : Bool), v11 = .bool x11_4 ∧ Aside0 (impl_joining_next.j0 kq a1 x11_4 = some r) ∧ Aside0 (kq ≤ k) ∧ Drawn0 w wc)
   case first =>
    have H := HC5.out; clear HC5; replace H := Option.bind_eq_some_iff.mp H; obtain ⟨t312, A60, H⟩ := H; replace H : (if t312 = true then (impl_joining_next.j0 k a1 (a0 == 3)) else (impl_joining_next.j0 k a1 false)) = some r := H; have A6 := az A60; clear A60; by_cases c7 : t312 = true
    ·
     subst c7; have H1 : (impl_joining_next.j0 k a1 (a0 == 3)) = some r := by rw [if_pos rfl] at H; exact H
     clear H; have H := H1; clear H1; have H' := az H; clear H; go_wp2_with (first | ((with_reducible refine gate_callee (f := 131) rfl ?_); refine goesL_ (some 13) rfl rfl Tryz.func131 (by kernel_rfl) rfl #[.int .i64 a1] rfl zC ?_; (with_reducible refine (impl_isRegional.calls a1 true _ A6.out).mono ?_); rintro e w' ⟨rfl, ⟨nd, rfl⟩⟩; refine ⟨_, rfl, ?_⟩)); go_meet
     case rel => exact ⟨_, ((a0 == 3)), zB, H', ⟨zI⟩, zD⟩
    ·
     replace c7 := Bool.eq_false_iff.mpr c7; subst c7; have H1 : (impl_joining_next.j0 k a1 false) = some r := by rw [if_neg (show ¬ (false = true) by decide)] at H; exact H
     clear H; have H := H1; clear H1; have H' := az H; clear H; go_wp2_with (first | ((with_reducible refine gate_callee (f := 131) rfl ?_); refine goesL_ (some 13) rfl rfl Tryz.func131 (by kernel_rfl) rfl #[.int .i64 a1] rfl zC ?_; (with_reducible refine (impl_isRegional.calls a1 false _ A6.out).mono ?_); rintro e w' ⟨rfl, ⟨nd, rfl⟩⟩; refine ⟨_, rfl, ?_⟩)); go_meet
     case rel => exact ⟨_, (false), zB, H', ⟨zI⟩, zD⟩
   case rest =>
    clear HC5; (try clear c1); (try clear p2); (try clear c3); (try clear c3b0); (try clear c3b1); (try clear c4); (try clear c4b0); (try clear c4b1); (try clear c7); obtain ⟨kq, x11_4, rfl, HA, HJ4, ⟨mc4, rfl⟩⟩ := hcut
    cases kq with
    | zero => exact absurd HA.out (by simp [impl_joining_next.j0])
    | succ kj4 =>
     have H := HA.out; clear HA; simp only [impl_joining_next.j0] at H; by_cases c8 : x11_4 = true
     ·
      subst c8; have H1 : (some 4) = some r := by rw [if_pos rfl] at H; exact H
      clear H; have H := H1; clear H1; obtain rfl := Option.some.inj H; go_wp2; go_ret; exact ⟨zB, zD⟩
     ·
      replace c8 := Bool.eq_false_iff.mpr c8; subst c8; have H1 : ((impl_isRegional.f a1).bind fun t313 => (if t313 = true then (some 3) else (some 5))) = some r := by rw [if_neg (show ¬ (false = true) by decide)] at H; exact H
      clear H; have H := H1; clear H1; replace H := Option.bind_eq_some_iff.mp H; obtain ⟨t313, A90, H⟩ := H; replace H : (if t313 = true then (some 3) else (some 5)) = some r := H; have A9 := az A90; clear A90; by_cases c10 : t313 = true
      ·
       subst c10; have H1 : (some 3) = some r := by rw [if_pos rfl] at H; exact H
       clear H; have H := H1; clear H1; obtain rfl := Option.some.inj H; go_wp2_with (first | ((with_reducible refine gate_callee (f := 131) rfl ?_); refine goesL_ (some 20) rfl rfl Tryz.func131 (by kernel_rfl) rfl #[.int .i64 a1] rfl zC ?_; (with_reducible refine (impl_isRegional.calls a1 true _ A9.out).mono ?_); rintro e w' ⟨rfl, ⟨nd, rfl⟩⟩; refine ⟨_, rfl, ?_⟩)); go_ret; exact ⟨zB, zD⟩
      ·
       replace c10 := Bool.eq_false_iff.mpr c10; subst c10; have H1 : (some 5) = some r := by rw [if_neg (show ¬ (false = true) by decide)] at H; exact H
       clear H; have H := H1; clear H1; obtain rfl := Option.some.inj H; go_wp2_with (first | ((with_reducible refine gate_callee (f := 131) rfl ?_); refine goesL_ (some 20) rfl rfl Tryz.func131 (by kernel_rfl) rfl #[.int .i64 a1] rfl zC ?_; (with_reducible refine (impl_isRegional.calls a1 false _ A9.out).mono ?_); rintro e w' ⟨rfl, ⟨nd, rfl⟩⟩; refine ⟨_, rfl, ?_⟩)); go_ret; exact ⟨zB, zD⟩
def impl_joined.l0 : Nat → List Bool → Int → List Int → Int → Int → Option (List Bool)
 | 0, _, _, _, _, _ => none
 | k + 1, x3, x4, x7, x8, x9 => if x9 < x8 then (if 0 ≤ x9 then (if x9 < (x7.length : Int) then ((impl_joining_joins.f k x4 (rd x7 x9)).bind fun t315 => (if x3.length < 140737488355328 then ((impl_joining_next.f k x4 (rd x7 x9)).bind fun t319 => (impl_joined.l0 k (x3 ++ [t315]) t319 x7 x8 (wrap64 (x9 + 1)))) else (none))) else (none)) else (none)) else (some x3)
def impl_joined.f (k : Nat) (l0 : List Int) : Option (List Bool) := impl_joined.l0 k ([] : List Bool) 0 l0 (l0.length : Int) 0
theorem impl_joined.mono_l : ∀ k, (∀ y0 y1 y2 y3 y4, LeO (impl_joined.l0 k y0 y1 y2 y3 y4) (impl_joined.l0 (k + 1) y0 y1 y2 y3 y4))
 | 0 => fun _ _ _ _ _ r h => by simp [impl_joined.l0] at h
 | k + 1 => by
  have ih0 := impl_joined.mono_l k
  ·
   intro y0 y1 y2 y3 y4; unfold impl_joined.l0
   repeat' first
   | (with_reducible exact ih0 _ _ _ _ _)
   | (with_reducible exact impl_joining_joins.mono _ _ _)
   | (with_reducible exact impl_joining_next.mono _ _ _)
   | (with_reducible exact LeO.refl _)
   | (with_reducible exact LeO.none _)
   | (with_reducible refine LeO.ite ?_ ?_)
   | (with_reducible refine LeO.bind ?_ (fun _ => ?_))
   | exact ih0 _ _ _ _ _
   | exact impl_joining_joins.mono _ _ _
   | exact impl_joining_next.mono _ _ _
   | exact LeO.none _
   | refine LeO.ite ?_ ?_
   | refine LeO.bind ?_ (fun _ => ?_)
theorem impl_joined.mono : ∀ a0 k, LeO (impl_joined.f k a0) (impl_joined.f (k + 1) a0) := by
 intro a0 k; have ih0 := impl_joined.mono_l k; unfold impl_joined.f
 repeat' first
   | (with_reducible exact ih0 _ _ _ _ _)
   | (with_reducible exact impl_joining_joins.mono _ _ _)
   | (with_reducible exact impl_joining_next.mono _ _ _)
   | (with_reducible exact LeO.refl _)
   | (with_reducible exact LeO.none _)
   | (with_reducible refine LeO.ite ?_ ?_)
   | (with_reducible refine LeO.bind ?_ (fun _ => ?_))
   | exact ih0 _ _ _ _ _
   | exact impl_joining_joins.mono _ _ _
   | exact impl_joining_next.mono _ _ _
   | exact LeO.none _
   | refine LeO.ite ?_ ?_
   | refine LeO.bind ?_ (fun _ => ?_)
theorem impl_joined.calls (k : Nat) (A0 : Option Addr) (c0 : Nat) (l0 : List Int) (r : List Bool) (w : World) (hr0 : Kd.C (Kd.int .i64) w A0 l0.length l0) (hc0 : l0.length ≤ c0) (h : impl_joined.f k l0 = some r) :
  Calls Tryz.prog 79 #[.slice A0 l0.length c0] w fun e w' => ∃ v0_ : Value, e = .returned (v0_) ∧ Kd.R Kd.bool 4 w' w.heap.size (fun _ => True) v0_ r ∧ Below w.heap.size w w' := by
 have HR0 := az hr0; have HC0 := az hc0; clear hr0 hc0; have HB := az (Below.refl w.heap.size w); have H : (impl_joined.l0 k ([] : List Bool) 0 l0 (l0.length : Int) 0) = some r := h; clear h; have H' := az H; clear H; go_enter Tryz.func79, Tryz.ntmps79; go_wp2; go_loopg [3, 4, 9] k (fun kq v3 v4 v9 w' => ∃ (x3_1 : List Bool) (x4_1 : Int) (x9_1 : Int), v4 = .int .i64 x4_1 ∧ v9 = .int .i64 x9_1 ∧ Aside0 (impl_joined.l0 kq x3_1 x4_1 l0 (l0.length : Int) x9_1 = some r) ∧ Aside0 (kq ≤ k) ∧ Aside0 (Kd.R Kd.bool 4 w' w.heap.size (fun _ => True) v3 x3_1) ∧ Aside0 (Below w.heap.size w w'))
 case atStart => exact ⟨(([] : List Bool)), (0), (0), zB, zB, H', ⟨Nat.le_refl _⟩, ⟨zS⟩, ⟨zA HB.out⟩⟩
 case round =>
  clear H'; obtain ⟨x3_1, x4_1, x9_1, rfl, rfl, HA, HK1, HO_3, HB⟩ := hrel
  cases gk with
  | zero => exact absurd HA.out (by simp [impl_joined.l0])
  | succ k1 =>
   have H := HA.out; clear HA; simp only [impl_joined.l0] at H; by_cases c2 : x9_1 < (l0.length : Int)
   ·
    rw [if_pos c2] at H; have c2b0 : decide (x9_1 < (l0.length : Int)) = true := decide_eq_true c2; clear c2; by_cases c3 : 0 ≤ x9_1
    ·
     rw [if_pos c3] at H; have c3b0 : decide (0 ≤ x9_1) = true := decide_eq_true c3; clear c3; by_cases c4 : x9_1 < (l0.length : Int)
     ·
      rw [if_pos c4] at H; have c4b0 : decide (x9_1 < (l0.length : Int)) = true := decide_eq_true c4; clear c4; replace H := Option.bind_eq_some_iff.mp H; obtain ⟨t315, A50, H⟩ := H; replace H : (if x3_1.length < 140737488355328 then ((impl_joining_next.f k1 x4_1 (rd l0 x9_1)).bind fun t319 => (impl_joined.l0 k1 (x3_1 ++ [t315]) t319 l0 (l0.length : Int) (wrap64 (x9_1 + 1)))) else (none)) = some r := H; have A5 := az A50; clear A50; by_cases c6 : x3_1.length < 140737488355328
      ·
       rw [if_pos c6] at H; have LMc6 := az c6; clear c6; obtain ⟨y316, hy316⟩ : ∃ y_ : List Bool, y_ = (x3_1 ++ [t315]) := ⟨_, rfl⟩; replace H : ((impl_joining_next.f k1 x4_1 (rd l0 x9_1)).bind fun t319 => (impl_joined.l0 k1 y316 t319 l0 (l0.length : Int) (wrap64 (x9_1 + 1)))) = some r := by first | (rw [hy316]; with_reducible exact H) | (have H2_ := (Option.bind_some _ _).symm.trans H; rw [hy316]; with_reducible exact H2_) | (have H2_ := (Option.bind_some _ _).symm.trans H; with_reducible exact H2_) | with_reducible exact H | (rw [hy316]; exact H) | exact H
       have Ny316 := az hy316; clear hy316; replace H := Option.bind_eq_some_iff.mp H; obtain ⟨t319, A70, H⟩ := H; replace H : (impl_joined.l0 k1 y316 t319 l0 (l0.length : Int) (wrap64 (x9_1 + 1))) = some r := H; have A7 := az A70; clear A70; have H' := az H; clear H; have p314 : 0 ≤ (x9_1 : Int) := of_decide_eq_true (by assumption); have q314 : x9_1 < (l0.length : Int) := of_decide_eq_true (by assumption); obtain ⟨ad314, e314, hx314_0⟩ := Kd.at_int HR0.out x9_1 p314 q314
       cases e314
       replace hx314_0 := (HB.out.cell (World.block_lt_of_cell? w _ hx314_0)).trans hx314_0; replace p314 := eq_true p314; replace q314 := eq_true q314; go_wp2_with (first | ((with_reducible refine gate_callee (f := 99) rfl ?_); refine goesL_ (some 16) rfl rfl Tryz.func99 (by kernel_rfl) rfl #[.int .i64 x4_1, .int .i64 (rd l0 x9_1)] rfl zC ?_; (with_reducible refine (impl_joining_joins.calls k1 x4_1 (rd l0 x9_1) t315 _ A5.out).mono ?_); rintro e w8 ⟨rfl, hb⟩; refine ⟨_, rfl, ?_⟩; have n0_ := az (Kd.R_below (zF HO_3.out) hb); have n1_ := az (below_step (zA HB.out) hb); clear HO_3; clear HB; have HO_3 := n0_; have HB := n1_; clear n0_ n1_; (try clear hb); (try clear hb2); (try clear hk); (try clear hi)) | ((with_reducible refine gate_builtin (b := .append) (xs := #[.tmp 13, .tmp 17]) rfl ?_); at_builtin; refine Kd.R_append Kd.bool (w0 := w) w.heap.size rfl (.tmp 13) (.tmp 17) 89 4 (.bool false) 1 rfl Tryz.underlying89 info4 rfl (by decide) (by omega) u3 x3_1 t315 [.bool t315] (fun _ => True) (fun _ => False) rfl rfl ?aP (fun _ hk => hk.elim) ?aF ?aO ?aB ?aS ?aL ?_; (case aP => exact rfl); (case aB => exact (zA HB.out)); (case aF => exact (fun _ _ => trivial)); (case aO => exact (zF HO_3.out)); (case aS => exact (below_size (zA HB.out))); (case aL => have := LMc6.out; omega); intro v317 w9 ho hb hg hat; rw [← Ny316.out] at ho; have n0_ := az (hb); have n1_ := az (ho); clear HB; clear HO_3; have HB := n0_; have HO318 := n1_; clear n0_ n1_; clear ho hb hg hat) | ((with_reducible refine gate_callee (f := 100) rfl ?_); refine goesL_ (some 21) rfl rfl Tryz.func100 (by kernel_rfl) rfl #[.int .i64 x4_1, .int .i64 (rd l0 x9_1)] rfl zC ?_; (with_reducible refine (impl_joining_next.calls k1 x4_1 (rd l0 x9_1) t319 _ A7.out).mono ?_); rintro e w' ⟨rfl, ⟨nd, rfl⟩⟩; refine ⟨_, rfl, ?_⟩)); go_roundg k1
       case measure => have := HK1.out; omega
       case rel => exact ⟨(y316), (t319), (wrap64 (x9_1 + 1)), zB, zB, H', ⟨zE HK1.out⟩, ⟨zF HO318.out⟩, ⟨zA HB.out⟩⟩
      ·
       rw [if_neg c6] at H; exact absurd H (by simp)
     ·
      rw [if_neg c4] at H; exact absurd H (by simp)
    ·
     rw [if_neg c3] at H; exact absurd H (by simp)
   ·
    rw [if_neg c2] at H; have c2b0 : decide (x9_1 < (l0.length : Int)) = false := decide_eq_false c2; clear c2; obtain rfl := Option.some.inj H; go_wp2; go_ret; exact ⟨_, zG, zF HO_3.out, zA HB.out⟩
def inL (l : List Int) (x : Int) : Bool := l.contains x
def wordB (n : Int) : Bool := inL [1, 2] n
def ansV : Nat → Int
 | 0 => 2
 | 1 => 0
 | 2 => 1
 | 3 => 0
 | 4 => 0
 | 5 => 0
 | 6 => 1
 | 7 => 0
 | 8 => 0
 | _ => 1
def isV (a b s : Int) : Nat → Bool
 | 0 => a == 4
 | 1 => inL [4, 3, 6] b
 | 2 => s == 6
 | 3 => a == 5 || (b == 5 && !(inL [3, 14, 12] a))
 | 4 => (inL [9, 10, 13] b && !(a == 3)) || (inL [9, 10] b && !(s == 0))
 | 5 => s == 8
 | 6 => a == 3
 | 7 => a == 11 || inL [11, 14, 12] b
 | 8 => (wordB a && wordB b) || (b == 2 && inL [12, 13] a) || (a == 13 && b == 1) || ((wordB a && b == 8) || (a == 9 && wordB b))
 | _ => true
theorem one_l (x : Int) (l : List Int) (hn : l.length ≤ 1000) : ∀ (d k i : Nat), l.length - i = d → i ≤ l.length → d < k → impl_oneOf.l0 k x l (l.length : Int) (i : Int) = some ((l.drop i).contains x)
 | 0, k, i, hd, hi, hk => by
  obtain ⟨k, rfl⟩ : ∃ m, k = m + 1 := ⟨k - 1, by omega⟩
  rw [impl_oneOf.l0, if_neg (by omega), List.drop_eq_nil_of_le (by omega)]
  rfl
 | d + 1, k, i, hd, hi, hk => by
  obtain ⟨k, rfl⟩ : ∃ m, k = m + 1 := ⟨k - 1, by omega⟩
  have ih := one_l x l hn d k (i + 1) (by omega) (by omega) (by omega)
  have hlt : i < l.length := by omega
  rw [impl_oneOf.l0, if_pos (by omega), if_pos (by omega), if_pos (by omega), List.drop_eq_getElem_cons hlt]
  have e : rd l (i : Int) = l[i] := by simp [rd, List.getD_eq_getElem?_getD, hlt]
  have w : wrap64 ((i : Int) + 1) = ((i + 1 : Nat) : Int) := by unfold wrap64; omega
  rw [e, w, ih, List.contains_cons]
  by_cases h : x = l[i]
  · rw [if_pos h, beq_iff_eq.mpr h, Bool.true_or]
  · rw [if_neg h, beq_eq_false_iff_ne.mpr h, Bool.false_or]
theorem one_f (k : Nat) (x : Int) (l : List Int) (hn : l.length ≤ 1000) (hk : l.length < k) : impl_oneOf.f k x l = some (l.contains x) := by
 have h := one_l x l hn l.length k 0 (by omega) (by omega) hk
 rw [List.drop_zero] at h
 exact h
theorem oneOf_calls (a0 : Int) (A1 : Option Addr) (n c1 : Nat) (l1 : List Int) (w : World) (hr1 : Kd.C (Kd.int .i64) w A1 n l1) (hc1 : n ≤ c1) (hn : n ≤ 1000) :
  Calls Tryz.prog 104 #[.int .i64 a0, .slice A1 n c1] w fun e w' => e = .returned (.bool (inL l1 a0)) ∧ Drawn0 w w' := by
 obtain rfl : l1.length = n := hr1.1
 exact impl_oneOf.calls 1001 a0 A1 c1 l1 _ w hr1 hc1 (one_f 1001 a0 l1 hn (by omega))
theorem litC (xs : List Int) {W : World} {n g : Nat} (a : Array Value) (hg : W.heap.size = g) (ha : a = (xs.map fun x => .int .i64 x).toArray := by rfl) (hn : xs.length = n := by rfl) (hm : n ≤ 1000 := by decide) : Kd.C (Kd.int .i64) (W.alloc (.cells a 3)) (some ⟨g, 0, none⟩) n xs := by
 subst ha
 subst hg
 subst hn
 refine Kd.C_of_reads (d := (0 : Int)) (h1 := fun _ => rfl) ⟨rfl, by omega, fun _ => ⟨_, rfl, fun j hj => ?_⟩⟩
 have h := blk_cell (blk_new W (.cells (xs.map fun x => .int .i64 x).toArray 3)) j
 rw [add_plain, h]
 simp [List.getD_eq_getElem?_getD, hj]
theorem rule0_calls (a b s : Int) (w : World) : Calls Tryz.prog 105 #[.agg #[.int .i64 a, .int .i64 b, .int .i64 s]] w fun e w' => e = .returned (.bool (isV a b s 0)) ∧ Below w.heap.size w w' := by
 have HB := az (below_alloc (Below.refl w.heap.size w) (.cells #[.int .i64 a, .int .i64 b, .int .i64 s] 96))
 go_enter Tryz.func105, Tryz.ntmps105
 go_wp2
 go_ret
 exact ⟨rfl, HB.out⟩
theorem rule1_calls (a b s : Int) (w : World) : Calls Tryz.prog 106 #[.agg #[.int .i64 a, .int .i64 b, .int .i64 s]] w fun e w' => e = .returned (.bool (isV a b s 1)) ∧ Below w.heap.size w w' := by
 have HB := az (below_alloc (Below.refl w.heap.size w) (.cells #[.int .i64 a, .int .i64 b, .int .i64 s] 96))
 have HE2 := az (show isV a b s 1 = inL [4, 3, 6] b by rfl)
 go_enter Tryz.func106, Tryz.ntmps106
 go_wp2_with (first | (go_at_call 104; go_must (refine (oneOf_calls b _ _ _ [4, 3, 6] _ (litC [4, 3, 6] #[.int .i64 4, .int .i64 3, .int .i64 6] ?hg) (Nat.le_refl _) (by decide)).mono ?_); (case hg => simp); rintro e w' ⟨rfl, ⟨nd1, rfl⟩⟩))
 go_ret
 exact ⟨by rw [HE2.out]; first | done | rfl, pw_below_drewN (below_alloc HB.out _) _⟩
theorem rule2_calls (a b s : Int) (w : World) : Calls Tryz.prog 107 #[.agg #[.int .i64 a, .int .i64 b, .int .i64 s]] w fun e w' => e = .returned (.bool (isV a b s 2)) ∧ Below w.heap.size w w' := by
 have HB := az (below_alloc (Below.refl w.heap.size w) (.cells #[.int .i64 a, .int .i64 b, .int .i64 s] 96))
 go_enter Tryz.func107, Tryz.ntmps107
 go_wp2
 go_ret
 exact ⟨rfl, HB.out⟩
theorem rule3_calls (a b s : Int) (w : World) : Calls Tryz.prog 108 #[.agg #[.int .i64 a, .int .i64 b, .int .i64 s]] w fun e w' => e = .returned (.bool (isV a b s 3)) ∧ Below w.heap.size w w' := by
 have HB := az (below_alloc (Below.refl w.heap.size w) (.cells #[.int .i64 a, .int .i64 b, .int .i64 s] 96))
 by_cases h5 : a = 5
 ·
  have b5 : (a == 5) = true := beq_iff_eq.mpr h5
  have HE2 := az (show isV a b s 3 = true by unfold isV; rw [b5]; rfl)
  clear h5
  go_enter Tryz.func108, Tryz.ntmps108
  go_wp2
  go_ret
  exact ⟨by rw [HE2.out]; first | done | rfl, HB.out⟩
 ·
  have b5 : (a == 5) = false := beq_eq_false_iff_ne.mpr h5
  clear h5
  by_cases h6 : b = 5
  ·
   have b6 : (b == 5) = true := beq_iff_eq.mpr h6
   have HE2 := az (show isV a b s 3 = !(inL [3, 14, 12] a) by unfold isV; rw [b5, b6]; rfl)
   clear h6
   go_enter Tryz.func108, Tryz.ntmps108
   go_wp2_with (first | (go_at_call 104; go_must (refine (oneOf_calls a _ _ _ [3, 14, 12] _ (litC [3, 14, 12] #[.int .i64 3, .int .i64 14, .int .i64 12] ?hg) (Nat.le_refl _) (by decide)).mono ?_); (case hg => simp); rintro e w' ⟨rfl, ⟨nd1, rfl⟩⟩))
   go_ret
   exact ⟨by rw [HE2.out]; first | done | rfl, pw_below_drewN (below_alloc HB.out _) _⟩
  ·
   have b6 : (b == 5) = false := beq_eq_false_iff_ne.mpr h6
   have HE2 := az (show isV a b s 3 = false by unfold isV; rw [b5, b6]; rfl)
   clear h6
   go_enter Tryz.func108, Tryz.ntmps108
   go_wp2
   go_ret
   exact ⟨by rw [HE2.out]; first | done | rfl, HB.out⟩
theorem rule4_calls (a b s : Int) (w : World) : Calls Tryz.prog 109 #[.agg #[.int .i64 a, .int .i64 b, .int .i64 s]] w fun e w' => e = .returned (.bool (isV a b s 4)) ∧ Below w.heap.size w w' := by
 have HB := az (below_alloc (Below.refl w.heap.size w) (.cells #[.int .i64 a, .int .i64 b, .int .i64 s] 96))
 have L1 := fun (W : World) (g : Nat) (hg : W.heap.size = g) => litC [9, 10, 13] #[.int .i64 9, .int .i64 10, .int .i64 13] hg
 have L2 := fun (W : World) (g : Nat) (hg : W.heap.size = g) => litC [9, 10] #[.int .i64 9, .int .i64 10] hg
 have LT : 3 ≤ 1000 ∧ 2 ≤ 1000 := by decide
 cases q1 : inL [9, 10, 13] b with
 | true =>
  by_cases h3 : a = 3
  ·
   have b3 : (a == 3) = true := beq_iff_eq.mpr h3
   have b3' : (a != 3) = false := by rw [bne, b3]; rfl
   clear h3
   cases q2 : inL [9, 10] b with
   | true =>
    have HE2 := az (show isV a b s 4 = !(s == 0) by unfold isV; rw [q1, q2, b3]; rfl)
    go_enter Tryz.func109, Tryz.ntmps109
    go_wp2_with (first | (go_at_call 104; first | ((with_reducible refine (oneOf_calls b _ 3 3 [9, 10, 13] _ (L1 _ _ ?hg) (Nat.le_refl _) LT.1).mono ?_); (case hg => simp); rintro e w' ⟨rfl, ⟨nd1, rfl⟩⟩; rw [q1]) | ((with_reducible refine (oneOf_calls b _ 2 2 [9, 10] _ (L2 _ _ ?hg) (Nat.le_refl _) LT.2).mono ?_); (case hg => simp); rintro e w' ⟨rfl, ⟨nd2, rfl⟩⟩; rw [q2])))
    go_ret
    exact ⟨by rw [HE2.out]; first | done | rfl, pw_below_drewN (below_alloc (pw_below_drewN (below_alloc HB.out _) _) _) _⟩
   | false =>
    have HE2 := az (show isV a b s 4 = false by unfold isV; rw [q1, q2, b3]; rfl)
    go_enter Tryz.func109, Tryz.ntmps109
    go_wp2_with (first | (go_at_call 104; first | ((with_reducible refine (oneOf_calls b _ 3 3 [9, 10, 13] _ (L1 _ _ ?hg) (Nat.le_refl _) LT.1).mono ?_); (case hg => simp); rintro e w' ⟨rfl, ⟨nd1, rfl⟩⟩; rw [q1]) | ((with_reducible refine (oneOf_calls b _ 2 2 [9, 10] _ (L2 _ _ ?hg) (Nat.le_refl _) LT.2).mono ?_); (case hg => simp); rintro e w' ⟨rfl, ⟨nd2, rfl⟩⟩; rw [q2])))
    go_ret
    exact ⟨by rw [HE2.out]; first | done | rfl, pw_below_drewN (below_alloc (pw_below_drewN (below_alloc HB.out _) _) _) _⟩
  ·
   have b3 : (a == 3) = false := beq_eq_false_iff_ne.mpr h3
   have b3' : (a != 3) = true := by rw [bne, b3]; rfl
   clear h3
   have HE2 := az (show isV a b s 4 = true by unfold isV; rw [q1, b3]; rfl)
   go_enter Tryz.func109, Tryz.ntmps109
   go_wp2_with (first | (go_at_call 104; first | ((with_reducible refine (oneOf_calls b _ 3 3 [9, 10, 13] _ (L1 _ _ ?hg) (Nat.le_refl _) LT.1).mono ?_); (case hg => simp); rintro e w' ⟨rfl, ⟨nd1, rfl⟩⟩; rw [q1])))
   go_ret
   exact ⟨by rw [HE2.out]; first | done | rfl, pw_below_drewN (below_alloc HB.out _) _⟩
 | false =>
  cases q2 : inL [9, 10] b with
  | true =>
   have HE2 := az (show isV a b s 4 = !(s == 0) by unfold isV; rw [q1, q2]; rfl)
   go_enter Tryz.func109, Tryz.ntmps109
   go_wp2_with (first | (go_at_call 104; first | ((with_reducible refine (oneOf_calls b _ 3 3 [9, 10, 13] _ (L1 _ _ ?hg) (Nat.le_refl _) LT.1).mono ?_); (case hg => simp); rintro e w' ⟨rfl, ⟨nd1, rfl⟩⟩; rw [q1]) | ((with_reducible refine (oneOf_calls b _ 2 2 [9, 10] _ (L2 _ _ ?hg) (Nat.le_refl _) LT.2).mono ?_); (case hg => simp); rintro e w' ⟨rfl, ⟨nd2, rfl⟩⟩; rw [q2])))
   go_ret
   exact ⟨by rw [HE2.out]; first | done | rfl, pw_below_drewN (below_alloc (pw_below_drewN (below_alloc HB.out _) _) _) _⟩
  | false =>
   have HE2 := az (show isV a b s 4 = false by unfold isV; rw [q1, q2]; rfl)
   go_enter Tryz.func109, Tryz.ntmps109
   go_wp2_with (first | (go_at_call 104; first | ((with_reducible refine (oneOf_calls b _ 3 3 [9, 10, 13] _ (L1 _ _ ?hg) (Nat.le_refl _) LT.1).mono ?_); (case hg => simp); rintro e w' ⟨rfl, ⟨nd1, rfl⟩⟩; rw [q1]) | ((with_reducible refine (oneOf_calls b _ 2 2 [9, 10] _ (L2 _ _ ?hg) (Nat.le_refl _) LT.2).mono ?_); (case hg => simp); rintro e w' ⟨rfl, ⟨nd2, rfl⟩⟩; rw [q2])))
   go_ret
   exact ⟨by rw [HE2.out]; first | done | rfl, pw_below_drewN (below_alloc (pw_below_drewN (below_alloc HB.out _) _) _) _⟩
theorem rule5_calls (a b s : Int) (w : World) : Calls Tryz.prog 110 #[.agg #[.int .i64 a, .int .i64 b, .int .i64 s]] w fun e w' => e = .returned (.bool (isV a b s 5)) ∧ Below w.heap.size w w' := by
 have HB := az (below_alloc (Below.refl w.heap.size w) (.cells #[.int .i64 a, .int .i64 b, .int .i64 s] 96))
 go_enter Tryz.func110, Tryz.ntmps110
 go_wp2
 go_ret
 exact ⟨rfl, HB.out⟩
theorem rule6_calls (a b s : Int) (w : World) : Calls Tryz.prog 111 #[.agg #[.int .i64 a, .int .i64 b, .int .i64 s]] w fun e w' => e = .returned (.bool (isV a b s 6)) ∧ Below w.heap.size w w' := by
 have HB := az (below_alloc (Below.refl w.heap.size w) (.cells #[.int .i64 a, .int .i64 b, .int .i64 s] 96))
 go_enter Tryz.func111, Tryz.ntmps111
 go_wp2
 go_ret
 exact ⟨rfl, HB.out⟩
theorem rule7_calls (a b s : Int) (w : World) : Calls Tryz.prog 112 #[.agg #[.int .i64 a, .int .i64 b, .int .i64 s]] w fun e w' => e = .returned (.bool (isV a b s 7)) ∧ Below w.heap.size w w' := by
 have HB := az (below_alloc (Below.refl w.heap.size w) (.cells #[.int .i64 a, .int .i64 b, .int .i64 s] 96))
 by_cases h5 : a = 11
 ·
  have b5 : (a == 11) = true := beq_iff_eq.mpr h5
  have HE2 := az (show isV a b s 7 = true by unfold isV; rw [b5]; rfl)
  clear h5
  go_enter Tryz.func112, Tryz.ntmps112
  go_wp2
  go_ret
  exact ⟨by rw [HE2.out]; first | done | rfl, HB.out⟩
 ·
  have b5 : (a == 11) = false := beq_eq_false_iff_ne.mpr h5
  have HE2 := az (show isV a b s 7 = inL [11, 14, 12] b by unfold isV; rw [b5]; rfl)
  clear h5
  go_enter Tryz.func112, Tryz.ntmps112
  go_wp2_with (first | (go_at_call 104; go_must (refine (oneOf_calls b _ _ _ [11, 14, 12] _ (litC [11, 14, 12] #[.int .i64 11, .int .i64 14, .int .i64 12] ?hg) (Nat.le_refl _) (by decide)).mono ?_); (case hg => simp); rintro e w' ⟨rfl, ⟨nd1, rfl⟩⟩))
  go_ret
  exact ⟨by rw [HE2.out]; first | done | rfl, pw_below_drewN (below_alloc HB.out _) _⟩
theorem rule9_calls (a b s : Int) (w : World) : Calls Tryz.prog 114 #[.agg #[.int .i64 a, .int .i64 b, .int .i64 s]] w fun e w' => e = .returned (.bool (isV a b s 9)) ∧ Below w.heap.size w w' := by
 have HB := az (below_alloc (Below.refl w.heap.size w) (.cells #[.int .i64 a, .int .i64 b, .int .i64 s] 96))
 go_enter Tryz.func114, Tryz.ntmps114
 go_wp2
 go_ret
 exact ⟨rfl, HB.out⟩
theorem word_calls (x : Int) (w : World) : Calls Tryz.prog 103 #[.int .i64 x] w fun e w' => e = .returned (.bool (wordB x)) ∧ Below w.heap.size w w' := by
 go_enter Tryz.func103, Tryz.ntmps103
 go_wp2_with (go_at_call 104; go_must (refine (oneOf_calls x _ _ _ [1, 2] _ (litC [1, 2] #[.int .i64 1, .int .i64 2] ?hg) (Nat.le_refl _) (by decide)).mono ?_); (case hg => simp); rintro e w' ⟨rfl, ⟨nd1, rfl⟩⟩)
 go_ret
 exact ⟨rfl, pw_below_drewN (below_alloc (Below.refl _ _) _) _⟩
theorem rule8_calls (a b s : Int) (d : Nat) (w : World) (hd : w.cell? ⟨d, 0, none⟩ = some (.func (.func 103) #[] #[])) (hdl : d < w.heap.size) : Calls Tryz.prog 113 #[.agg #[.int .i64 a, .int .i64 b, .int .i64 s], .pointer (some ⟨d, 0, none⟩)] w fun e w' => e = .returned (.bool (isV a b s 8)) ∧ Below w.heap.size w w' := by
 obtain ⟨W0, hW0⟩ : ∃ W0, w.alloc (.cells #[.int .i64 a, .int .i64 b, .int .i64 s] 96) = W0 := ⟨_, rfl⟩
 have hB0 : Below w.heap.size w W0 := by rw [← hW0]; exact below_alloc (Below.refl _ _) _
 have hk : W0.heap[w.heap.size]? = some (.cells #[.int .i64 a, .int .i64 b, .int .i64 s] 96) := by rw [← hW0]; exact blk_new w _
 have x0 := (blk_cell hk 0).trans (show _ = some (Value.int .i64 a) from rfl)
 have x1 := (blk_cell hk 1).trans (show _ = some (Value.int .i64 b) from rfl)
 have xc := (hB0.cell (p := ⟨d, 0, none⟩) hdl).trans hd
 have lt1 : w.heap.size < W0.heap.size := by rw [← hW0]; simp
 have lt2 : d < W0.heap.size := Nat.lt_trans hdl lt1
 have HB0 := az hB0
 have H0 := az (Below.refl W0.heap.size W0)
 clear hB0 hk hd hdl
 have HV := az (show isV a b s 8 = ((wordB a && wordB b) || (b == 2 && inL [12, 13] a) || (a == 13 && b == 1) || ((wordB a && b == 8) || (a == 9 && wordB b))) from rfl)
 have HX := H0
 clear H0
 go_enter Tryz.func113, Tryz.ntmps113
 go_upto_region 1 with fail
 clear hW0
 go_cut [4] (fun v4 wc => v4 = .bool (wordB a && wordB b) ∧ Aside0 (Below W0.heap.size W0 wc))
 case first =>
  cases q1 : wordB a
  all_goals
   go_wp2_with (first | (go_at_call 103; go_must (refine (word_calls _ _).mono ?_); rintro e w' ⟨rfl, hb⟩; have n0 := az (below_step (zA HX.out) hb); clear HX hb; have HX := n0; clear n0; have y0 := (HX.out.cell (p := ⟨w.heap.size, 0, none⟩) lt1).trans x0; have y1 := (HX.out.cell (p := ⟨w.heap.size, 1, none⟩) lt1).trans x1; have yc := (HX.out.cell (p := ⟨d, 0, none⟩) lt2).trans xc))
   go_meet
   exact ⟨by rw [q1]; first | done | rfl, ⟨(zA HX.out)⟩⟩
 case rest =>
 clear HX
 obtain ⟨rfl, HX⟩ := hcut
 cases v1 : (wordB a && wordB b)
 case true =>
  have HE2 := az (show isV a b s 8 = true by rw [HV.out, v1]; rfl)
  go_wp2
  go_ret
  exact ⟨by rw [HE2.out]; first | done | rfl, below_then HB0.out HB0.out.size (zA HX.out)⟩
 case false =>
 go_upto_region 2 with fail
 have z0 := (HX.out.cell (p := ⟨w.heap.size, 0, none⟩) lt1).trans x0; have z1 := (HX.out.cell (p := ⟨w.heap.size, 1, none⟩) lt1).trans x1; have zc := (HX.out.cell (p := ⟨d, 0, none⟩) lt2).trans xc
 go_cut [4] (fun v4 wd => v4 = .bool (b == 2 && inL [12, 13] a) ∧ Aside0 (Below W0.heap.size W0 wd))
 case first =>
  cases b2 : (b == 2)
  all_goals
   go_wp2_with (first | (go_at_call 104; go_must (refine (oneOf_calls a _ _ _ [12, 13] _ (litC [12, 13] #[.int .i64 12, .int .i64 13] ?hg) (Nat.le_refl _) (by decide)).mono ?_); (case hg => simp); rintro e w' ⟨rfl, ⟨nd1, rfl⟩⟩))
   go_meet
   exact ⟨by rw [b2]; first | done | rfl, ⟨(zA HX.out)⟩⟩
 case rest =>
 clear HX z0 z1 zc
 obtain ⟨rfl, HX⟩ := hcut
 cases v2 : (b == 2 && inL [12, 13] a)
 case true =>
  have HE2 := az (show isV a b s 8 = true by rw [HV.out, v1, v2]; rfl)
  go_wp2
  go_ret
  exact ⟨by rw [HE2.out]; first | done | rfl, below_then HB0.out HB0.out.size (zA HX.out)⟩
 case false =>
 go_upto_region 3 with fail
 have z0 := (HX.out.cell (p := ⟨w.heap.size, 0, none⟩) lt1).trans x0; have z1 := (HX.out.cell (p := ⟨w.heap.size, 1, none⟩) lt1).trans x1; have zc := (HX.out.cell (p := ⟨d, 0, none⟩) lt2).trans xc
 go_cut [4] (fun v4 wd => v4 = .bool (a == 13 && b == 1) ∧ Aside0 (Below W0.heap.size W0 wd))
 case first =>
  cases a13 : (a == 13)
  all_goals
   go_wp2
   go_meet
   exact ⟨by rw [a13]; first | done | rfl, ⟨(zA HX.out)⟩⟩
 case rest =>
 clear HX z0 z1 zc
 obtain ⟨rfl, HX⟩ := hcut
 cases v3 : (a == 13 && b == 1)
 case true =>
  have HE2 := az (show isV a b s 8 = true by rw [HV.out, v1, v2, v3]; rfl)
  go_wp2
  go_ret
  exact ⟨by rw [HE2.out]; first | done | rfl, below_then HB0.out HB0.out.size (zA HX.out)⟩
 case false =>
 have HF := az (show isV a b s 8 = ((wordB a && b == 8) || (a == 9 && wordB b)) by rw [HV.out, v1, v2, v3]; rfl)
 clear v2 v3
 have z0 := (HX.out.cell (p := ⟨w.heap.size, 0, none⟩) lt1).trans x0; have z1 := (HX.out.cell (p := ⟨w.heap.size, 1, none⟩) lt1).trans x1; have zc := (HX.out.cell (p := ⟨d, 0, none⟩) lt2).trans xc
 cases q1 : wordB a
 all_goals
  cases b8 : (b == 8)
  all_goals
   cases a9 : (a == 9)
   all_goals
    have HE2 := az (HF.out.trans (by rw [q1, b8, a9]))
    go_wp2_with (first | (go_at_call 103; go_must (refine (word_calls _ _).mono ?_); rintro e w' ⟨rfl, hb⟩; have n0 := az (below_step (zA HX.out) hb); clear HX hb; have HX := n0; clear n0; have y0 := (HX.out.cell (p := ⟨w.heap.size, 0, none⟩) lt1).trans x0; have y1 := (HX.out.cell (p := ⟨w.heap.size, 1, none⟩) lt1).trans x1; have yc := (HX.out.cell (p := ⟨d, 0, none⟩) lt2).trans xc))
    go_ret
    exact ⟨by rw [HE2.out]; first | done | rfl, below_then HB0.out HB0.out.size (zA HX.out)⟩
def RC (W : World) (v : Value) (ans : Int) (fv : Value) : Prop := ∃ bB cB : Nat, v = .func (.func 102) #[] #[.pointer (some ⟨bB, 0, none⟩), .pointer (some ⟨cB, 0, none⟩)] ∧ bB < W.heap.size ∧ cB < W.heap.size ∧ W.cell? ⟨bB, 0, none⟩ = some (.int .i64 ans) ∧ W.cell? ⟨cB, 0, none⟩ = some fv
theorem RC.below {W W' : World} {v : Value} {ans : Int} {fv : Value} (h : RC W v ans fv) (hb : Below W.heap.size W W') : RC W' v ans fv := by
 obtain ⟨bB, cB, h0, h1, h2, h3, h4⟩ := h
 exact ⟨bB, cB, h0, Nat.lt_of_lt_of_le h1 hb.size, Nat.lt_of_lt_of_le h2 hb.size, (hb.cell (p := ⟨bB, 0, none⟩) h1).trans h3, (hb.cell (p := ⟨cB, 0, none⟩) h2).trans h4⟩
theorem when_calls (ans : Int) (fn : Fn) (lb : Array Value) (w : World) : Calls Tryz.prog 101 #[.int .i64 ans, .func fn #[] lb] w fun e w' => ∃ lb', e = .returned (.func (.func 102) #[] lb') ∧ RC w' (.func (.func 102) #[] lb') ans (.func fn #[] lb) ∧ Below w.heap.size w w' := by
 go_enter Tryz.func101, Tryz.ntmps101
 go_wp2
 go_ret
 have e1 := blk_new w (.cells #[.int .i64 ans] 3)
 have e2 := blk_new (w.alloc (.cells #[.int .i64 ans] 3)) (.cells #[.func fn #[] lb] 108)
 refine ⟨_, rfl, ⟨w.heap.size, w.heap.size + 1, rfl, by simp; omega, by simp, (blk_cell (blk_alloc e1 _) 0).trans rfl, ?_⟩, below_alloc (below_alloc (Below.refl _ _) _) _⟩
 rw [show (w.alloc (.cells #[.int .i64 ans] 3)).heap.size = w.heap.size + 1 by simp] at e2
 exact (blk_cell e2 0).trans rfl
theorem when2_calls (f : Nat) (lb : Array Value) (eg : ∀ args w, (callFunc f args).run Tryz.prog w = .ok (.enter f args) w) (a b s ans : Int) (v : Bool) (bB cB : Nat) (w : World) (h1 : w.cell? ⟨bB, 0, none⟩ = some (.int .i64 ans)) (h2 : w.cell? ⟨cB, 0, none⟩ = some (.func (.func f) #[] lb)) (l1 : bB < w.heap.size) (l2 : cB < w.heap.size)
  (hp : ∀ W, Below w.heap.size w W → Calls Tryz.prog f (#[.agg #[.int .i64 a, .int .i64 b, .int .i64 s]] ++ lb) W fun e w' => e = .returned (.bool v) ∧ Below W.heap.size W w') :
  Calls Tryz.prog 102 #[.agg #[.int .i64 a, .int .i64 b, .int .i64 s], .pointer (some ⟨bB, 0, none⟩), .pointer (some ⟨cB, 0, none⟩)] w fun e w' => e = .returned (.tuple #[.int .i64 ans, .bool v]) ∧ Below w.heap.size w w' := by
 obtain ⟨W0, hW0⟩ : ∃ W0, w.alloc (.cells #[.int .i64 a, .int .i64 b, .int .i64 s] 96) = W0 := ⟨_, rfl⟩
 have hB0 : Below w.heap.size w W0 := by rw [← hW0]; exact below_alloc (Below.refl _ _) _
 have hk : W0.heap[w.heap.size]? = some (.cells #[.int .i64 a, .int .i64 b, .int .i64 s] 96) := by rw [← hW0]; exact blk_new w _
 have x1 := (hB0.cell (p := ⟨bB, 0, none⟩) l1).trans h1
 have x2 := (hB0.cell (p := ⟨cB, 0, none⟩) l2).trans h2
 have HB0 := az hB0
 have HP := az hp
 have y0 := (blk_cell hk 0).trans (show _ = some (Value.int .i64 a) from rfl)
 have y1 := (blk_cell hk 1).trans (show _ = some (Value.int .i64 b) from rfl)
 have y2 := (blk_cell hk 2).trans (show _ = some (Value.int .i64 s) from rfl)
 have hu := Tryz.underlying96
 have lb0 : bB < W0.heap.size := Nat.lt_of_lt_of_le l1 hB0.size
 clear hB0 hk h1 h2 l1 l2 hp
 go_enter Tryz.func102, Tryz.ntmps102
 go_upto_region 1 with fail
 clear hW0
 go_region_with (go_at_fn f; refine (HP.out _ (by first | exact HB0.out | exact pw_below_drewN HB0.out _ | exact below_drew1 HB0.out)).mono ?_; rintro e w' ⟨rfl, hb⟩; have HX := az (below_then HB0.out HB0.out.size (below_then (by first | exact Below.refl _ _ | exact pw_below_drewN (Below.refl _ _) _ | exact below_drew1 (Below.refl _ _)) (by first | exact Nat.le_refl _ | simp) hb)); have z1 := ((below_then (B := W0.heap.size) (by first | exact Below.refl _ _ | exact pw_below_drewN (Below.refl _ _) _ | exact below_drew1 (Below.refl _ _)) (by first | exact Nat.le_refl _ | simp) hb).cell (p := ⟨bB, 0, none⟩) lb0).trans x1; clear hb)
 all_goals
  go_wp2
  go_ret2
  exact ⟨rfl, by repeat (first | (with_reducible first | exact HX.out | apply pw_below_drewN | apply below_drew1) | exact HX.out)⟩
def RuleAt (W : World) (v : Value) (i : Nat) : Prop := ∃ (bB cB f : Nat) (lb : Array Value), v = .func (.func 102) #[] #[.pointer (some ⟨bB, 0, none⟩), .pointer (some ⟨cB, 0, none⟩)] ∧ bB < W.heap.size ∧ cB < W.heap.size ∧ W.cell? ⟨bB, 0, none⟩ = some (.int .i64 (ansV i)) ∧ W.cell? ⟨cB, 0, none⟩ = some (.func (.func f) #[] lb) ∧ (∀ args w, (callFunc f args).run Tryz.prog w = .ok (.enter f args) w) ∧ ∀ (a b s : Int) (W' : World), Below W.heap.size W W' → Calls Tryz.prog f (#[.agg #[.int .i64 a, .int .i64 b, .int .i64 s]] ++ lb) W' fun e w' => e = .returned (.bool (isV a b s i)) ∧ Below W'.heap.size W' w'
theorem RuleAt.below {W W' : World} {v : Value} {i : Nat} (h : RuleAt W v i) (hb : Below W.heap.size W W') : RuleAt W' v i := by
 obtain ⟨bB, cB, f, lb, h0, h1, h2, h3, h4, h5, h6⟩ := h
 exact ⟨bB, cB, f, lb, h0, Nat.lt_of_lt_of_le h1 hb.size, Nat.lt_of_lt_of_le h2 hb.size, (hb.cell (p := ⟨bB, 0, none⟩) h1).trans h3, (hb.cell (p := ⟨cB, 0, none⟩) h2).trans h4, h5, fun a b s X hX => h6 a b s X (below_then hb hb.size hX)⟩
theorem RuleAt.of {W : World} {v : Value} {i f : Nat} {lb : Array Value} (h : RC W v (ansV i) (.func (.func f) #[] lb)) (eg : ∀ args w, (callFunc f args).run Tryz.prog w = .ok (.enter f args) w) (hp : ∀ (a b s : Int) (W' : World), Below W.heap.size W W' → Calls Tryz.prog f (#[.agg #[.int .i64 a, .int .i64 b, .int .i64 s]] ++ lb) W' fun e w' => e = .returned (.bool (isV a b s i)) ∧ Below W'.heap.size W' w') : RuleAt W v i := by
 obtain ⟨bB, cB, h0, h1, h2, h3, h4⟩ := h
 exact ⟨bB, cB, f, lb, h0, h1, h2, h3, h4, eg, hp⟩
theorem rule_calls {W : World} {v : Value} {i : Nat} (h : RuleAt W v i) (a b s : Int) : ∃ lb, v = .func (.func 102) #[] lb ∧ Calls Tryz.prog 102 (#[.agg #[.int .i64 a, .int .i64 b, .int .i64 s]] ++ lb) W fun e w' => e = .returned (.tuple #[.int .i64 (ansV i), .bool (isV a b s i)]) ∧ Below W.heap.size W w' := by
 obtain ⟨bB, cB, f, lb, h0, h1, h2, h3, h4, h5, h6⟩ := h
 exact ⟨_, h0, when2_calls f lb h5 a b s _ _ bB cB W h3 h4 h1 h2 (fun X hX => h6 a b s X hX)⟩
def RulesAt (W : World) (g : Nat) : Prop := g < W.heap.size ∧ ∀ i, i < 10 → ∃ v, W.cell? ⟨g, i, none⟩ = some v ∧ RuleAt W v i
theorem RulesAt.below {W W' : World} {g : Nat} (h : RulesAt W g) (hb : Below W.heap.size W W') : RulesAt W' g := by
 refine ⟨Nat.lt_of_lt_of_le h.1 hb.size, fun i hi => ?_⟩
 obtain ⟨v, h1, h2⟩ := h.2 i hi
 exact ⟨v, (hb.cell (p := ⟨g, i, none⟩) h.1).trans h1, h2.below hb⟩
def AllR (W : World) (n : Nat) (vs : List Value) : Prop := ∀ i v, i < n → vs[n - 1 - i]? = some v → RuleAt W v i
theorem AllR.more {W W' : World} {n : Nat} {vs : List Value} (h : AllR W n vs) (hb : Below W.heap.size W W') {v : Value} (hv : RuleAt W' v n) : AllR W' (n + 1) (v :: vs) := by
 intro i u hi hu
 by_cases e : i = n
 ·
  subst e
  rw [show i + 1 - 1 - i = 0 by omega, List.getElem?_cons_zero] at hu
  obtain rfl := Option.some.inj hu
  exact hv
 ·
  rw [show n + 1 - 1 - i = (n - 1 - i) + 1 by omega, List.getElem?_cons_succ] at hu
  exact (h i u (by omega) hu).below hb
theorem eg_of (f : Nat) {fn : Func} (hf : Tryz.prog.funcs[f]? = some fn) (hname : (fn.name == "runtime.NumGoroutine") = false) (hb : fn.body.isSome = true) : ∀ args w, (callFunc f args).run Tryz.prog w = .ok (.enter f args) w := fun args w => enters_ hf hname hb args w
theorem rules_end {W : World} {v0 v1 v2 v3 v4 v5 v6 v7 v8 v9 : Value} (h : AllR W 10 [v9, v8, v7, v6, v5, v4, v3, v2, v1, v0]) : RulesAt (W.alloc (.cells #[v0, v1, v2, v3, v4, v5, v6, v7, v8, v9] 94)) W.heap.size := by
 refine ⟨by simp, fun i hi => ?_⟩
 have hn := blk_cell (blk_new W (.cells #[v0, v1, v2, v3, v4, v5, v6, v7, v8, v9] 94)) i
 have hb : Below W.heap.size W (W.alloc (.cells #[v0, v1, v2, v3, v4, v5, v6, v7, v8, v9] 94)) := below_alloc (Below.refl _ _) _
 match i, hi with
 | 0, _ => exact ⟨v0, hn.trans rfl, (h 0 v0 (by decide) rfl).below hb⟩
 | 1, _ => exact ⟨v1, hn.trans rfl, (h 1 v1 (by decide) rfl).below hb⟩
 | 2, _ => exact ⟨v2, hn.trans rfl, (h 2 v2 (by decide) rfl).below hb⟩
 | 3, _ => exact ⟨v3, hn.trans rfl, (h 3 v3 (by decide) rfl).below hb⟩
 | 4, _ => exact ⟨v4, hn.trans rfl, (h 4 v4 (by decide) rfl).below hb⟩
 | 5, _ => exact ⟨v5, hn.trans rfl, (h 5 v5 (by decide) rfl).below hb⟩
 | 6, _ => exact ⟨v6, hn.trans rfl, (h 6 v6 (by decide) rfl).below hb⟩
 | 7, _ => exact ⟨v7, hn.trans rfl, (h 7 v7 (by decide) rfl).below hb⟩
 | 8, _ => exact ⟨v8, hn.trans rfl, (h 8 v8 (by decide) rfl).below hb⟩
 | 9, _ => exact ⟨v9, hn.trans rfl, (h 9 v9 (by decide) rfl).below hb⟩
theorem rat0 {W : World} {v : Value} (h : RC W v 2 (.func (.func 105) #[] #[])) : RuleAt W v 0 := RuleAt.of (i := 0) h (eg_of _ Tryz.func105 (by kernel_rfl) rfl) (fun a b s X hX => rule0_calls a b s X)
theorem rat1 {W : World} {v : Value} (h : RC W v 0 (.func (.func 106) #[] #[])) : RuleAt W v 1 := RuleAt.of (i := 1) h (eg_of _ Tryz.func106 (by kernel_rfl) rfl) (fun a b s X hX => rule1_calls a b s X)
theorem rat2 {W : World} {v : Value} (h : RC W v 1 (.func (.func 107) #[] #[])) : RuleAt W v 2 := RuleAt.of (i := 2) h (eg_of _ Tryz.func107 (by kernel_rfl) rfl) (fun a b s X hX => rule2_calls a b s X)
theorem rat3 {W : World} {v : Value} (h : RC W v 0 (.func (.func 108) #[] #[])) : RuleAt W v 3 := RuleAt.of (i := 3) h (eg_of _ Tryz.func108 (by kernel_rfl) rfl) (fun a b s X hX => rule3_calls a b s X)
theorem rat4 {W : World} {v : Value} (h : RC W v 0 (.func (.func 109) #[] #[])) : RuleAt W v 4 := RuleAt.of (i := 4) h (eg_of _ Tryz.func109 (by kernel_rfl) rfl) (fun a b s X hX => rule4_calls a b s X)
theorem rat5 {W : World} {v : Value} (h : RC W v 0 (.func (.func 110) #[] #[])) : RuleAt W v 5 := RuleAt.of (i := 5) h (eg_of _ Tryz.func110 (by kernel_rfl) rfl) (fun a b s X hX => rule5_calls a b s X)
theorem rat6 {W : World} {v : Value} (h : RC W v 1 (.func (.func 111) #[] #[])) : RuleAt W v 6 := RuleAt.of (i := 6) h (eg_of _ Tryz.func111 (by kernel_rfl) rfl) (fun a b s X hX => rule6_calls a b s X)
theorem rat7 {W : World} {v : Value} (h : RC W v 0 (.func (.func 112) #[] #[])) : RuleAt W v 7 := RuleAt.of (i := 7) h (eg_of _ Tryz.func112 (by kernel_rfl) rfl) (fun a b s X hX => rule7_calls a b s X)
theorem rat8 {W : World} {v : Value} (d : Nat) (hl : d < W.heap.size) (hd : W.cell? ⟨d, 0, none⟩ = some (.func (.func 103) #[] #[])) (h : RC W v 0 (.func (.func 113) #[] #[.pointer (some ⟨d, 0, none⟩)])) : RuleAt W v 8 := RuleAt.of (i := 8) h (eg_of _ Tryz.func113 (by kernel_rfl) rfl) (fun a b s X hX => rule8_calls a b s d X ((hX.cell (p := ⟨d, 0, none⟩) hl).trans hd) (Nat.lt_of_lt_of_le hl hX.size))
theorem rat9 {W : World} {v : Value} (h : RC W v 1 (.func (.func 114) #[] #[])) : RuleAt W v 9 := RuleAt.of (i := 9) h (eg_of _ Tryz.func114 (by kernel_rfl) rfl) (fun a b s X hX => rule9_calls a b s X)
theorem run_store_funcR {P : Program} {w : World} {a : Addr} {m : Mode} (fn : Fn) (first captured : Array Value) : (store a (.func fn first captured) m).run P w = stored P w a (.func fn first captured) m := run_store P w a _ m rfl
attribute [local go_sem] run_store_funcR
theorem rules_calls (w : World) : Calls Tryz.prog 80 #[] w fun e w' => ∃ g, e = .returned (.slice (some ⟨g, 0, none⟩) 10 10) ∧ RulesAt w' g ∧ Below w.heap.size w w' := by
 obtain ⟨W0, hW0⟩ : ∃ W0, (w.alloc (.cells #[Value.nilFunc] 73)).setCell ⟨w.heap.size, 0, none⟩ (.func (.func 103) #[] #[]) = W0 := ⟨_, rfl⟩
 have hB0 : Below w.heap.size w W0 := by rw [← hW0]; exact (below_alloc (Below.refl _ _) _).setCell (p := ⟨w.heap.size, 0, none⟩) (Nat.le_refl _) _
 have hd : W0.cell? ⟨w.heap.size, 0, none⟩ = some (.func (.func 103) #[] #[]) := by rw [← hW0]; exact (blk_cell (blk_set (blk_new w _) 0 _) 0).trans rfl
 have lt0 : w.heap.size < W0.heap.size := by rw [← hW0]; simp [World.setCell]
 have HD := az hd
 have HB0 := az hB0
 have HB := az (Below.refl W0.heap.size W0)
 have HA : Aside0 (AllR W0 0 []) := ⟨fun i v hi => absurd hi (Nat.not_lt_zero _)⟩
 clear hd hB0
 go_enter Tryz.func80, Tryz.ntmps80
 go_upto_region 3 with fail
 clear hW0
 go_wp2_with (go_at_call 101; first
  | ((with_reducible refine (when_calls 2 (.func 105) #[] _).mono ?_); go_must (rintro e w1 ⟨v0, rfl, hrc, hb⟩; have n1 := az (below_step HB.out hb); clear HB; have n0 := az (HA.out.more hb (rat0 hrc)); have HB := n1; clear n1; clear HA hrc hb; have HA := n0; clear n0))
  | ((with_reducible refine (when_calls 0 (.func 106) #[] _).mono ?_); go_must (rintro e w2 ⟨v1, rfl, hrc, hb⟩; have n1 := az (below_step HB.out hb); clear HB; have n0 := az (HA.out.more hb (rat1 hrc)); have HB := n1; clear n1; clear HA hrc hb; have HA := n0; clear n0))
  | ((with_reducible refine (when_calls 1 (.func 107) #[] _).mono ?_); go_must (rintro e w3 ⟨v2, rfl, hrc, hb⟩; have n1 := az (below_step HB.out hb); clear HB; have n0 := az (HA.out.more hb (rat2 hrc)); have HB := n1; clear n1; clear HA hrc hb; have HA := n0; clear n0))
  | ((with_reducible refine (when_calls 0 (.func 108) #[] _).mono ?_); go_must (rintro e w4 ⟨v3, rfl, hrc, hb⟩; have n1 := az (below_step HB.out hb); clear HB; have n0 := az (HA.out.more hb (rat3 hrc)); have HB := n1; clear n1; clear HA hrc hb; have HA := n0; clear n0))
  | ((with_reducible refine (when_calls 0 (.func 109) #[] _).mono ?_); go_must (rintro e w5 ⟨v4, rfl, hrc, hb⟩; have n1 := az (below_step HB.out hb); clear HB; have n0 := az (HA.out.more hb (rat4 hrc)); have HB := n1; clear n1; clear HA hrc hb; have HA := n0; clear n0))
  | ((with_reducible refine (when_calls 0 (.func 110) #[] _).mono ?_); go_must (rintro e w6 ⟨v5, rfl, hrc, hb⟩; have n1 := az (below_step HB.out hb); clear HB; have n0 := az (HA.out.more hb (rat5 hrc)); have HB := n1; clear n1; clear HA hrc hb; have HA := n0; clear n0))
  | ((with_reducible refine (when_calls 1 (.func 111) #[] _).mono ?_); go_must (rintro e w7 ⟨v6, rfl, hrc, hb⟩; have n1 := az (below_step HB.out hb); clear HB; have n0 := az (HA.out.more hb (rat6 hrc)); have HB := n1; clear n1; clear HA hrc hb; have HA := n0; clear n0))
  | ((with_reducible refine (when_calls 0 (.func 112) #[] _).mono ?_); go_must (rintro e w8 ⟨v7, rfl, hrc, hb⟩; have n1 := az (below_step HB.out hb); clear HB; have n0 := az (HA.out.more hb (rat7 hrc)); have HB := n1; clear n1; clear HA hrc hb; have HA := n0; clear n0))
  | ((with_reducible refine (when_calls 0 (.func 113) #[.pointer (some ⟨w.heap.size, 0, none⟩)] _).mono ?_); go_must (rintro e w9 ⟨v8, rfl, hrc, hb⟩; have n1 := az (below_step HB.out hb); clear HB; have n0 := az (HA.out.more hb (rat8 w.heap.size (Nat.lt_of_lt_of_le lt0 n1.out.size) ((n1.out.cell (p := ⟨w.heap.size, 0, none⟩) lt0).trans HD.out) hrc)); have HB := n1; clear n1; clear HA hrc hb; have HA := n0; clear n0))
  | ((with_reducible refine (when_calls 1 (.func 114) #[] _).mono ?_); go_must (rintro e w10 ⟨v9, rfl, hrc, hb⟩; have n1 := az (below_step HB.out hb); clear HB; have n0 := az (HA.out.more hb (rat9 hrc)); have HB := n1; clear n1; clear HA hrc hb; have HA := n0; clear n0)))
 go_ret
 exact ⟨_, rfl, rules_end HA.out, below_alloc (below_then HB0.out HB0.out.size HB.out) _⟩
def placeR (a b s : Int) : Nat → Nat → Int
 | 0, _ => 1
 | g + 1, i => if isV a b s i = true then ansV i else placeR a b s g (i + 1)
def placeV (a b s : Int) : Int := placeR a b s 10 0
def brX (k : Nat) (l0 cs : List Int) (js : List Bool) (i : Nat) (s : Int) : Option Int :=
 if i + 1 = l0.length then some 2 else if js.getD (i + 1) false = true then some 0 else (impl_RuneLine.f k (l0.getD (i + 1) 0)).bind fun t => (impl_afterSpace.f k (cs.getD i 0)).bind fun u => some (if t = 7 ∧ u = false then 0 else placeV (cs.getD i 0) (cs.getD (i + 1) 0) s)
def brL (k : Nat) (l0 cs : List Int) (js : List Bool) : Nat → Nat → Int → List Int → Option (List Int)
 | 0, _, _, out => some out
 | g + 1, i, s, out => (brX k l0 cs js i (if cs.getD i 0 = 3 then s else cs.getD i 0)).bind fun x => brL k l0 cs js g (i + 1) (if cs.getD i 0 = 3 then s else cs.getD i 0) (out ++ [x])
def impl_breaks.f (k : Nat) (l0 : List Int) : Option (List Int) := (impl_countsOf.f k l0).bind fun cs => (impl_joined.f k l0).bind fun js => if cs.length = l0.length ∧ js.length = l0.length ∧ l0.length ≤ 1000 then brL k l0 cs js l0.length 0 0 [] else none
theorem brX_mono (k : Nat) (l0 cs : List Int) (js : List Bool) (i : Nat) (s : Int) : LeO (brX k l0 cs js i s) (brX (k + 1) l0 cs js i s) := by
 unfold brX
 exact LeO.ite (LeO.refl _) (LeO.ite (LeO.refl _) (LeO.bind (impl_RuneLine.mono _ _) (fun t => LeO.bind (impl_afterSpace.mono _ _) (fun u => LeO.refl _))))
theorem brL_mono (k : Nat) (l0 cs : List Int) (js : List Bool) : ∀ (g i : Nat) (s : Int) (out : List Int), LeO (brL k l0 cs js g i s out) (brL (k + 1) l0 cs js g i s out)
 | 0, _, _, _ => LeO.refl _
 | g + 1, i, s, out => by
  simp only [brL]
  exact LeO.bind (brX_mono _ _ _ _ _ _) (fun x => brL_mono k l0 cs js g _ _ _)
theorem impl_breaks.mono : ∀ a0 k, LeO (impl_breaks.f k a0) (impl_breaks.f (k + 1) a0) := by
 intro a0 k
 unfold impl_breaks.f
 exact LeO.bind (impl_countsOf.mono _ _) (fun cs => LeO.bind (impl_joined.mono _ _) (fun js => LeO.ite (brL_mono _ _ _ _ _ _ _ _) (LeO.refl _)))
theorem below_of {w w' : World} (h : Below w.heap.size w w') : Below w.heap.size w w' := h
theorem place_at {a b s : Int} : ∀ (g q : Nat), isV a b s q = true → placeR a b s (g + 1) q = ansV q := fun g q h => by rw [placeR, if_pos h]
theorem place_on {a b s : Int} : ∀ (g q : Nat), isV a b s q = false → placeR a b s (g + 1) q = placeR a b s g (q + 1) := fun g q h => by rw [placeR, if_neg (by rw [h]; decide)]
theorem impl_breaks.calls (k : Nat) (A0 : Option Addr) (c0 : Nat) (l0 : List Int) (r : List Int) (w : World) (hr0 : Kd.C (Kd.int .i64) w A0 l0.length l0) (hc0 : l0.length ≤ c0) (h : impl_breaks.f k l0 = some r) :
  Calls Tryz.prog 49 #[.slice A0 l0.length c0] w fun e w' => ∃ v0_ : Value, e = .returned (v0_) ∧ Kd.R (Kd.int .i64) 3 w' w.heap.size (fun _ => True) v0_ r ∧ Below w.heap.size w w' := by
 have HR := az hr0
 have HC := az hc0
 clear hr0 hc0
 unfold impl_breaks.f at h
 replace h := Option.bind_eq_some_iff.mp h
 obtain ⟨cs, hcs, h⟩ := h
 replace h := Option.bind_eq_some_iff.mp h
 obtain ⟨js, hjs, h⟩ := h
 by_cases hl : cs.length = l0.length ∧ js.length = l0.length ∧ l0.length ≤ 1000
 case neg => rw [if_neg hl] at h; cases h
 case pos =>
 rw [if_pos hl] at h
 have HL := az hl
 have HCS := az hcs
 have HJS := az hjs
 have HF := az h
 clear hcs hjs h hl
 go_enter Tryz.func49, Tryz.ntmps49
 go_upto_region 4 with (first
  | (go_at_call 78; go_must (refine (impl_countsOf.calls k A0 c0 l0 cs _ HR.out HC.out HCS.out).mono ?_); rintro e w1 ⟨v1, rfl, ho1, hb1⟩; obtain ⟨A1, c1, e1⟩ := Kd.R_slice ho1; subst e1; have HO1 := az ho1; have HB1 := az hb1; clear ho1 hb1)
  | (go_at_call 79; go_must (refine (impl_joined.calls k A0 c0 l0 js _ (Kd.C_below HR.out HB1.out) HC.out HJS.out).mono ?_); rintro e w2 ⟨v2, rfl, ho2, hb2⟩; obtain ⟨A2, c2, e2⟩ := Kd.R_slice ho2; subst e2; have HO2 := az ho2; have HB2 := az (below_then HB1.out HB1.out.size hb2); have HC1 := az (Kd.C_below (Kd.R_reads' HO1.out).2.2 hb2); clear ho2 hb2)
  | (go_at_call 80; go_must (refine (rules_calls _).mono ?_); rintro e w3 ⟨g, rfl, hru, hb3⟩; have HRU := az hru; have HB3 := az (below_then HB2.out HB2.out.size hb3); have HCC := az (Kd.C_below HC1.out hb3); have HJJ := az (Kd.C_below (Kd.R_reads' HO2.out).2.2 hb3); clear hru hb3))
 have HR3 := az (Kd.C_below HR.out HB3.out)
 clear HO1 HO2 HB1 HB2 HC1
 go_wp2
 go_loopg [6, 7, 21] cs.length (fun gg s6 s7 s21 wr => ∃ (i : Nat) (s : Int) (out : List Int), s21 = .int .i64 i ∧ s7 = .int .i64 s ∧ i ≤ cs.length ∧ cs.length - i ≤ gg ∧ Aside0 (brL k l0 cs js (cs.length - i) i s out = some r) ∧ Aside0 (out.length = i) ∧ Aside0 (Kd.R (Kd.int .i64) 3 wr w3.heap.size (fun _ => True) s6 out) ∧ Aside0 (Below w3.heap.size w3 wr))
 case atStart => exact ⟨0, 0, [], rfl, rfl, Nat.zero_le _, by omega, ⟨by rw [Nat.sub_zero, HL.out.1]; exact HF.out⟩, ⟨rfl⟩, ⟨Kd.R_nil _ _ _ _ _⟩, ⟨Below.refl _ _⟩⟩
 case round =>
  clear HF
  obtain ⟨i, s, out, rfl, rfl, hi, hg, HF, HLO, HO, HB⟩ := hrel
  by_cases hlt : i < cs.length
  ·
   have hltz : (i : Int) < (cs.length : Int) := by omega
   have hn9 : cs.length ≤ 1000 := by have := HL.out; omega
   have hf := HF.out
   rw [show cs.length - i = (cs.length - (i + 1)) + 1 by omega, brL] at hf
   replace hf := Option.bind_eq_some_iff.mp hf
   obtain ⟨x, hx, hf⟩ := hf
   obtain ⟨a, ha⟩ : ∃ a, cs.getD i 0 = a := ⟨_, rfl⟩
   rw [ha] at hx hf
   obtain ⟨s2, hs2⟩ : ∃ s2, (if a = 3 then s else a) = s2 := ⟨_, rfl⟩
   rw [hs2] at hx hf
   have HX := az hx
   have HFF := az hf
   have HAA := az ha
   obtain ⟨ad, hA1, hxa⟩ := Kd.at_int (Kd.C_below HCC.out (below_of HB.out)) (i : Int) (by omega) hltz
   subst hA1
   simp only [rd, Int.toNat_natCast] at hxa
   rw [ha] at hxa
   clear hx hf HF ha
   go_upto_if 27 with fail
   have HS2 := az hs2
   clear hs2
   go_cut [7] from 22 to 83 (fun v7 wc => v7 = .int .i64 s2 ∧ wc = wr)
   case first =>
    by_cases h3 : a = 3
    ·
     have b3 : (a != 3) = false := bne_eq_false_iff_eq.mpr h3
     obtain rfl : s = s2 := by rw [← HS2.out, if_pos h3]
     go_wp2
     go_meet
     exact ⟨rfl, rfl⟩
    ·
     have b3 : (a != 3) = true := bne_iff_ne.mpr h3
     obtain rfl : a = s2 := by rw [← HS2.out, if_neg h3]
     go_wp2
     go_meet
     exact ⟨rfl, rfl⟩
   case rest =>
   obtain ⟨rfl, hwc⟩ := hcut
   subst hwc
   have hxx := HX.out
   unfold brX at hxx
   by_cases hlast : i + 1 = l0.length
   ·
    rw [if_pos hlast] at hxx
    have HXE := az (Option.some.inj hxx).symm
    clear hxx
    have hw1 : wrap64 ((l0.length : Int) - 1) = (i : Int) := by unfold wrap64; omega
    have hw2 : IntKind.i64.wrap ((l0.length : Int) - 1) = (i : Int) := by rw [i64_w]; exact hw1
    have hd : decide ((i : Int) = (i : Int)) = true := by simp
    clear hlast
    go_wp2_with (first | ((with_reducible refine gate_builtin (b := .append) (xs := #[.tmp 34, .tmp 35]) rfl ?_); at_builtin; go_must (refine appI (w0 := w3) (base := w3.heap.size) Tryz.underlying22 info3 rfl (.tmp 34) (.tmp 35) rfl _ out 2 rfl rfl HO.out HB.out HB.out.size ?aL ?_); (case aL => have := HLO.out; omega); intro v9 w9 ho9 hb9 hg9 hat9; have HO9 := az ho9; have HB9 := az hb9; clear ho9 hb9 hg9 hat9))
    go_roundg (cs.length - (i + 1))
    case measure => omega
    case rel => exact ⟨i + 1, s2, _, by go_num, rfl, by omega, Nat.le_refl _, ⟨HFF.out⟩, ⟨by rw [List.length_append, HLO.out]; rfl⟩, ⟨by have := HXE.out; rw [this]; exact HO9.out⟩, HB9⟩
   ·
    rw [if_neg hlast] at hxx
    have hw1 : wrap64 ((l0.length : Int) - 1) = (l0.length : Int) - 1 := by have := HL.out; unfold wrap64; omega
    have hw2 : IntKind.i64.wrap ((l0.length : Int) - 1) = (l0.length : Int) - 1 := by rw [i64_w]; exact hw1
    have hne : ((i : Int) == (l0.length : Int) - 1) = false := beq_eq_false_iff_ne.mpr (by omega)
    obtain ⟨m, hm⟩ : ∃ m : Nat, m = i + 1 := ⟨_, rfl⟩
    rw [← hm] at hxx
    have hw3 : wrap64 ((i : Int) + 1) = (m : Int) := by unfold wrap64; omega
    have hw4 : IntKind.i64.wrap ((i : Int) + 1) = (m : Int) := by rw [i64_w]; exact hw3
    have hi1 : (m : Int) < (js.length : Int) := by have := HL.out; omega
    have hi2 : (m : Int) < (l0.length : Int) := by have := HL.out; omega
    have hi3 : (m : Int) < (cs.length : Int) := by have := HL.out; omega
    have HM := az hm
    clear hm
    obtain ⟨ad2, hA2, hxj⟩ := Kd.at_bool (Kd.C_below HJJ.out HB.out) (m : Int) (by omega) hi1
    subst hA2
    obtain ⟨ad0, hA0, hxr⟩ := Kd.at_int (Kd.C_below HR3.out HB.out) (m : Int) (by omega) hi2
    subst hA0
    simp only [rd, rdOf, Int.toNat_natCast] at hxj hxr
    obtain ⟨j, hj⟩ : ∃ j, js.getD m false = j := ⟨_, rfl⟩
    obtain ⟨ru, hru⟩ : ∃ ru, l0.getD m 0 = ru := ⟨_, rfl⟩
    rw [hj] at hxj hxx
    rw [hru] at hxr hxx
    clear hj hru hlast
    cases j
    ·
     rw [if_neg (by decide)] at hxx
     replace hxx := Option.bind_eq_some_iff.mp hxx
     obtain ⟨tl, htl, hxx⟩ := hxx
     replace hxx := Option.bind_eq_some_iff.mp hxx
     obtain ⟨uu, huu, hxx⟩ := hxx
     rw [HAA.out] at huu hxx
     have HTL := az htl
     have HUU := az huu
     have HXE := az (Option.some.inj hxx).symm
     clear htl huu hxx
     obtain ⟨ad1, hA1, hxb⟩ := Kd.at_int (Kd.C_below HCC.out HB.out) (m : Int) (by omega) hi3
     simp only [rd, Int.toNat_natCast] at hxb
     obtain ⟨bb, hbb⟩ : ∃ bb, cs.getD m 0 = bb := ⟨_, rfl⟩
     rw [hbb] at hxb
     have HBB := az hbb
     obtain rfl : ad = ad1 := by injection hA1
     clear hA1 hbb
     have HXB := az hxb
     clear hxb
     have HXE2 := az (show x = (if tl = 7 ∧ uu = false then 0 else placeV a bb s2) by rw [HXE.out, HM.out, ← HBB.out, HM.out])
     clear HXE
     go_upto_region 11 with fail
     go_cut [55] from 22 to 83 (fun v55 wd => v55 = .bool (decide (tl = 7) && !uu) ∧ Aside0 (Below wc.heap.size wc wd))
     case first =>
      by_cases h7 : tl = 7
      ·
       have b7 : (tl == 7) = true := beq_iff_eq.mpr h7
       have d7 : decide (tl = 7) = true := decide_eq_true h7
       clear h7
       go_wp2_with (first
        | (go_at_call 81; go_must (refine (impl_RuneLine.calls k ru tl _ HTL.out).mono ?_); rintro e w4 ⟨rfl, hb4⟩; have HB4 := az hb4; clear hb4)
        | (go_at_call 82; go_must (refine (impl_afterSpace.calls k a uu _ HUU.out).mono ?_); rintro e w5 ⟨rfl, hb5⟩; have HB5 := az hb5; clear hb5))
       go_meet
       exact ⟨by rw [d7]; first | done | rfl, ⟨below_then HB4.out HB4.out.size HB5.out⟩⟩
      ·
       have b7 : (tl == 7) = false := beq_eq_false_iff_ne.mpr h7
       have d7 : decide (tl = 7) = false := decide_eq_false h7
       clear h7
       go_wp2_with (first
        | (go_at_call 81; go_must (refine (impl_RuneLine.calls k ru tl _ HTL.out).mono ?_); rintro e w4 ⟨rfl, hb4⟩; have HB4 := az hb4; clear hb4))
       go_meet
       exact ⟨by rw [d7]; first | done | rfl, HB4⟩
     case rest =>
     obtain ⟨rfl, HBD⟩ := hcut
     have HO2 := az (Kd.R_below HO.out HBD.out)
     have HB2 := az (below_then HB.out HB.out.size HBD.out)
     have HL9 := az hlt
     cases vd : (decide (tl = 7) && !uu)
     case true =>
      have HXE3 := az (show x = 0 by rw [HXE2.out, if_pos (by simpa using vd)])
      go_wp2_with (first | ((with_reducible refine gate_builtin (b := .append) (xs := #[.tmp 56, .tmp 57]) rfl ?_); at_builtin; go_must (refine appI (w0 := w3) (base := w3.heap.size) Tryz.underlying22 info3 rfl (.tmp 56) (.tmp 57) rfl _ out 0 rfl rfl HO2.out HB2.out HB2.out.size ?aL ?_); (case aL => have := HLO.out; omega); intro v9 w9 ho9 hb9 hg9 hat9; have HO9 := az ho9; have HB9 := az hb9; clear ho9 hb9 hg9 hat9))
      go_roundg (cs.length - (i + 1))
      case measure => omega
      case rel => exact ⟨m, s2, _, by first | rfl | go_num, rfl, zE HM.out, zE HM.out, ⟨by rw [HM.out]; exact HFF.out⟩, ⟨by rw [List.length_append, HLO.out, HM.out]; rfl⟩, ⟨by have := HXE3.out; rw [this]; exact HO9.out⟩, HB9⟩
     case false =>
     have HXE4 := az (show x = placeV a bb s2 by rw [HXE2.out, if_neg (by simpa using vd)])
     go_wp2
     go_loopg [6, 61] 10 (fun gq s6 s61 wq => ∃ q : Nat, s61 = .int .i64 q ∧ q < 10 ∧ 10 - q ≤ gq ∧ Aside0 (placeV a bb s2 = placeR a bb s2 (10 - q) q) ∧ Aside0 (Below wc.heap.size wc wq) ∧ Aside0 (Kd.R (Kd.int .i64) 3 wq w3.heap.size (fun _ => True) s6 out))
     case atStart => exact ⟨0, rfl, by decide, by decide, ⟨rfl⟩, ⟨Below.refl _ _⟩, HO2⟩
     case round =>
      obtain ⟨q, rfl, hq, hgq, HP, HBq, HOq⟩ := hrel
      obtain ⟨vr, hvr, hra⟩ := ((HRU.out.below HB2.out).below HBq.out).2 q hq
      obtain ⟨lb, rfl, hcall⟩ := rule_calls hra a bb s2
      have HCALL := az hcall
      have hqz : (q : Int) < 10 := by omega
      have hq0 : (0 : Int) ≤ (q : Int) := by omega
      have hxb := ((HBq.out.cell (World.block_lt_of_cell? _ _ ((HBD.out.cell (World.block_lt_of_cell? _ _ HXB.out)).trans HXB.out))).trans ((HBD.out.cell (World.block_lt_of_cell? _ _ HXB.out)).trans HXB.out))
      clear hra hcall
      have eg := eg_of 102 Tryz.func102 (by kernel_rfl) rfl
      have hu := Tryz.underlying96
      cases hv : isV a bb s2 q
      case true =>
       have HXE5 := az (show x = ansV q by rw [HXE4.out, HP.out, show 10 - q = (10 - (q + 1)) + 1 by omega, place_at _ _ hv])
       rw [hv] at HCALL
       go_wp2_with (first | (go_at_call 102; go_must (refine (HCALL.out).mono ?_); rintro e w6 ⟨rfl, hb6⟩; have HB6 := az (below_then HBq.out HBq.out.size hb6); have HO6 := az (Kd.R_below HOq.out hb6); have HB7 := az (below_then (below_then HB2.out HB2.out.size HBq.out) (below_then HB2.out HB2.out.size HBq.out).size hb6); clear hb6) | ((with_reducible refine gate_builtin (b := .append) (xs := #[.tmp 79, .tmp 81]) rfl ?_); at_builtin; go_must (refine appI (w0 := w3) (base := w3.heap.size) Tryz.underlying22 info3 rfl (.tmp 79) (.tmp 81) rfl _ out (ansV q) rfl rfl HO6.out HB7.out HB7.out.size ?aL ?_); (case aL => have := HLO.out; omega); intro v9 w9 ho9 hb9 hg9 hat9; have HO9 := az ho9; have HB9 := az hb9; clear ho9 hb9 hg9 hat9))
       go_roundg (cs.length - (i + 1))
       case measure => have := HL9.out; omega
       case rel => exact ⟨m, s2, _, by first | rfl | go_num, rfl, zE HM.out, zE HM.out, ⟨by rw [HM.out]; exact HFF.out⟩, ⟨by rw [List.length_append, HLO.out, HM.out]; rfl⟩, ⟨by have := HXE5.out; rw [this]; exact HO9.out⟩, HB9⟩
      case false =>
       have HP2 := az (show placeV a bb s2 = placeR a bb s2 (10 - (q + 1)) (q + 1) by rw [HP.out, show 10 - q = (10 - (q + 1)) + 1 by omega, place_on _ _ hv])
       have hq9 : q ≠ 9 := by rintro rfl; exact absurd hv (show ¬ (true = false) by decide)
       rw [hv] at HCALL
       go_wp2_with (first | (go_at_call 102; go_must (refine (HCALL.out).mono ?_); rintro e w6 ⟨rfl, hb6⟩; have HB6 := az (below_then HBq.out HBq.out.size hb6); have HO6 := az (Kd.R_below HOq.out hb6); have HB7 := az (below_then (below_then HB2.out HB2.out.size HBq.out) (below_then HB2.out HB2.out.size HBq.out).size hb6); clear hb6))
       go_roundg (10 - (q + 1))
       case measure => omega
       case rel => exact ⟨q + 1, by go_num, by omega, by omega, HP2, HB6, HO6⟩
    ·
     rw [if_pos rfl] at hxx
     have HXE := az (Option.some.inj hxx).symm
     clear hxx
     go_wp2_with (first | ((with_reducible refine gate_builtin (b := .append) (xs := #[.tmp 56, .tmp 57]) rfl ?_); at_builtin; go_must (refine appI (w0 := w3) (base := w3.heap.size) Tryz.underlying22 info3 rfl (.tmp 56) (.tmp 57) rfl _ out 0 rfl rfl HO.out HB.out HB.out.size ?aL ?_); (case aL => have := HLO.out; omega); intro v9 w9 ho9 hb9 hg9 hat9; have HO9 := az ho9; have HB9 := az hb9; clear ho9 hb9 hg9 hat9))
     go_roundg (cs.length - (i + 1))
     case measure => omega
     case rel => exact ⟨m, s2, _, by first | rfl | go_num, rfl, zE HM.out, zE HM.out, ⟨by rw [HM.out]; exact HFF.out⟩, ⟨by rw [List.length_append, HLO.out, HM.out]; rfl⟩, ⟨by have := HXE.out; rw [this]; exact HO9.out⟩, HB9⟩
  ·
   have hltz : ¬ (i : Int) < (cs.length : Int) := by omega
   obtain rfl : i = cs.length := by omega
   have hf := HF.out
   rw [Nat.sub_self, brL] at hf
   obtain rfl := Option.some.inj hf
   clear hf HF
   go_wp2
   go_ret
   exact ⟨_, rfl, Kd.R_lower HO.out HB3.out.size, below_then HB3.out HB3.out.size HB.out⟩
def impl_BreaksOf.f (k : Nat) (l0 : List Int) : Option (List Int) := (impl_lettersOk.f l0).bind fun t429 => (if t429 = true then ((impl_breaks.f k l0).bind fun t430 => (some t430)) else (some ([] : List Int)))
theorem impl_BreaksOf.mono : ∀ a0 k, LeO (impl_BreaksOf.f k a0) (impl_BreaksOf.f (k + 1) a0) := by
 intro a0 k; unfold impl_BreaksOf.f
 repeat' first
   | (with_reducible exact impl_breaks.mono _ _)
   | (with_reducible exact LeO.refl _)
   | (with_reducible exact LeO.none _)
   | (with_reducible refine LeO.ite ?_ ?_)
   | (with_reducible refine LeO.bind ?_ (fun _ => ?_))
   | exact impl_breaks.mono _ _
   | exact LeO.none _
   | refine LeO.ite ?_ ?_
   | refine LeO.bind ?_ (fun _ => ?_)
theorem impl_BreaksOf.calls (k : Nat) (A0 : Option Addr) (c0 : Nat) (l0 : List Int) (r : List Int) (w : World) (hr0 : Kd.C (Kd.int .i64) w A0 l0.length l0) (hc0 : l0.length ≤ c0) (h : impl_BreaksOf.f k l0 = some r) :
  Calls Tryz.prog 23 #[.slice A0 l0.length c0] w fun e w' => ∃ v0_ : Value, e = .returned (v0_) ∧ Kd.R (Kd.int .i64) 3 w' w.heap.size (fun _ => True) v0_ r ∧ Below w.heap.size w w' := by
 have HR0 := az hr0; have HC0 := az hc0; clear hr0 hc0; have HB := az (Below.refl w.heap.size w); have H : ((impl_lettersOk.f l0).bind fun t429 => (if t429 = true then ((impl_breaks.f k l0).bind fun t430 => (some t430)) else (some ([] : List Int)))) = some r := h; clear h; replace H := Option.bind_eq_some_iff.mp H; obtain ⟨t429, A20, H⟩ := H; replace H : (if t429 = true then ((impl_breaks.f k l0).bind fun t430 => (some t430)) else (some ([] : List Int))) = some r := H; have A2 := az A20; clear A20; by_cases c3 : t429 = true
 ·
  subst c3; have H1 : ((impl_breaks.f k l0).bind fun t430 => (some t430)) = some r := by rw [if_pos rfl] at H; exact H
  clear H; have H := H1; clear H1; replace H := Option.bind_eq_some_iff.mp H; obtain ⟨t430, A40, H⟩ := H; replace H : (some t430) = some r := H; have A4 := az A40; clear A40; obtain rfl := Option.some.inj H; go_enter Tryz.func23, Tryz.ntmps23; go_wp2_with (first | ((with_reducible refine gate_callee (f := 48) rfl ?_); refine goesL_ (some 4) rfl rfl Tryz.func48 (by kernel_rfl) rfl #[.slice A0 l0.length c0] rfl zC ?_; (with_reducible refine (impl_lettersOk.calls _ _ l0 true _ ?side1 ?side2 A2.out).mono ?_); (case side1 => exact (zO HR0.out)); (case side2 => exact HC0.out); rintro e w5 ⟨rfl, hb⟩; refine ⟨_, rfl, ?_⟩; have n0_ := az (below_step (zA HB.out) hb); clear HB; have HB := n0_; clear n0_; (try clear hb); (try clear hb2); (try clear hk); (try clear hi)) | ((with_reducible refine gate_callee (f := 49) rfl ?_); refine goesL_ (some 7) rfl rfl Tryz.func49 (by kernel_rfl) rfl #[.slice A0 l0.length c0] rfl zC ?_; (with_reducible refine (impl_breaks.calls k _ _ l0 t430 _ ?side1 ?side2 A4.out).mono ?_); (case side1 => exact (zM HR0.out HB.out)); (case side2 => exact HC0.out); rintro e w6 ⟨v431, rfl, ho0, hb⟩; refine ⟨_, rfl, ?_⟩; have n0_ := az (Kd.R_lower ho0 (below_size (zA HB.out))); have n1_ := az (below_step (zA HB.out) hb); clear HB; have HO432 := n0_; have HB := n1_; clear n0_ n1_; (try clear hb); (try clear hb2); (try clear hk); (try clear hi); (try clear ho0))); go_ret; exact ⟨_, zG, zF HO432.out, zA HB.out⟩
 ·
  replace c3 := Bool.eq_false_iff.mpr c3; subst c3; have H1 : (some ([] : List Int)) = some r := by rw [if_neg (show ¬ (false = true) by decide)] at H; exact H
  clear H; have H := H1; clear H1; obtain rfl := Option.some.inj H; go_enter Tryz.func23, Tryz.ntmps23; go_wp2_with (first | ((with_reducible refine gate_callee (f := 48) rfl ?_); refine goesL_ (some 4) rfl rfl Tryz.func48 (by kernel_rfl) rfl #[.slice A0 l0.length c0] rfl zC ?_; (with_reducible refine (impl_lettersOk.calls _ _ l0 false _ ?side1 ?side2 A2.out).mono ?_); (case side1 => exact (zO HR0.out)); (case side2 => exact HC0.out); rintro e w7 ⟨rfl, hb⟩; refine ⟨_, rfl, ?_⟩; have n0_ := az (below_step (zA HB.out) hb); clear HB; have HB := n0_; clear n0_; (try clear hb); (try clear hb2); (try clear hk); (try clear hi))); go_ret; exact ⟨_, zG, zS, zA HB.out⟩
def impl_WordsOf.l0 : Nat → List Int → List Int → Int → Int → Option (List Int)
 | 0, _, _, _, _ => none
 | k + 1, x3, x7, x8, x9 => if x9 < x8 then (if 0 ≤ x9 then (if x9 < (x7.length : Int) then (if (rd x7 x9) = 0 then (impl_WordsOf.l0 k x3 x7 x8 (wrap64 (x9 + 1))) else (if x3.length < 17592186044416 then (impl_WordsOf.l0 k (x3 ++ [wrap64 (x9 + 1)]) x7 x8 (wrap64 (x9 + 1))) else (none))) else (none)) else (none)) else (some x3)
def impl_WordsOf.f (k : Nat) (l0 : List Int) : Option (List Int) := (impl_BreaksOf.f k l0).bind fun t440 => (impl_WordsOf.l0 k ([] : List Int) t440 (t440.length : Int) 0)
theorem impl_WordsOf.mono_l : ∀ k, (∀ y0 y1 y2 y3, LeO (impl_WordsOf.l0 k y0 y1 y2 y3) (impl_WordsOf.l0 (k + 1) y0 y1 y2 y3))
 | 0 => fun _ _ _ _ r h => by simp [impl_WordsOf.l0] at h
 | k + 1 => by
  have ih0 := impl_WordsOf.mono_l k
  ·
   intro y0 y1 y2 y3; unfold impl_WordsOf.l0
   repeat' first
   | (with_reducible exact ih0 _ _ _ _)
   | (with_reducible exact impl_BreaksOf.mono _ _)
   | (with_reducible exact LeO.refl _)
   | (with_reducible exact LeO.none _)
   | (with_reducible refine LeO.ite ?_ ?_)
   | (with_reducible refine LeO.bind ?_ (fun _ => ?_))
   | exact ih0 _ _ _ _
   | exact impl_BreaksOf.mono _ _
   | exact LeO.none _
   | refine LeO.ite ?_ ?_
   | refine LeO.bind ?_ (fun _ => ?_)
theorem impl_WordsOf.mono : ∀ a0 k, LeO (impl_WordsOf.f k a0) (impl_WordsOf.f (k + 1) a0) := by
 intro a0 k; have ih0 := impl_WordsOf.mono_l k; unfold impl_WordsOf.f
 repeat' first
   | (with_reducible exact ih0 _ _ _ _)
   | (with_reducible exact impl_BreaksOf.mono _ _)
   | (with_reducible exact LeO.refl _)
   | (with_reducible exact LeO.none _)
   | (with_reducible refine LeO.ite ?_ ?_)
   | (with_reducible refine LeO.bind ?_ (fun _ => ?_))
   | exact ih0 _ _ _ _
   | exact impl_BreaksOf.mono _ _
   | exact LeO.none _
   | refine LeO.ite ?_ ?_
   | refine LeO.bind ?_ (fun _ => ?_)
theorem impl_WordsOf.calls (k : Nat) (A0 : Option Addr) (c0 : Nat) (l0 : List Int) (r : List Int) (w : World) (hr0 : Kd.C (Kd.int .i64) w A0 l0.length l0) (hc0 : l0.length ≤ c0) (h : impl_WordsOf.f k l0 = some r) :
  Calls Tryz.prog 28 #[.slice A0 l0.length c0] w fun e w' => ∃ v0_ : Value, e = .returned (v0_) ∧ Kd.R (Kd.int .i64) 3 w' w.heap.size (fun _ => True) v0_ r ∧ Below w.heap.size w w' := by
 have HR0 := az hr0; have HC0 := az hc0; clear hr0 hc0; have HB := az (Below.refl w.heap.size w); have H : ((impl_BreaksOf.f k l0).bind fun t440 => (impl_WordsOf.l0 k ([] : List Int) t440 (t440.length : Int) 0)) = some r := h; clear h; replace H := Option.bind_eq_some_iff.mp H; obtain ⟨t440, A20, H⟩ := H; replace H : (impl_WordsOf.l0 k ([] : List Int) t440 (t440.length : Int) 0) = some r := H; have A2 := az A20; clear A20; have H' := az H; clear H; go_enter Tryz.func28, Tryz.ntmps28; go_wp2_with (first | ((with_reducible refine gate_callee (f := 23) rfl ?_); refine goesL_ (some 7) rfl rfl Tryz.func23 (by kernel_rfl) rfl #[.slice A0 l0.length c0] rfl zC ?_; (with_reducible refine (impl_BreaksOf.calls k _ _ l0 t440 _ ?side1 ?side2 A2.out).mono ?_); (case side1 => exact (zO HR0.out)); (case side2 => exact HC0.out); rintro e w3 ⟨v441, rfl, ho0, hb⟩; refine ⟨_, rfl, ?_⟩; have n0_ := az (Kd.R_lower ho0 (below_size (zA HB.out))); have n1_ := az (below_step (zA HB.out) hb); clear HB; have HO442 := n0_; have HB := n1_; clear n0_ n1_; (try clear hb); (try clear hb2); (try clear hk); (try clear hi); (try clear ho0); obtain ⟨Ao4, co4, eo4⟩ := Kd.R_slice HO442.out; subst eo4)); go_loopg [3, 9] k (fun kq v3 v9 w' => ∃ (x3_1 : List Int) (x9_1 : Int), v9 = .int .i64 x9_1 ∧ Aside0 (impl_WordsOf.l0 kq x3_1 t440 (t440.length : Int) x9_1 = some r) ∧ Aside0 (kq ≤ k) ∧ Aside0 (Kd.R (Kd.int .i64) 3 w' w.heap.size (fun k_ => some k_ ≠ ((.slice Ao4 t440.length co4) : Value).ownBlock) v3 x3_1) ∧ Aside0 (Kd.R (Kd.int .i64) 3 w' w.heap.size (fun k_ => some k_ ≠ (v3 : Value).ownBlock) (.slice Ao4 t440.length co4) t440) ∧ Aside0 (Below w.heap.size w w'))
 case atStart => exact ⟨(([] : List Int)), (0), zB, H', ⟨Nat.le_refl _⟩, ⟨zS⟩, ⟨by (with_reducible repeat (first | apply Kd.R_alloc | apply Kd.R_drewN | apply Kd.R_drew)); exact Kd.R_mono HO442.out (fun _ hk => (by simp [Value.ownBlock]))⟩, ⟨zA HB.out⟩⟩
 case round =>
  clear H'; (try clear c2); (try clear p2); obtain ⟨x3_1, x9_1, rfl, HA, HK1, HO_3, HO_7, HB⟩ := hrel
  cases gk with
  | zero => exact absurd HA.out (by simp [impl_WordsOf.l0])
  | succ k1 =>
   have H := HA.out; clear HA; simp only [impl_WordsOf.l0] at H; by_cases c5 : x9_1 < (t440.length : Int)
   ·
    rw [if_pos c5] at H; have c5b0 : decide (x9_1 < (t440.length : Int)) = true := decide_eq_true c5; clear c5; by_cases c6 : 0 ≤ x9_1
    ·
     rw [if_pos c6] at H; have c6b0 : decide (0 ≤ x9_1) = true := decide_eq_true c6; clear c6; by_cases c7 : x9_1 < (t440.length : Int)
     ·
      rw [if_pos c7] at H; have c7b0 : decide (x9_1 < (t440.length : Int)) = true := decide_eq_true c7; clear c7; by_cases c8 : (rd t440 x9_1) = 0
      ·
       rw [if_pos c8] at H; have c8b0 : ((rd t440 x9_1) == 0) = true := beq_iff_eq.mpr c8; have c8b1 : ((rd t440 x9_1) != 0) = false := bne_eq_false_iff_eq.mpr c8; clear c8; have H' := az H; clear H; have p443 : 0 ≤ (x9_1 : Int) := of_decide_eq_true (by assumption); have q443 : x9_1 < (t440.length : Int) := of_decide_eq_true (by assumption); obtain ⟨ad443, e443, hx443_0⟩ := Kd.at_int (Kd.R_reads' HO_7.out).2.2 x9_1 p443 q443
       cases e443
       replace p443 := eq_true p443; replace q443 := eq_true q443; go_wp2; go_roundg k1
       case measure => have := HK1.out; omega
       case rel => exact ⟨(x3_1), (wrap64 (x9_1 + 1)), zB, H', ⟨zE HK1.out⟩, ⟨zF HO_3.out⟩, ⟨zF HO_7.out⟩, ⟨zA HB.out⟩⟩
      ·
       rw [if_neg c8] at H; have c8b0 : ((rd t440 x9_1) == 0) = false := beq_eq_false_iff_ne.mpr c8; have c8b1 : ((rd t440 x9_1) != 0) = true := bne_iff_ne.mpr c8; by_cases c9 : x3_1.length < 17592186044416
       ·
        rw [if_pos c9] at H; have LMc9 := az c9; clear c9; obtain ⟨y444, hy444⟩ : ∃ y_ : List Int, y_ = (x3_1 ++ [wrap64 (x9_1 + 1)]) := ⟨_, rfl⟩; replace H : (impl_WordsOf.l0 k1 y444 t440 (t440.length : Int) (wrap64 (x9_1 + 1))) = some r := by first | (rw [hy444]; with_reducible exact H) | (have H2_ := (Option.bind_some _ _).symm.trans H; rw [hy444]; with_reducible exact H2_) | (have H2_ := (Option.bind_some _ _).symm.trans H; with_reducible exact H2_) | with_reducible exact H | (rw [hy444]; exact H) | exact H
        have Ny444 := az hy444; clear hy444; have H' := az H; clear H; have p443 : 0 ≤ (x9_1 : Int) := of_decide_eq_true (by assumption); have q443 : x9_1 < (t440.length : Int) := of_decide_eq_true (by assumption); obtain ⟨ad443, e443, hx443_0⟩ := Kd.at_int (Kd.R_reads' HO_7.out).2.2 x9_1 p443 q443
        cases e443
        replace p443 := eq_true p443; replace q443 := eq_true q443; go_wp2_with (first | ((with_reducible refine gate_builtin (b := .append) (xs := #[.tmp 16, .tmp 19]) rfl ?_); at_builtin; refine Kd.R_append (Kd.int .i64) (w0 := w) w.heap.size rfl (.tmp 16) (.tmp 19) 22 3 (.int .i64 0) 8 rfl Tryz.underlying22 info3 rfl (by decide) (by omega) u3 x3_1 (wrap64 (x9_1 + 1)) [.int .i64 (wrap64 (x9_1 + 1))] (fun k_ => some k_ ≠ (.slice (some ad443) t440.length co4 : Value).ownBlock) (fun _ => False) rfl rfl ?aP (fun _ hk => hk.elim) ?aF ?aO ?aB ?aS ?aL ?_; (case aP => exact rfl); (case aB => exact (zA HB.out)); (case aF => exact (fun k_ hk => Kd.fresh' (Kd.R_lt (zF HO_7.out)) k_ hk)); (case aO => exact (zF HO_3.out)); (case aS => exact (below_size (zA HB.out))); (case aL => have := LMc9.out; omega); intro v445 w10 ho hb hg hat; rw [← Ny444.out] at ho; have n0_ := az (Kd.R_after (ok := (fun _ => True)) (zV HO_7.out) hg hat); have n1_ := az (hb); have n2_ := az (ho); clear HO_7; clear HB; clear HO_3; have HO_7 := n0_; have HB := n1_; have HO446 := n2_; clear n0_ n1_ n2_; clear ho hb hg hat)); go_roundg k1
        case measure => have := HK1.out; omega
        case rel => exact ⟨(y444), (wrap64 (x9_1 + 1)), zB, H', ⟨zE HK1.out⟩, ⟨zF HO446.out⟩, ⟨zQ HO_7.out⟩, ⟨zA HB.out⟩⟩
       ·
        rw [if_neg c9] at H; exact absurd H (by simp)
     ·
      rw [if_neg c7] at H; exact absurd H (by simp)
    ·
     rw [if_neg c6] at H; exact absurd H (by simp)
   ·
    rw [if_neg c5] at H; have c5b0 : decide (x9_1 < (t440.length : Int)) = false := decide_eq_false c5; clear c5; obtain rfl := Option.some.inj H; go_wp2; go_ret; exact ⟨_, zG, zX HO_3.out, zA HB.out⟩
structure Tod (is : List (Nat × Nat)) (p : Prop) : Prop where
 out : p
theorem Tod.pu {P : Program} {md : Region.Mode} {ops : Array Oper} {Q : Exit → Act → World → Prop} {S : World → Prop} {ds : List Nat} {is : List (Nat × Nat)} {i d fuel : Nat} {oi : Oper} {v : Value} {l : Array Bool} {a : Act} {w : World} (hi : ops[i]? = some oi) (hN : oi.dst = some d) (hc : anyB md ops l (l.setIfInBounds i true) i = true) (hQ : ∀ c a w, Q (.panic c) (a.put oi.dst v) w → Q (.panic c) a w) (hy : Yields P ops oi v a) {a' : Act} (ha : a.put (some d) v = a') (h : Tod is (wpAnyLast P md ops Q S ds fuel (l.setIfInBounds i true) a' w)) : Tod ((i, d) :: is) (wpAnyLast P md ops Q S ds (fuel + 1) l a w) := ⟨pure_ _ hi hN hc hQ hy ha h.out⟩
theorem Tod.ta {P : Program} {md : Region.Mode} {ops : Array Oper} {Q : Exit → Act → World → Prop} {S : World → Prop} {ds : List Nat} {is : List (Nat × Nat)} {i d fuel : Nat} {oi : Oper} {v : Value} {l : Array Bool} {a : Act} {w : World} (hi : ops[i]? = some oi) (hN : oi.dst = some d) (hc : takeB md ops ds l (l.setIfInBounds i true) i = true) (hQ : ∀ c a w, Q (.panic c) (a.put oi.dst v) w → Q (.panic c) a w) (hy : YieldsIf P ops S oi v a) (hS : S w) {a' : Act} (ha : a.put (some d) v = a') (h : Tod is (wpAnyLast P md ops Q S ds fuel (l.setIfInBounds i true) a' w)) : Tod ((i, d) :: is) (wpAnyLast P md ops Q S ds (fuel + 1) l a w) := ⟨take_ _ hi hN hc hQ hy hS ha h.out⟩
theorem Tod.on {P : Program} {md : Region.Mode} {ops : Array Oper} {Q : Exit → Act → World → Prop} {S : World → Prop} {ds : List Nat} {is : List (Nat × Nat)} {i d fuel : Nat} {oi : Oper} {l : Array Bool} {a : Act} {w : World} (hi : ops[i]? = some oi) (hN : oi.dst = some d) (hc : readyB md ops l (l.setIfInBounds i true) i = true) (hd : i ∉ ds) (h : ∀ K : Act → World → Prop, Shut (∀ a' w', S w' → (S w' → Tod is (wpAnyLast P md ops Q S ds fuel (l.setIfInBounds i true) a' w')) → K a' w') → if Region.wanted oi (yielded ops a.tmps) = true then Oper.wp P oi a w K Q else K (a.put (some d) undef) w) : Tod ((i, d) :: is) (wpAnyLast P md ops Q S ds (fuel + 1) l a w) := ⟨one_ _ hi hN hc hd (fun K hK => h K (show ∀ a w, _ → _ → K a w from fun a w h1 h2 => hK.out a w h1 (fun h3 => (h2 h3).out)))⟩
theorem Tod.no {is : List (Nat × Nat)} {P : Program} {md : Region.Mode} {ops : Array Oper} {Q : Exit → Act → World → Prop} {S : World → Prop} {ds : List Nat} {fuel : Nat} {l : Array Bool} {a a' : Act} {w : World} (ha : a = a') (h : Tod is (wpAnyLast P md ops Q S ds fuel l a' w)) : Tod is (wpAnyLast P md ops Q S ds fuel l a w) := ha ▸ h
theorem Tod.dn {P : Program} {md : Region.Mode} {ops : Array Oper} {Q : Exit → Act → World → Prop} {S : World → Prop} {ds : List Nat} {n : Nat} {l : Array Bool} {a : Act} {w : World} (hr : (Region.ready md ops l == []) = true) (h : Q .normal a w) : Tod [] (wpAnyLast P md ops Q S ds n l a w) := ⟨done_ hr h⟩
theorem Tod.st {P : Program} {ops : Array Oper} {Q : Exit → Act → World → Prop} {id : Nat} (n : Nat) (is : List (Nat × Nat)) (S : World → Prop) {a : Act} {w : World} (hm : P.follows .mixedOrders = true) (hn : ops.size = n) (hS : S w.drew) (h : ∀ wz, wz = w.drew → S wz → Tod is (wpAnyLast P .any ops Q S [] n (Array.replicate n false) a wz)) : (Code.region id ops true).wp P Q a w := start_ _ hm hn rfl hS (fun h2 => (h _ rfl h2).out)
def spec_l1In.f (a0 : Int) (a1 : Int) (a2 : Int) : Option (Bool) := if a0 ≥ a1 then (some (decide (a0 ≤ a2))) else (some false)
theorem spec_l1In.calls (a0 : Int) (a1 : Int) (a2 : Int) (r : Bool) (w : World) (h : spec_l1In.f a0 a1 a2 = some r) :
  Calls Tryz.prog 36 #[.int .i64 a0, .int .i64 a1, .int .i64 a2] w fun e w' => e = .returned (.bool r) ∧ Drawn0 w w' := by
 have H : (if a0 ≥ a1 then (some (decide (a0 ≤ a2))) else (some false)) = some r := h
 clear h
 by_cases c4 : a0 ≥ a1
 ·
  rw [if_pos c4] at H
  have c4b0 : decide (a1 ≤ a0) = true := decide_eq_true c4
  clear c4
  obtain rfl := Option.some.inj H
  go_enter Tryz.func36, Tryz.ntmps36
  go_wp2
  go_ret
  exact ⟨zB, zD⟩
 ·
  rw [if_neg c4] at H
  have c4b0 : decide (a1 ≤ a0) = false := decide_eq_false c4
  clear c4
  obtain rfl := Option.some.inj H
  go_enter Tryz.func36, Tryz.ntmps36
  go_wp2
  go_ret
  exact ⟨zB, zD⟩
def spec_l6Ok.f (a0_0 : Int) (a0_1 : Int) (a0_2 : Int) (a0_3 : Int) (a1 : Int) : Option (Bool) := (spec_l1In.f a0_0 0 (wrap64 (a1 - 1))).bind fun t109 => (if t109 = true then ((spec_l1In.f a0_1 (wrap64 (a0_0 + 1)) a1).bind fun t110 => (if t110 = true then ((spec_l1In.f a0_2 1 40).bind fun t111 => (if t111 = true then ((spec_l1In.f a0_3 0 9).bind fun t112 => (some t112)) else (some false))) else (some false))) else (some false))
theorem spec_l6Ok.calls (a0_0 : Int) (a0_1 : Int) (a0_2 : Int) (a0_3 : Int) (a1 : Int) (r : Bool) (w : World) (h : spec_l6Ok.f a0_0 a0_1 a0_2 a0_3 a1 = some r) :
  Calls Tryz.prog 96 #[.agg #[.int .i64 a0_0, .int .i64 a0_1, .int .i64 a0_2, .int .i64 a0_3], .int .i64 a1] w fun e w' => e = .returned (.bool r) ∧ Below w.heap.size w w' := by
 have hu50 := Tryz.underlying50; have HB := az (Below.refl w.heap.size w); have H : ((spec_l1In.f a0_0 0 (wrap64 (a1 - 1))).bind fun t109 => (if t109 = true then ((spec_l1In.f a0_1 (wrap64 (a0_0 + 1)) a1).bind fun t110 => (if t110 = true then ((spec_l1In.f a0_2 1 40).bind fun t111 => (if t111 = true then ((spec_l1In.f a0_3 0 9).bind fun t112 => (some t112)) else (some false))) else (some false))) else (some false))) = some r := h; clear h; replace H := Option.bind_eq_some_iff.mp H; obtain ⟨t109, A30, H⟩ := H; replace H : (if t109 = true then ((spec_l1In.f a0_1 (wrap64 (a0_0 + 1)) a1).bind fun t110 => (if t110 = true then ((spec_l1In.f a0_2 1 40).bind fun t111 => (if t111 = true then ((spec_l1In.f a0_3 0 9).bind fun t112 => (some t112)) else (some false))) else (some false))) else (some false)) = some r := H; have A3 := az A30; clear A30; by_cases c4 : t109 = true
 ·
  subst c4; have H1 : ((spec_l1In.f a0_1 (wrap64 (a0_0 + 1)) a1).bind fun t110 => (if t110 = true then ((spec_l1In.f a0_2 1 40).bind fun t111 => (if t111 = true then ((spec_l1In.f a0_3 0 9).bind fun t112 => (some t112)) else (some false))) else (some false))) = some r := by rw [if_pos rfl] at H; exact H
  clear H; have H := H1; clear H1; replace H := Option.bind_eq_some_iff.mp H; obtain ⟨t110, A50, H⟩ := H; replace H : (if t110 = true then ((spec_l1In.f a0_2 1 40).bind fun t111 => (if t111 = true then ((spec_l1In.f a0_3 0 9).bind fun t112 => (some t112)) else (some false))) else (some false)) = some r := H; have A5 := az A50; clear A50; by_cases c6 : t110 = true
  ·
   subst c6; have H1 : ((spec_l1In.f a0_2 1 40).bind fun t111 => (if t111 = true then ((spec_l1In.f a0_3 0 9).bind fun t112 => (some t112)) else (some false))) = some r := by rw [if_pos rfl] at H; exact H
   clear H; have H := H1; clear H1; replace H := Option.bind_eq_some_iff.mp H; obtain ⟨t111, A70, H⟩ := H; replace H : (if t111 = true then ((spec_l1In.f a0_3 0 9).bind fun t112 => (some t112)) else (some false)) = some r := H; have A7 := az A70; clear A70; by_cases c8 : t111 = true
   ·
    subst c8; have H1 : ((spec_l1In.f a0_3 0 9).bind fun t112 => (some t112)) = some r := by rw [if_pos rfl] at H; exact H
    clear H; have H := H1; clear H1; replace H := Option.bind_eq_some_iff.mp H; obtain ⟨t112, A90, H⟩ := H; replace H : (some t112) = some r := H; have A9 := az A90; clear A90; obtain rfl := Option.some.inj H; go_enter Tryz.func96, Tryz.ntmps96; go_wp2_with (first | ((with_reducible refine gate_dst (N := 2) rfl ?_); refine box_event ?hg (N := 2) ?hd (cs := #[.int .i64 a0_0, .int .i64 a0_1, .int .i64 a0_2, .int .i64 a0_3]) (t := 50) ?hr ?_; (case hd => rfl); (case hg => rfl); (case hr => first | (go_simp; done) | (go_simp; rfl)); intro gb108 hg w10 hbox hb; have n0_ := az (below_step (zA HB.out) hb); have n1_ := az (hbox); have n2_ := az ((by rw [hg]; exact (below_size (zA HB.out)) : w.heap.size ≤ gb108)); have n3_ := az ((by rw [hg]; exact (below_size (zA HB.out)) : w.heap.size ≤ gb108)); clear HB; have HB := n0_; have BK108 := n1_; have GW108 := n2_; have GE108 := n3_; clear n0_ n1_ n2_ n3_; clear hb hbox hg; have hcz11_0 : w10.cell? ⟨gb108, 0, none⟩ = some (.int .i64 a0_0) := (blk_cell BK108.out 0).trans rfl; have hcz11_1 : w10.cell? ⟨gb108, 1, none⟩ = some (.int .i64 a0_1) := (blk_cell BK108.out 1).trans rfl; have hcz11_2 : w10.cell? ⟨gb108, 2, none⟩ = some (.int .i64 a0_2) := (blk_cell BK108.out 2).trans rfl; have hcz11_3 : w10.cell? ⟨gb108, 3, none⟩ = some (.int .i64 a0_3) := (blk_cell BK108.out 3).trans rfl; have hfz11_0 := blk_frozen BK108.out 0; have hfz11_1 := blk_frozen BK108.out 1; have hfz11_2 := blk_frozen BK108.out 2; have hfz11_3 := blk_frozen BK108.out 3) | ((with_reducible refine gate_callee (f := 36) rfl ?_); refine goesL_ (some 9) rfl rfl Tryz.func36 (by kernel_rfl) rfl #[.int .i64 a0_0, .int .i64 0, .int .i64 (wrap64 (a1 - 1))] rfl zC ?_; (with_reducible refine (spec_l1In.calls a0_0 0 (wrap64 (a1 - 1)) true _ A3.out).mono ?_); rintro e w' ⟨rfl, ⟨nd, rfl⟩⟩; refine ⟨_, rfl, ?_⟩) | (go_at_call 36; (with_reducible refine (spec_l1In.calls a0_1 (wrap64 (a0_0 + 1)) a1 true _ A5.out).mono ?_); rintro e w' ⟨rfl, ⟨nd, rfl⟩⟩) | (go_at_call 36; (with_reducible refine (spec_l1In.calls a0_2 1 40 true _ A7.out).mono ?_); rintro e w' ⟨rfl, ⟨nd, rfl⟩⟩) | (go_at_call 36; (with_reducible refine (spec_l1In.calls a0_3 0 9 t112 _ A9.out).mono ?_); rintro e w' ⟨rfl, ⟨nd, rfl⟩⟩)); go_ret; exact ⟨zG, zK HB.out GE108.out⟩
   ·
    replace c8 := Bool.eq_false_iff.mpr c8; subst c8; have H1 : (some false) = some r := by rw [if_neg (show ¬ (false = true) by decide)] at H; exact H
    clear H; have H := H1; clear H1; obtain rfl := Option.some.inj H; go_enter Tryz.func96, Tryz.ntmps96; go_wp2_with (first | ((with_reducible refine gate_dst (N := 2) rfl ?_); refine box_event ?hg (N := 2) ?hd (cs := #[.int .i64 a0_0, .int .i64 a0_1, .int .i64 a0_2, .int .i64 a0_3]) (t := 50) ?hr ?_; (case hd => rfl); (case hg => rfl); (case hr => first | (go_simp; done) | (go_simp; rfl)); intro gb108 hg w12 hbox hb; have n0_ := az (below_step (zA HB.out) hb); have n1_ := az (hbox); have n2_ := az ((by rw [hg]; exact (below_size (zA HB.out)) : w.heap.size ≤ gb108)); have n3_ := az ((by rw [hg]; exact (below_size (zA HB.out)) : w.heap.size ≤ gb108)); clear HB; have HB := n0_; have BK108 := n1_; have GW108 := n2_; have GE108 := n3_; clear n0_ n1_ n2_ n3_; clear hb hbox hg; have hcz13_0 : w12.cell? ⟨gb108, 0, none⟩ = some (.int .i64 a0_0) := (blk_cell BK108.out 0).trans rfl; have hcz13_1 : w12.cell? ⟨gb108, 1, none⟩ = some (.int .i64 a0_1) := (blk_cell BK108.out 1).trans rfl; have hcz13_2 : w12.cell? ⟨gb108, 2, none⟩ = some (.int .i64 a0_2) := (blk_cell BK108.out 2).trans rfl; have hcz13_3 : w12.cell? ⟨gb108, 3, none⟩ = some (.int .i64 a0_3) := (blk_cell BK108.out 3).trans rfl; have hfz13_0 := blk_frozen BK108.out 0; have hfz13_1 := blk_frozen BK108.out 1; have hfz13_2 := blk_frozen BK108.out 2; have hfz13_3 := blk_frozen BK108.out 3) | ((with_reducible refine gate_callee (f := 36) rfl ?_); refine goesL_ (some 9) rfl rfl Tryz.func36 (by kernel_rfl) rfl #[.int .i64 a0_0, .int .i64 0, .int .i64 (wrap64 (a1 - 1))] rfl zC ?_; (with_reducible refine (spec_l1In.calls a0_0 0 (wrap64 (a1 - 1)) true _ A3.out).mono ?_); rintro e w' ⟨rfl, ⟨nd, rfl⟩⟩; refine ⟨_, rfl, ?_⟩) | (go_at_call 36; (with_reducible refine (spec_l1In.calls a0_1 (wrap64 (a0_0 + 1)) a1 true _ A5.out).mono ?_); rintro e w' ⟨rfl, ⟨nd, rfl⟩⟩) | (go_at_call 36; (with_reducible refine (spec_l1In.calls a0_2 1 40 false _ A7.out).mono ?_); rintro e w' ⟨rfl, ⟨nd, rfl⟩⟩)); go_ret; exact ⟨zG, zK HB.out GE108.out⟩
  ·
   replace c6 := Bool.eq_false_iff.mpr c6; subst c6; have H1 : (some false) = some r := by rw [if_neg (show ¬ (false = true) by decide)] at H; exact H
   clear H; have H := H1; clear H1; obtain rfl := Option.some.inj H; go_enter Tryz.func96, Tryz.ntmps96; go_wp2_with (first | ((with_reducible refine gate_dst (N := 2) rfl ?_); refine box_event ?hg (N := 2) ?hd (cs := #[.int .i64 a0_0, .int .i64 a0_1, .int .i64 a0_2, .int .i64 a0_3]) (t := 50) ?hr ?_; (case hd => rfl); (case hg => rfl); (case hr => first | (go_simp; done) | (go_simp; rfl)); intro gb108 hg w14 hbox hb; have n0_ := az (below_step (zA HB.out) hb); have n1_ := az (hbox); have n2_ := az ((by rw [hg]; exact (below_size (zA HB.out)) : w.heap.size ≤ gb108)); have n3_ := az ((by rw [hg]; exact (below_size (zA HB.out)) : w.heap.size ≤ gb108)); clear HB; have HB := n0_; have BK108 := n1_; have GW108 := n2_; have GE108 := n3_; clear n0_ n1_ n2_ n3_; clear hb hbox hg; have hcz15_0 : w14.cell? ⟨gb108, 0, none⟩ = some (.int .i64 a0_0) := (blk_cell BK108.out 0).trans rfl; have hcz15_1 : w14.cell? ⟨gb108, 1, none⟩ = some (.int .i64 a0_1) := (blk_cell BK108.out 1).trans rfl; have hcz15_2 : w14.cell? ⟨gb108, 2, none⟩ = some (.int .i64 a0_2) := (blk_cell BK108.out 2).trans rfl; have hcz15_3 : w14.cell? ⟨gb108, 3, none⟩ = some (.int .i64 a0_3) := (blk_cell BK108.out 3).trans rfl; have hfz15_0 := blk_frozen BK108.out 0; have hfz15_1 := blk_frozen BK108.out 1; have hfz15_2 := blk_frozen BK108.out 2; have hfz15_3 := blk_frozen BK108.out 3) | ((with_reducible refine gate_callee (f := 36) rfl ?_); refine goesL_ (some 9) rfl rfl Tryz.func36 (by kernel_rfl) rfl #[.int .i64 a0_0, .int .i64 0, .int .i64 (wrap64 (a1 - 1))] rfl zC ?_; (with_reducible refine (spec_l1In.calls a0_0 0 (wrap64 (a1 - 1)) true _ A3.out).mono ?_); rintro e w' ⟨rfl, ⟨nd, rfl⟩⟩; refine ⟨_, rfl, ?_⟩) | (go_at_call 36; (with_reducible refine (spec_l1In.calls a0_1 (wrap64 (a0_0 + 1)) a1 false _ A5.out).mono ?_); rintro e w' ⟨rfl, ⟨nd, rfl⟩⟩)); go_ret; exact ⟨zG, zK HB.out GE108.out⟩
 ·
  replace c4 := Bool.eq_false_iff.mpr c4; subst c4; have H1 : (some false) = some r := by rw [if_neg (show ¬ (false = true) by decide)] at H; exact H
  clear H; have H := H1; clear H1; obtain rfl := Option.some.inj H; go_enter Tryz.func96, Tryz.ntmps96; go_wp2_with (first | ((with_reducible refine gate_dst (N := 2) rfl ?_); refine box_event ?hg (N := 2) ?hd (cs := #[.int .i64 a0_0, .int .i64 a0_1, .int .i64 a0_2, .int .i64 a0_3]) (t := 50) ?hr ?_; (case hd => rfl); (case hg => rfl); (case hr => first | (go_simp; done) | (go_simp; rfl)); intro gb108 hg w16 hbox hb; have n0_ := az (below_step (zA HB.out) hb); have n1_ := az (hbox); have n2_ := az ((by rw [hg]; exact (below_size (zA HB.out)) : w.heap.size ≤ gb108)); have n3_ := az ((by rw [hg]; exact (below_size (zA HB.out)) : w.heap.size ≤ gb108)); clear HB; have HB := n0_; have BK108 := n1_; have GW108 := n2_; have GE108 := n3_; clear n0_ n1_ n2_ n3_; clear hb hbox hg; have hcz17_0 : w16.cell? ⟨gb108, 0, none⟩ = some (.int .i64 a0_0) := (blk_cell BK108.out 0).trans rfl; have hcz17_1 : w16.cell? ⟨gb108, 1, none⟩ = some (.int .i64 a0_1) := (blk_cell BK108.out 1).trans rfl; have hcz17_2 : w16.cell? ⟨gb108, 2, none⟩ = some (.int .i64 a0_2) := (blk_cell BK108.out 2).trans rfl; have hcz17_3 : w16.cell? ⟨gb108, 3, none⟩ = some (.int .i64 a0_3) := (blk_cell BK108.out 3).trans rfl; have hfz17_0 := blk_frozen BK108.out 0; have hfz17_1 := blk_frozen BK108.out 1; have hfz17_2 := blk_frozen BK108.out 2; have hfz17_3 := blk_frozen BK108.out 3) | ((with_reducible refine gate_callee (f := 36) rfl ?_); refine goesL_ (some 9) rfl rfl Tryz.func36 (by kernel_rfl) rfl #[.int .i64 a0_0, .int .i64 0, .int .i64 (wrap64 (a1 - 1))] rfl zC ?_; (with_reducible refine (spec_l1In.calls a0_0 0 (wrap64 (a1 - 1)) false _ A3.out).mono ?_); rintro e w' ⟨rfl, ⟨nd, rfl⟩⟩; refine ⟨_, rfl, ?_⟩)); go_ret; exact ⟨zG, zK HB.out GE108.out⟩
def spec_SpansOk.l0 : Nat → List S50 → Int → Int → Option Bool
 | 0, _, _, _ => none
 | k + 1, x0, x1, x5 => if x5 < (x0.length : Int) then (if 0 ≤ x5 then ((spec_l6Ok.f ((rd_T50 x0 x5).f0) ((rd_T50 x0 x5).f1) ((rd_T50 x0 x5).f2) ((rd_T50 x0 x5).f3) x1).bind fun t => (if t = true then (if x5 > 0 then (if 0 ≤ (wrap64 (x5 - 1)) then (if (wrap64 (x5 - 1)) < (x0.length : Int) then (if ((rd_T50 x0 (wrap64 (x5 - 1))).f1) > ((rd_T50 x0 x5).f0) then (some false) else (spec_SpansOk.l0 k x0 x1 (wrap64 (x5 + 1)))) else (none)) else (none)) else (spec_SpansOk.l0 k x0 x1 (wrap64 (x5 + 1)))) else (some false))) else (none)) else (if (x0.length : Int) ≤ 12 then ((spec_l1In.f x1 0 80).bind fun t => (some t)) else (some false))
def spec_SpansOk.f (k : Nat) (l0 : List S50) (a1 : Int) : Option Bool := spec_SpansOk.l0 k l0 a1 0
theorem spec_SpansOk.mono_l : ∀ k x0 x1 x5, LeO (spec_SpansOk.l0 k x0 x1 x5) (spec_SpansOk.l0 (k + 1) x0 x1 x5)
 | 0, _, _, _ => fun r h => by simp [spec_SpansOk.l0] at h
 | k + 1, x0, x1, x5 => by
  have ih := spec_SpansOk.mono_l k
  show LeO (spec_SpansOk.l0 (k + 1) x0 x1 x5) (spec_SpansOk.l0 ((k + 1) + 1) x0 x1 x5)
  unfold spec_SpansOk.l0
  exact LeO.ite (LeO.ite (LeO.bind (LeO.refl _) (fun t => LeO.ite (LeO.ite (LeO.ite (LeO.ite (LeO.ite (LeO.refl _) (ih _ _ _)) (LeO.refl _)) (LeO.refl _)) (ih _ _ _)) (LeO.refl _))) (LeO.refl _)) (LeO.refl _)
theorem spec_SpansOk.mono : ∀ a0 a1 k, LeO (spec_SpansOk.f k a0 a1) (spec_SpansOk.f (k + 1) a0 a1) := fun _ _ k => spec_SpansOk.mono_l k _ _ _
abbrev Sp5 (p0 p1 p2 p3 p4 : Addr) (v0 v1 v2 v3 v4 : Value) (w0 W : World) : Prop := W.cell? p0 = some v0 ∧ W.cell? p1 = some v1 ∧ W.cell? p2 = some v2 ∧ W.cell? p3 = some v3 ∧ W.cell? p4 = some v4 ∧ Aside0 (Below w0.heap.size w0 W)
theorem Sp5.below {p0 p1 p2 p3 p4 : Addr} {v0 v1 v2 v3 v4 : Value} {w0 W W' : World} (h : Sp5 p0 p1 p2 p3 p4 v0 v1 v2 v3 v4 w0 W) (hb : Below W.heap.size W W') : Sp5 p0 p1 p2 p3 p4 v0 v1 v2 v3 v4 w0 W' := by
 obtain ⟨h0, h1, h2, h3, h4, h5⟩ := h
 have c : ∀ p v, W.cell? p = some v → W'.cell? p = some v := fun p v h => (hb.cell (World.block_lt_of_cell? _ _ h)).trans h
 exact ⟨c _ _ h0, c _ _ h1, c _ _ h2, c _ _ h3, c _ _ h4, ⟨below_then h5.out h5.out.size hb⟩⟩
theorem Sp5.drew {p0 p1 p2 p3 p4 : Addr} {v0 v1 v2 v3 v4 : Value} {w0 W : World} (h : Sp5 p0 p1 p2 p3 p4 v0 v1 v2 v3 v4 w0 W) : Sp5 p0 p1 p2 p3 p4 v0 v1 v2 v3 v4 w0 W.drew := h.below (below_drew (Below.refl _ _))
theorem spec_SpansOk.calls (k : Nat) (A0 : Option Addr) (c0 : Nat) (l0 : List S50) (a1 : Int) (r : Bool) (w : World) (hr0 : Kd.C k50 w A0 l0.length l0) (hc0 : l0.length ≤ c0) (h : spec_SpansOk.f k l0 a1 = some r) :
  Calls Tryz.prog 69 #[.slice A0 l0.length c0, .int .i64 a1] w fun e w' => e = .returned (.bool r) ∧ Below w.heap.size w w' := by
 have hu := Tryz.underlying50
 have HR := az hr0
 have HF := az (show spec_SpansOk.l0 k l0 a1 0 = some r from h)
 clear hr0 hc0 h
 go_enter Tryz.func69, Tryz.ntmps69
 go_wp2
 go_loopg [5] k (fun gg s5 wr => ∃ x : Int, s5 = .int .i64 x ∧ Aside0 (spec_SpansOk.l0 gg l0 a1 x = some r) ∧ Aside0 (Below w.heap.size w wr))
 case atStart => exact ⟨0, rfl, HF, ⟨Below.refl _ _⟩⟩
 case round =>
  clear HF
  obtain ⟨x, rfl, HF, HW⟩ := hrel
  cases gk with
  | zero => exact absurd HF.out (by simp [spec_SpansOk.l0])
  | succ g =>
  have hq := HF.out
  rw [spec_SpansOk.l0] at hq
  clear HF
  by_cases hlt : x < (l0.length : Int)
  ·
   rw [if_pos hlt] at hq
   by_cases hx0 : 0 ≤ x
   case neg => rw [if_neg hx0] at hq; cases hq
   case pos =>
   rw [if_pos hx0] at hq
   obtain ⟨ad, rfl, h0, h1, h2, h3⟩ := at_T50 (Kd.C_below HR.out HW.out) x hx0 hlt
   obtain ⟨e, he⟩ : ∃ e, rd_T50 l0 x = e := ⟨_, rfl⟩
   rw [he] at h0 h1 h2 h3 hq
   clear he
   replace hq := Option.bind_eq_some_iff.mp hq
   obtain ⟨t, ht, hq⟩ := hq
   have HT := az ht
   clear ht
   obtain ⟨y, hy⟩ : ∃ y, wrap64 (x + 1) = y := ⟨_, rfl⟩
   have hy2 : IntKind.i64.wrap (x + 1) = y := (i64_w _).trans hy
   rw [hy] at hq
   have HL := az HR.out.2.1
   obtain ⟨p4, z, j, h4, h5⟩ : ∃ (p4 : Addr) (z j : Int), wr.cell? p4 = some (.int .i64 z) ∧ (0 < x → wrap64 (x - 1) = j ∧ 0 ≤ j ∧ j < (l0.length : Int) ∧ p4 = ⟨(ad.add (j.toNat * 4)).block, (ad.add (j.toNat * 4)).off + 1, none⟩ ∧ z = (rd_T50 l0 j).f1) := by
    by_cases hx : 0 < x
    ·
     obtain ⟨ad2, e2, _, g1, _, _⟩ := at_T50 (Kd.C_below HR.out HW.out) (x - 1) (by omega) (by omega)
     obtain rfl : ad = ad2 := Option.some.inj e2
     exact ⟨_, _, x - 1, g1, fun _ => ⟨by unfold wrap64; have := HL.out; unfold maxLen at this; omega, by omega, by omega, rfl, rfl⟩⟩
    · exact ⟨_, _, 0, h0, fun h => absurd h hx⟩
   have hS : Sp5 _ _ _ _ _ _ _ _ _ _ wr wr := ⟨h0, h1, h2, h3, h4, ⟨Below.refl _ _⟩⟩
   have H5 := az h5
   have HQ := az hq
   clear h0 h1 h2 h3 h4 h5 hq
   go_upto_region 4 with fail
   refine Tod.st 25 [(0, 12), (1, 13), (2, 14), (4, 16), (3, 15), (5, 17), (6, 18), (7, 19), (8, 20), (9, 21), (10, 22), (11, 23), (12, 24), (13, 25), (14, 26), (15, 27), (17, 29), (18, 30), (19, 31), (20, 32), (16, 28), (21, 33), (22, 34), (23, 35), (24, 36)] _ (by kernel_rfl) rfl (Sp5.drew hS) (fun wz _ hH => ?_)
   clear hS
   iterate 5 (first | (refine Tod.pu (v := ?_) (a' := ?_) rfl rfl (by kernel_rfl) (fun _ _ _ => id) (Or.inl ⟨by rfl, ?_⟩) ?_ ?_; rotate_left; intro w'; go_simp; (with_reducible rfl); rotate_left; simp only [Act.put, List.setIfInBounds_toArray, List.set_cons_zero, List.set_cons_succ, i64_w, i32_w]; rfl) | (refine Tod.ta (v := ?_) (a' := ?_) rfl rfl (by kernel_rfl) (fun _ _ _ => id) (Or.inl ⟨by rfl, ?_⟩) hH ?_ ?_; rotate_left; (rintro w' ⟨s0, s1, s2, s3, s4, _⟩; go_simp; with_reducible rfl); rotate_left; simp only [Act.put, List.setIfInBounds_toArray, List.set_cons_zero, List.set_cons_succ, i64_w, i32_w]; rfl) | (refine Tod.pu (v := undef) (a' := ?_) rfl rfl (by kernel_rfl) (fun _ _ _ => id) (Or.inr ⟨by rfl, rfl⟩) ?_ ?_; rotate_left; simp only [Act.put, List.setIfInBounds_toArray, List.set_cons_zero, List.set_cons_succ, i64_w, i32_w]; rfl))
   refine Tod.on rfl rfl (by kernel_rfl) (by decide) (fun K hK => ?_)
   refine goes_ Tryz.func96 (by kernel_rfl) rfl #[.agg #[.int .i64 e.f0, .int .i64 e.f1, .int .i64 e.f2, .int .i64 e.f3], .int .i64 a1] (by rfl) rfl rfl zC ?_
   refine (spec_l6Ok.calls e.f0 e.f1 e.f2 e.f3 a1 t _ HT.out).mono ?_
   rintro e9 w9 ⟨rfl, p⟩
   refine ⟨_, rfl, ?_⟩
   refine hK.out _ _ (Sp5.below hH p) (fun hH => ?_)
   clear hK K p
   refine Tod.no (a' := ?_) ?_ ?_; rotate_left
   · show Act.put _ (some 17) _ = _; simp only [Act.put, List.setIfInBounds_toArray, List.set_cons_zero, List.set_cons_succ]; rfl
   cases t
   ·
    have hq := HQ.out
    rw [if_neg (by decide)] at hq
    obtain rfl := Option.some.inj hq
    clear hq
    repeat (first | (refine Tod.pu (v := ?_) (a' := ?_) rfl rfl (by kernel_rfl) (fun _ _ _ => id) (Or.inl ⟨by rfl, ?_⟩) ?_ ?_; rotate_left; intro w'; go_simp; (with_reducible rfl); rotate_left; simp only [Act.put, List.setIfInBounds_toArray, List.set_cons_zero, List.set_cons_succ, i64_w, i32_w]; rfl) | (refine Tod.ta (v := ?_) (a' := ?_) rfl rfl (by kernel_rfl) (fun _ _ _ => id) (Or.inl ⟨by rfl, ?_⟩) hH ?_ ?_; rotate_left; (rintro w' ⟨s0, s1, s2, s3, s4, _⟩; go_simp; with_reducible rfl); rotate_left; simp only [Act.put, List.setIfInBounds_toArray, List.set_cons_zero, List.set_cons_succ, i64_w, i32_w]; rfl) | (refine Tod.pu (v := undef) (a' := ?_) rfl rfl (by kernel_rfl) (fun _ _ _ => id) (Or.inr ⟨by rfl, rfl⟩) ?_ ?_; rotate_left; simp only [Act.put, List.setIfInBounds_toArray, List.set_cons_zero, List.set_cons_succ, i64_w, i32_w]; rfl))
    refine Tod.dn (by kernel_rfl) ?_
    go_wp2
    go_ret
    exact ⟨rfl, below_then HW.out HW.out.size hH.2.2.2.2.2.out⟩
   have hq := HQ.out
   rw [if_pos rfl] at hq
   by_cases hx : 0 < x
   ·
    obtain ⟨g1, g2, g3, rfl, g4⟩ := H5.out hx
    have dx : decide (0 < x) = true := decide_eq_true hx
    have g5 : IntKind.i64.wrap (x - 1) = j := (i64_w _).trans g1
    rw [if_pos hx, g1, if_pos g2, if_pos g3, ← g4] at hq
    have HQ2 := az hq
    clear hq hx g4
    repeat (first | (refine Tod.pu (v := ?_) (a' := ?_) rfl rfl (by kernel_rfl) (fun _ _ _ => id) (Or.inl ⟨by rfl, ?_⟩) ?_ ?_; rotate_left; intro w'; go_simp; (with_reducible rfl); rotate_left; simp only [Act.put, List.setIfInBounds_toArray, List.set_cons_zero, List.set_cons_succ, i64_w, i32_w]; rfl) | (refine Tod.ta (v := ?_) (a' := ?_) rfl rfl (by kernel_rfl) (fun _ _ _ => id) (Or.inl ⟨by rfl, ?_⟩) hH ?_ ?_; rotate_left; (rintro w' ⟨s0, s1, s2, s3, s4, _⟩; go_simp; with_reducible rfl); rotate_left; simp only [Act.put, List.setIfInBounds_toArray, List.set_cons_zero, List.set_cons_succ, i64_w, i32_w]; rfl) | (refine Tod.pu (v := undef) (a' := ?_) rfl rfl (by kernel_rfl) (fun _ _ _ => id) (Or.inr ⟨by rfl, rfl⟩) ?_ ?_; rotate_left; simp only [Act.put, List.setIfInBounds_toArray, List.set_cons_zero, List.set_cons_succ, i64_w, i32_w]; rfl))
    refine Tod.dn (by kernel_rfl) ?_
    have hq := HQ2.out
    by_cases hz : z > e.f0
    ·
     rw [if_pos hz] at hq
     obtain rfl := Option.some.inj hq
     have dz : decide (e.f0 < z) = true := decide_eq_true hz
     rw [dz]
     clear hz hq
     go_wp2
     go_ret
     exact ⟨rfl, below_then HW.out HW.out.size hH.2.2.2.2.2.out⟩
    ·
     rw [if_neg hz] at hq
     have dz : decide (e.f0 < z) = false := decide_eq_false hz
     have HQ3 := az hq
     rw [dz]
     clear hz hq
     go_wp2
     go_roundg g
     case measure => omega
     case rel => exact ⟨y, rfl, HQ3, ⟨below_then HW.out HW.out.size hH.2.2.2.2.2.out⟩⟩
   ·
    have dx : decide (0 < x) = false := decide_eq_false hx
    rw [if_neg hx] at hq
    have HQ2 := az hq
    clear hq hx
    repeat (first | (refine Tod.pu (v := ?_) (a' := ?_) rfl rfl (by kernel_rfl) (fun _ _ _ => id) (Or.inl ⟨by rfl, ?_⟩) ?_ ?_; rotate_left; intro w'; go_simp; (with_reducible rfl); rotate_left; simp only [Act.put, List.setIfInBounds_toArray, List.set_cons_zero, List.set_cons_succ, i64_w, i32_w]; rfl) | (refine Tod.ta (v := ?_) (a' := ?_) rfl rfl (by kernel_rfl) (fun _ _ _ => id) (Or.inl ⟨by rfl, ?_⟩) hH ?_ ?_; rotate_left; (rintro w' ⟨s0, s1, s2, s3, s4, _⟩; go_simp; with_reducible rfl); rotate_left; simp only [Act.put, List.setIfInBounds_toArray, List.set_cons_zero, List.set_cons_succ, i64_w, i32_w]; rfl) | (refine Tod.pu (v := undef) (a' := ?_) rfl rfl (by kernel_rfl) (fun _ _ _ => id) (Or.inr ⟨by rfl, rfl⟩) ?_ ?_; rotate_left; simp only [Act.put, List.setIfInBounds_toArray, List.set_cons_zero, List.set_cons_succ, i64_w, i32_w]; rfl))
    refine Tod.dn (by kernel_rfl) ?_
    go_wp2
    go_roundg g
    case measure => omega
    case rel => exact ⟨y, rfl, HQ2, ⟨below_then HW.out HW.out.size hH.2.2.2.2.2.out⟩⟩
  ·
   rw [if_neg hlt] at hq
   by_cases hl : (l0.length : Int) ≤ 12
   ·
    have dl : decide ((l0.length : Int) ≤ 12) = true := decide_eq_true hl
    rw [if_pos hl] at hq
    obtain ⟨t, ht, hq⟩ := Option.bind_eq_some_iff.mp hq
    obtain rfl := Option.some.inj hq
    have HT := az ht
    clear hl hq ht
    go_wp2_with (go_at_call 36; go_must (refine (spec_l1In.calls a1 0 80 t _ HT.out).mono ?_); rintro e9 w9 ⟨rfl, ⟨nd, rfl⟩⟩)
    go_ret
    exact ⟨rfl, pw_below_drewN HW.out _⟩
   ·
    have dl : decide ((l0.length : Int) ≤ 12) = false := decide_eq_false hl
    rw [if_neg hl] at hq
    obtain rfl := Option.some.inj hq
    clear hl hq
    go_wp2
    go_ret
    exact ⟨rfl, HW.out⟩
def impl_spanOk.f (a0_0 : Int) (a0_1 : Int) (a0_2 : Int) (a0_3 : Int) (a1 : Int) : Option (Bool) := if a0_0 ≥ 0 then (if a0_0 < a1 then (if a0_1 > a0_0 then (if a0_1 ≤ a1 then (if a0_2 ≥ 1 then (if a0_2 ≤ 40 then (if a0_3 ≥ 0 then (some (decide (a0_3 ≤ 9))) else (some false)) else (some false)) else (some false)) else (some false)) else (some false)) else (some false)) else (some false)
theorem impl_spanOk.calls (a0_0 : Int) (a0_1 : Int) (a0_2 : Int) (a0_3 : Int) (a1 : Int) (r : Bool) (w : World) (h : impl_spanOk.f a0_0 a0_1 a0_2 a0_3 a1 = some r) :
  Calls Tryz.prog 84 #[.agg #[.int .i64 a0_0, .int .i64 a0_1, .int .i64 a0_2, .int .i64 a0_3], .int .i64 a1] w fun e w' => e = .returned (.bool r) ∧ Below w.heap.size w w' := by
 have hu50 := Tryz.underlying50; have HB := az (Below.refl w.heap.size w); have H : (if a0_0 ≥ 0 then (if a0_0 < a1 then (if a0_1 > a0_0 then (if a0_1 ≤ a1 then (if a0_2 ≥ 1 then (if a0_2 ≤ 40 then (if a0_3 ≥ 0 then (some (decide (a0_3 ≤ 9))) else (some false)) else (some false)) else (some false)) else (some false)) else (some false)) else (some false)) else (some false)) = some r := h; clear h; by_cases c3 : a0_0 ≥ 0
 ·
  rw [if_pos c3] at H; have c3b0 : decide (0 ≤ a0_0) = true := decide_eq_true c3; clear c3; by_cases c4 : a0_0 < a1
  ·
   rw [if_pos c4] at H; have c4b0 : decide (a0_0 < a1) = true := decide_eq_true c4; clear c4; by_cases c5 : a0_1 > a0_0
   ·
    rw [if_pos c5] at H; have c5b0 : decide (a0_0 < a0_1) = true := decide_eq_true c5; clear c5; by_cases c6 : a0_1 ≤ a1
    ·
     rw [if_pos c6] at H; have c6b0 : decide (a0_1 ≤ a1) = true := decide_eq_true c6; clear c6; by_cases c7 : a0_2 ≥ 1
     ·
      rw [if_pos c7] at H; have c7b0 : decide (1 ≤ a0_2) = true := decide_eq_true c7; clear c7; by_cases c8 : a0_2 ≤ 40
      ·
       rw [if_pos c8] at H; have c8b0 : decide (a0_2 ≤ 40) = true := decide_eq_true c8; clear c8; by_cases c9 : a0_3 ≥ 0
       ·
        rw [if_pos c9] at H; have c9b0 : decide (0 ≤ a0_3) = true := decide_eq_true c9; clear c9; obtain rfl := Option.some.inj H; go_enter Tryz.func84, Tryz.ntmps84; go_wp2_with (first | ((with_reducible refine gate_dst (N := 2) rfl ?_); refine box_event ?hg (N := 2) ?hd (cs := #[.int .i64 a0_0, .int .i64 a0_1, .int .i64 a0_2, .int .i64 a0_3]) (t := 50) ?hr ?_; (case hd => rfl); (case hg => rfl); (case hr => first | (go_simp; done) | (go_simp; rfl)); intro gb264 hg w10 hbox hb; have n0_ := az (below_step (zA HB.out) hb); have n1_ := az (hbox); have n2_ := az ((by rw [hg]; exact (below_size (zA HB.out)) : w.heap.size ≤ gb264)); have n3_ := az ((by rw [hg]; exact (below_size (zA HB.out)) : w.heap.size ≤ gb264)); clear HB; have HB := n0_; have BK264 := n1_; have GW264 := n2_; have GE264 := n3_; clear n0_ n1_ n2_ n3_; clear hb hbox hg; have hcz11_0 : w10.cell? ⟨gb264, 0, none⟩ = some (.int .i64 a0_0) := (blk_cell BK264.out 0).trans rfl; have hcz11_1 : w10.cell? ⟨gb264, 1, none⟩ = some (.int .i64 a0_1) := (blk_cell BK264.out 1).trans rfl; have hcz11_2 : w10.cell? ⟨gb264, 2, none⟩ = some (.int .i64 a0_2) := (blk_cell BK264.out 2).trans rfl; have hcz11_3 : w10.cell? ⟨gb264, 3, none⟩ = some (.int .i64 a0_3) := (blk_cell BK264.out 3).trans rfl; have hfz11_0 := blk_frozen BK264.out 0; have hfz11_1 := blk_frozen BK264.out 1; have hfz11_2 := blk_frozen BK264.out 2; have hfz11_3 := blk_frozen BK264.out 3)); go_ret; exact ⟨zG, zK HB.out GE264.out⟩
       ·
        rw [if_neg c9] at H; have c9b0 : decide (0 ≤ a0_3) = false := decide_eq_false c9; clear c9; obtain rfl := Option.some.inj H; go_enter Tryz.func84, Tryz.ntmps84; go_wp2_with (first | ((with_reducible refine gate_dst (N := 2) rfl ?_); refine box_event ?hg (N := 2) ?hd (cs := #[.int .i64 a0_0, .int .i64 a0_1, .int .i64 a0_2, .int .i64 a0_3]) (t := 50) ?hr ?_; (case hd => rfl); (case hg => rfl); (case hr => first | (go_simp; done) | (go_simp; rfl)); intro gb264 hg w12 hbox hb; have n0_ := az (below_step (zA HB.out) hb); have n1_ := az (hbox); have n2_ := az ((by rw [hg]; exact (below_size (zA HB.out)) : w.heap.size ≤ gb264)); have n3_ := az ((by rw [hg]; exact (below_size (zA HB.out)) : w.heap.size ≤ gb264)); clear HB; have HB := n0_; have BK264 := n1_; have GW264 := n2_; have GE264 := n3_; clear n0_ n1_ n2_ n3_; clear hb hbox hg; have hcz13_0 : w12.cell? ⟨gb264, 0, none⟩ = some (.int .i64 a0_0) := (blk_cell BK264.out 0).trans rfl; have hcz13_1 : w12.cell? ⟨gb264, 1, none⟩ = some (.int .i64 a0_1) := (blk_cell BK264.out 1).trans rfl; have hcz13_2 : w12.cell? ⟨gb264, 2, none⟩ = some (.int .i64 a0_2) := (blk_cell BK264.out 2).trans rfl; have hcz13_3 : w12.cell? ⟨gb264, 3, none⟩ = some (.int .i64 a0_3) := (blk_cell BK264.out 3).trans rfl; have hfz13_0 := blk_frozen BK264.out 0; have hfz13_1 := blk_frozen BK264.out 1; have hfz13_2 := blk_frozen BK264.out 2; have hfz13_3 := blk_frozen BK264.out 3)); go_ret; exact ⟨zG, zK HB.out GE264.out⟩
      ·
       rw [if_neg c8] at H; have c8b0 : decide (a0_2 ≤ 40) = false := decide_eq_false c8; clear c8; obtain rfl := Option.some.inj H; go_enter Tryz.func84, Tryz.ntmps84; go_wp2_with (first | ((with_reducible refine gate_dst (N := 2) rfl ?_); refine box_event ?hg (N := 2) ?hd (cs := #[.int .i64 a0_0, .int .i64 a0_1, .int .i64 a0_2, .int .i64 a0_3]) (t := 50) ?hr ?_; (case hd => rfl); (case hg => rfl); (case hr => first | (go_simp; done) | (go_simp; rfl)); intro gb264 hg w14 hbox hb; have n0_ := az (below_step (zA HB.out) hb); have n1_ := az (hbox); have n2_ := az ((by rw [hg]; exact (below_size (zA HB.out)) : w.heap.size ≤ gb264)); have n3_ := az ((by rw [hg]; exact (below_size (zA HB.out)) : w.heap.size ≤ gb264)); clear HB; have HB := n0_; have BK264 := n1_; have GW264 := n2_; have GE264 := n3_; clear n0_ n1_ n2_ n3_; clear hb hbox hg; have hcz15_0 : w14.cell? ⟨gb264, 0, none⟩ = some (.int .i64 a0_0) := (blk_cell BK264.out 0).trans rfl; have hcz15_1 : w14.cell? ⟨gb264, 1, none⟩ = some (.int .i64 a0_1) := (blk_cell BK264.out 1).trans rfl; have hcz15_2 : w14.cell? ⟨gb264, 2, none⟩ = some (.int .i64 a0_2) := (blk_cell BK264.out 2).trans rfl; have hcz15_3 : w14.cell? ⟨gb264, 3, none⟩ = some (.int .i64 a0_3) := (blk_cell BK264.out 3).trans rfl; have hfz15_0 := blk_frozen BK264.out 0; have hfz15_1 := blk_frozen BK264.out 1; have hfz15_2 := blk_frozen BK264.out 2; have hfz15_3 := blk_frozen BK264.out 3)); go_ret; exact ⟨zG, zK HB.out GE264.out⟩
     ·
      rw [if_neg c7] at H; have c7b0 : decide (1 ≤ a0_2) = false := decide_eq_false c7; clear c7; obtain rfl := Option.some.inj H; go_enter Tryz.func84, Tryz.ntmps84; go_wp2_with (first | ((with_reducible refine gate_dst (N := 2) rfl ?_); refine box_event ?hg (N := 2) ?hd (cs := #[.int .i64 a0_0, .int .i64 a0_1, .int .i64 a0_2, .int .i64 a0_3]) (t := 50) ?hr ?_; (case hd => rfl); (case hg => rfl); (case hr => first | (go_simp; done) | (go_simp; rfl)); intro gb264 hg w16 hbox hb; have n0_ := az (below_step (zA HB.out) hb); have n1_ := az (hbox); have n2_ := az ((by rw [hg]; exact (below_size (zA HB.out)) : w.heap.size ≤ gb264)); have n3_ := az ((by rw [hg]; exact (below_size (zA HB.out)) : w.heap.size ≤ gb264)); clear HB; have HB := n0_; have BK264 := n1_; have GW264 := n2_; have GE264 := n3_; clear n0_ n1_ n2_ n3_; clear hb hbox hg; have hcz17_0 : w16.cell? ⟨gb264, 0, none⟩ = some (.int .i64 a0_0) := (blk_cell BK264.out 0).trans rfl; have hcz17_1 : w16.cell? ⟨gb264, 1, none⟩ = some (.int .i64 a0_1) := (blk_cell BK264.out 1).trans rfl; have hcz17_2 : w16.cell? ⟨gb264, 2, none⟩ = some (.int .i64 a0_2) := (blk_cell BK264.out 2).trans rfl; have hcz17_3 : w16.cell? ⟨gb264, 3, none⟩ = some (.int .i64 a0_3) := (blk_cell BK264.out 3).trans rfl; have hfz17_0 := blk_frozen BK264.out 0; have hfz17_1 := blk_frozen BK264.out 1; have hfz17_2 := blk_frozen BK264.out 2; have hfz17_3 := blk_frozen BK264.out 3)); go_ret; exact ⟨zG, zK HB.out GE264.out⟩
    ·
     rw [if_neg c6] at H; have c6b0 : decide (a0_1 ≤ a1) = false := decide_eq_false c6; clear c6; obtain rfl := Option.some.inj H; go_enter Tryz.func84, Tryz.ntmps84; go_wp2_with (first | ((with_reducible refine gate_dst (N := 2) rfl ?_); refine box_event ?hg (N := 2) ?hd (cs := #[.int .i64 a0_0, .int .i64 a0_1, .int .i64 a0_2, .int .i64 a0_3]) (t := 50) ?hr ?_; (case hd => rfl); (case hg => rfl); (case hr => first | (go_simp; done) | (go_simp; rfl)); intro gb264 hg w18 hbox hb; have n0_ := az (below_step (zA HB.out) hb); have n1_ := az (hbox); have n2_ := az ((by rw [hg]; exact (below_size (zA HB.out)) : w.heap.size ≤ gb264)); have n3_ := az ((by rw [hg]; exact (below_size (zA HB.out)) : w.heap.size ≤ gb264)); clear HB; have HB := n0_; have BK264 := n1_; have GW264 := n2_; have GE264 := n3_; clear n0_ n1_ n2_ n3_; clear hb hbox hg; have hcz19_0 : w18.cell? ⟨gb264, 0, none⟩ = some (.int .i64 a0_0) := (blk_cell BK264.out 0).trans rfl; have hcz19_1 : w18.cell? ⟨gb264, 1, none⟩ = some (.int .i64 a0_1) := (blk_cell BK264.out 1).trans rfl; have hcz19_2 : w18.cell? ⟨gb264, 2, none⟩ = some (.int .i64 a0_2) := (blk_cell BK264.out 2).trans rfl; have hcz19_3 : w18.cell? ⟨gb264, 3, none⟩ = some (.int .i64 a0_3) := (blk_cell BK264.out 3).trans rfl; have hfz19_0 := blk_frozen BK264.out 0; have hfz19_1 := blk_frozen BK264.out 1; have hfz19_2 := blk_frozen BK264.out 2; have hfz19_3 := blk_frozen BK264.out 3)); go_ret; exact ⟨zG, zK HB.out GE264.out⟩
   ·
    rw [if_neg c5] at H; have c5b0 : decide (a0_0 < a0_1) = false := decide_eq_false c5; clear c5; obtain rfl := Option.some.inj H; go_enter Tryz.func84, Tryz.ntmps84; go_wp2_with (first | ((with_reducible refine gate_dst (N := 2) rfl ?_); refine box_event ?hg (N := 2) ?hd (cs := #[.int .i64 a0_0, .int .i64 a0_1, .int .i64 a0_2, .int .i64 a0_3]) (t := 50) ?hr ?_; (case hd => rfl); (case hg => rfl); (case hr => first | (go_simp; done) | (go_simp; rfl)); intro gb264 hg w20 hbox hb; have n0_ := az (below_step (zA HB.out) hb); have n1_ := az (hbox); have n2_ := az ((by rw [hg]; exact (below_size (zA HB.out)) : w.heap.size ≤ gb264)); have n3_ := az ((by rw [hg]; exact (below_size (zA HB.out)) : w.heap.size ≤ gb264)); clear HB; have HB := n0_; have BK264 := n1_; have GW264 := n2_; have GE264 := n3_; clear n0_ n1_ n2_ n3_; clear hb hbox hg; have hcz21_0 : w20.cell? ⟨gb264, 0, none⟩ = some (.int .i64 a0_0) := (blk_cell BK264.out 0).trans rfl; have hcz21_1 : w20.cell? ⟨gb264, 1, none⟩ = some (.int .i64 a0_1) := (blk_cell BK264.out 1).trans rfl; have hcz21_2 : w20.cell? ⟨gb264, 2, none⟩ = some (.int .i64 a0_2) := (blk_cell BK264.out 2).trans rfl; have hcz21_3 : w20.cell? ⟨gb264, 3, none⟩ = some (.int .i64 a0_3) := (blk_cell BK264.out 3).trans rfl; have hfz21_0 := blk_frozen BK264.out 0; have hfz21_1 := blk_frozen BK264.out 1; have hfz21_2 := blk_frozen BK264.out 2; have hfz21_3 := blk_frozen BK264.out 3)); go_ret; exact ⟨zG, zK HB.out GE264.out⟩
  ·
   rw [if_neg c4] at H; have c4b0 : decide (a0_0 < a1) = false := decide_eq_false c4; clear c4; obtain rfl := Option.some.inj H; go_enter Tryz.func84, Tryz.ntmps84; go_wp2_with (first | ((with_reducible refine gate_dst (N := 2) rfl ?_); refine box_event ?hg (N := 2) ?hd (cs := #[.int .i64 a0_0, .int .i64 a0_1, .int .i64 a0_2, .int .i64 a0_3]) (t := 50) ?hr ?_; (case hd => rfl); (case hg => rfl); (case hr => first | (go_simp; done) | (go_simp; rfl)); intro gb264 hg w22 hbox hb; have n0_ := az (below_step (zA HB.out) hb); have n1_ := az (hbox); have n2_ := az ((by rw [hg]; exact (below_size (zA HB.out)) : w.heap.size ≤ gb264)); have n3_ := az ((by rw [hg]; exact (below_size (zA HB.out)) : w.heap.size ≤ gb264)); clear HB; have HB := n0_; have BK264 := n1_; have GW264 := n2_; have GE264 := n3_; clear n0_ n1_ n2_ n3_; clear hb hbox hg; have hcz23_0 : w22.cell? ⟨gb264, 0, none⟩ = some (.int .i64 a0_0) := (blk_cell BK264.out 0).trans rfl; have hcz23_1 : w22.cell? ⟨gb264, 1, none⟩ = some (.int .i64 a0_1) := (blk_cell BK264.out 1).trans rfl; have hcz23_2 : w22.cell? ⟨gb264, 2, none⟩ = some (.int .i64 a0_2) := (blk_cell BK264.out 2).trans rfl; have hcz23_3 : w22.cell? ⟨gb264, 3, none⟩ = some (.int .i64 a0_3) := (blk_cell BK264.out 3).trans rfl; have hfz23_0 := blk_frozen BK264.out 0; have hfz23_1 := blk_frozen BK264.out 1; have hfz23_2 := blk_frozen BK264.out 2; have hfz23_3 := blk_frozen BK264.out 3)); go_ret; exact ⟨zG, zK HB.out GE264.out⟩
 ·
  rw [if_neg c3] at H; have c3b0 : decide (0 ≤ a0_0) = false := decide_eq_false c3; clear c3; obtain rfl := Option.some.inj H; go_enter Tryz.func84, Tryz.ntmps84; go_wp2_with (first | ((with_reducible refine gate_dst (N := 2) rfl ?_); refine box_event ?hg (N := 2) ?hd (cs := #[.int .i64 a0_0, .int .i64 a0_1, .int .i64 a0_2, .int .i64 a0_3]) (t := 50) ?hr ?_; (case hd => rfl); (case hg => rfl); (case hr => first | (go_simp; done) | (go_simp; rfl)); intro gb264 hg w24 hbox hb; have n0_ := az (below_step (zA HB.out) hb); have n1_ := az (hbox); have n2_ := az ((by rw [hg]; exact (below_size (zA HB.out)) : w.heap.size ≤ gb264)); have n3_ := az ((by rw [hg]; exact (below_size (zA HB.out)) : w.heap.size ≤ gb264)); clear HB; have HB := n0_; have BK264 := n1_; have GW264 := n2_; have GE264 := n3_; clear n0_ n1_ n2_ n3_; clear hb hbox hg; have hcz25_0 : w24.cell? ⟨gb264, 0, none⟩ = some (.int .i64 a0_0) := (blk_cell BK264.out 0).trans rfl; have hcz25_1 : w24.cell? ⟨gb264, 1, none⟩ = some (.int .i64 a0_1) := (blk_cell BK264.out 1).trans rfl; have hcz25_2 : w24.cell? ⟨gb264, 2, none⟩ = some (.int .i64 a0_2) := (blk_cell BK264.out 2).trans rfl; have hcz25_3 : w24.cell? ⟨gb264, 3, none⟩ = some (.int .i64 a0_3) := (blk_cell BK264.out 3).trans rfl; have hfz25_0 := blk_frozen BK264.out 0; have hfz25_1 := blk_frozen BK264.out 1; have hfz25_2 := blk_frozen BK264.out 2; have hfz25_3 := blk_frozen BK264.out 3)); go_ret; exact ⟨zG, zK HB.out GE264.out⟩
end Go.Proofs.YtmcdcogedcbndaaGreat.S
