/- The program's FillLines answers as the reference's, for every list of letters, of spans, every width and every way; it writes into no argument, and its answer is memory of its own. No condition beyond the statement's own. (text 1 of 7 of this claim: functions of the program and of the reference as plain Lean functions, what a call of each comes to, and what follows.) -/
import Derived.Test.YtmcdcogedcbndaaGreatProg
import Derived.Test.YtmcdcogedcbndaaGreatZWWords
import Derived.Test.YtmcdcogedcbndaaGreatZWLast
import Derived.Test.YtmcdcogedcbndaaGreatZWTab
import Derived.Test.YtmcdcogedcbndaaGreatZWQPut
import Derived.Test.YtmcdcogedcbndaaGreatZWApart
import Derived.Test.YtmcdcogedcbndaaGreatZWArr
import Derived.Test.YtmcdcogedcbndaaGreatZWZeros
import Derived.Test.YtmcdcogedcbndaaGreatZWFoot
import Derived.Test.YtmcdcogedcbndaaGreatZWKept
import Derived.Test.YtmcdcogedcbndaaGreatZWShare
import Derived.Test.YtmcdcogedcbndaaGreatZWN
import Derived.Test.YtmcdcogedcbndaaGreatZWRepsOne
import Derived.Test.YtmcdcogedcbndaaGreatZWGuard
import Derived.Test.YtmcdcogedcbndaaGreatZWNEv
import Derived.Test.YtmcdcogedcbndaaGreatZWMore
import Derived.Below
import Derived.Deep.Draws
import Derived.Deep.AppendLies
import Derived.Maps.AppendAt
import Derived.OwnWalk
import Derived.Laws.BytesArg
import Derived.Laws.MakeOwn
import Derived.Laws.OwnMore
import Derived.Deep.OwnRows
import Derived.Tactics
import Derived.Lib.ConvBytes
import Derived.Laws.Slices
import Derived.WalkKit
import Derived.KernelRfl
import Derived.RowKit3
import Derived.Deep.LoopGhost
import Derived.Deep.QuietTactic
import Derived.BigQuiet
import Derived.WideLaws
import Derived.Deep.DeepCutAuto
import Derived.Deep.CutBlock
import Derived.Deep.RegionHeld3
import Derived.Laws.Rows
import Derived.Lib.AppendStr
import Derived.ArgAppend
import Derived.Laws.IdiomCopy
import Derived.OrdersHeld
import Derived.Laws.BitsLemmas
import Derived.RowKit
import Derived.Maps.Own
import Derived.Maps.OwnOps
import Derived.Maps.Views
import Derived.Shelf.Abstract
import Derived.BigRegion
import Derived.Deep.CutRange
import Derived.Deep.DeepMust
import Derived.Deep.RegionLaw
import Derived.LoopIn
import Derived.LoopNIn
import Derived.OwnWalkIn
import Derived.RangeFuncBound
import Derived.RangeFuncBox
import Derived.RangeFuncCalls
import Derived.RangeFuncFrom
import Derived.RangeFuncLeaves
import Derived.RangeFuncNested
import Derived.RegionTactic
import Derived.Shelf.RegionOpen
import Derived.TacticsInMore
import Derived.WalkArith
set_option maxHeartbeats 16000000
set_option maxRecDepth 100000
set_option linter.unusedVariables false
set_option linter.unusedSimpArgs false
namespace Go.Proofs.YtmcdcogedcbndaaGreat
set_option linter.unusedVariables false
theorem zB {p : Prop} (h : p := by first | rfl | (simp; done) | (simp [*]; done)) : p := h
theorem zE {p : Prop} (h : p := by repeat (first | exact Drawn0.refl _ | apply Drawn0.step)) : p := h
theorem zD {p : Prop} (h : p := by (try simp only [List.map_toArray, List.map_cons, List.map_nil]); first | done | rfl) : p := h
theorem zG {p q0 : Prop} (h0 : q0) (h : q0 → p := by intro zq0_; have := zq0_; omega) : p := h h0
theorem zA {p q0 : Prop} (h0 : q0) (h : q0 → p := by intro zq0_; repeat (first | (with_reducible first | exact zq0_ | apply below_alloc | apply pw_below_drewN | apply below_drew1) | exact zq0_)) : p := h h0
theorem zF {p : Prop} (h : p := by first | rfl | (simp [errW_none, errW_some] <;> rfl) | (simp [*, errW_none, errW_some] <;> rfl)) : p := h
theorem zH {p q0 q1 : Prop} (h0 : q0) (h1 : q1) (h : q0 → q1 → p := by intro zq0_ zq1_; repeat (first | (with_reducible first | exact zq0_ | apply below_alloc | apply pw_below_drewN | apply below_drew1 | refine below_set ?_ zq1_) | exact zq0_)) : p := h h0 h1
theorem zP {p q0 : Prop} (h0 : q0) (h : q0 → p := by intro zq0_; repeat (first | exact zq0_ | (with_reducible refine Kd.C_alloc ?_ _) | (with_reducible refine Kd.C_drewN ?_ _) | (with_reducible refine Kd.C_drew ?_))) : p := h h0
theorem zC {p q0 : Prop} (h0 : q0) (h : q0 → p := by intro zq0_; (with_reducible repeat (first | apply Kd.R_alloc | apply Kd.R_drewN | apply Kd.R_drew)); exact zq0_) : p := h h0
theorem zK {p : Prop} (h : p := by first | omega | exact Nat.le_refl _) : p := h
theorem zL {p q0 : Prop} (h0 : q0) (h : q0 → p := by intro zq0_; have := zq0_; first | omega | exact Nat.le_refl _) : p := h h0
theorem zO {p q0 q1 : Prop} (h0 : q0) (h1 : q1) (h : q0 → q1 → p := by intro zq0_ zq1_; have := zq0_; have := zq1_; first | omega | exact Nat.le_refl _) : p := h h0 h1
theorem zN {p q0 q1 : Prop} (h0 : q0) (h1 : q1) (h : q0 → q1 → p := by intro zq0_ zq1_; repeat (first | exact (Kd.C_below zq0_ zq1_) | (with_reducible refine Kd.C_alloc ?_ _) | (with_reducible refine Kd.C_drewN ?_ _) | (with_reducible refine Kd.C_drew ?_))) : p := h h0 h1
theorem zM {p q0 : Prop} (h0 : q0) (h : q0 → p := by intro zq0_; repeat (first | exact (Kd.R_reads' zq0_).2.2 | (with_reducible refine Kd.C_alloc ?_ _) | (with_reducible refine Kd.C_drewN ?_ _) | (with_reducible refine Kd.C_drew ?_))) : p := h h0
theorem zS {p q0 q1 : Prop} (h0 : q0) (h1 : q1) (h : q0 → q1 → p := by intro zq0_ zq1_; have := zq0_; have := zq1_; omega) : p := h h0 h1
theorem zU {p q0 q1 q2 : Prop} (h0 : q0) (h1 : q1) (h2 : q2) (h : q0 → q1 → q2 → p := by intro zq0_ zq1_ zq2_; have := zq0_; have := zq1_; have := zq2_; first | omega | exact Nat.le_refl _) : p := h h0 h1 h2
theorem zT {p q0 : Prop} (h0 : q0) (h : q0 → p := by intro zq0_; (with_reducible repeat (first | apply Kd.R_alloc | apply Kd.R_drewN | apply Kd.R_drew)); exact Kd.R_mono zq0_ (fun _ hk => hk.2)) : p := h h0
theorem zV {p q0 : Prop} (h0 : q0) (h : q0 → p := by intro zq0_; (with_reducible repeat (first | apply Kd.R_alloc | apply Kd.R_drewN | apply Kd.R_drew)); exact Kd.R_mono zq0_ (fun _ hk => ⟨trivial, hk⟩)) : p := h h0
theorem zI {p : Prop} (h : p := by with_reducible assumption) : p := h
theorem zJ {p q0 : Prop} (h0 : q0) (h : q0 → p := by intro zq0_; (with_reducible repeat (first | refine blk_drewN ?_ _ | refine blk_drew ?_ | refine blk_alloc ?_ _)); exact zq0_) : p := h h0
theorem zQ {p q0 q1 q2 : Prop} (h0 : q0) (h1 : q1) (h2 : q2) (h : q0 → q1 → q2 → p := by intro zq0_ zq1_ zq2_; repeat (first | (with_reducible first | exact zq0_ | apply below_alloc | apply pw_below_drewN | apply below_drew1 | refine below_set ?_ zq1_ | refine below_set ?_ zq2_) | exact zq0_)) : p := h h0 h1 h2
theorem zW {p : Prop} (h : p := by first | exact Kd.R_nil _ _ _ _ _ | exact Kd.N_nil _ _ _ _ _ | exact Kd.V_nil _ _ _ _ _ | exact Kd.Q_nil _ _ _ _ _ | exact Kd.S_nil _ _ _ _ _) : p := h
theorem zR {p q0 : Prop} (h0 : q0) (h : q0 → p := by intro zq0_; repeat (first | (with_reducible first | exact zq0_ | apply Kept.alloc | apply Kept.drewN | apply Kept.drew) | exact zq0_)) : p := h h0
end Go.Proofs.YtmcdcogedcbndaaGreat
namespace Go.Proofs.YtmcdcogedcbndaaGreat.S
open Go.RowKit Go.Proofs.YtmcdcogedcbndaaGreatW.PrintWords Go.Proofs.YtmcdcogedcbndaaGreatW.PrintLast
theorem az {p : Prop} (h : p) : Aside0 p := ⟨h⟩
set_option linter.unusedVariables false
set_option linter.unusedSimpArgs false
def errW : Option Int → Value
 | none => .nilIface
 | some c => .iface 0 (.int .i64 c)
theorem errW_none : errW none = .nilIface := rfl
theorem errW_some (c : Int) : errW (some c) = .iface 0 (.int .i64 c) := rfl
theorem info3 : (Tryz.prog.info? 3).map (fun i => (i.zero, i.size, i.bytes)) = some (some (.int .i64 0), 1, 8) := by kernel_rfl
theorem info4 : (Tryz.prog.info? 4).map (fun i => (i.zero, i.size, i.bytes)) = some (some (.bool false), 1, 1) := by kernel_rfl
theorem info50 : (Tryz.prog.info? 50).map (fun i => (i.zero, i.size, i.bytes)) = some (some (.agg #[(.int .i64 0), (.int .i64 0), (.int .i64 0), (.int .i64 0)]), 4, 32) := by kernel_rfl
structure S52 where
 f0 : Int
 f1 : Int
 f2 : Int
 f3 : Int
def z52 : S52 := ⟨(0 : Int), (0 : Int), (0 : Int), (0 : Int)⟩
def k52 : Kd S52 := Kd.iso (Kd.pair (Kd.int .i64) (Kd.pair (Kd.int .i64) (Kd.pair (Kd.int .i64) (Kd.int .i64)))) (fun x : S52 => (x.f0, x.f1, x.f2, x.f3))
theorem k52_open {w : World} {x : S52} {cs : List Value} (h : k52.K w x cs) : cs = [.int .i64 x.f0, .int .i64 x.f1, .int .i64 x.f2, .int .i64 x.f3] := by
 obtain ⟨_, _, rfl, rfl, ⟨_, _, rfl, rfl, ⟨_, _, rfl, rfl, rfl⟩⟩⟩ := h
 exact rfl
theorem k52_mk (w : World) (x : S52)  : k52.K w x [.int .i64 x.f0, .int .i64 x.f1, .int .i64 x.f2, .int .i64 x.f3] := ⟨[.int .i64 x.f0], [.int .i64 x.f1, .int .i64 x.f2, .int .i64 x.f3], rfl, rfl, ⟨[.int .i64 x.f1], [.int .i64 x.f2, .int .i64 x.f3], rfl, rfl, ⟨[.int .i64 x.f2], [.int .i64 x.f3], rfl, rfl, rfl⟩⟩⟩
def rd_T52 (xs : List S52) (i : Int) : S52 := xs.getD i.toNat z52
theorem at_T52 {w : World} {A : Option Addr} {n : Nat} {xs : List S52} (h : Kd.C k52 w A n xs) (i : Int) (h0 : 0 ≤ i) (h1 : i < n) : ∃ ad , A = some ad ∧ w.cell? (ad.add (i.toNat * 4)) = some (.int .i64 (rd_T52 xs i).f0) ∧ w.cell? ⟨(ad.add (i.toNat * 4)).block, (ad.add (i.toNat * 4)).off + 1, none⟩ = some (.int .i64 (rd_T52 xs i).f1) ∧ w.cell? ⟨(ad.add (i.toNat * 4)).block, (ad.add (i.toNat * 4)).off + 2, none⟩ = some (.int .i64 (rd_T52 xs i).f2) ∧ w.cell? ⟨(ad.add (i.toNat * 4)).block, (ad.add (i.toNat * 4)).off + 3, none⟩ = some (.int .i64 (rd_T52 xs i).f3) := by
 obtain ⟨ad, c, e, _, hK, hc0⟩ := Kd.C_get h z52 i h0 h1
 have hc : ∀ j u, c[j]? = some u → w.cell? (ad.add (i.toNat * 4 + j)) = some u := hc0
 obtain rfl := k52_open hK
 exact ⟨ad, e, hc 0 _ rfl, by rw [← add_field _ _ 1 (by omega)]; exact hc 1 _ rfl, by rw [← add_field _ _ 2 (by omega)]; exact hc 2 _ rfl, by rw [← add_field _ _ 3 (by omega)]; exact hc 3 _ rfl⟩
structure S50 where
 f0 : Int
 f1 : Int
 f2 : Int
 f3 : Int
def z50 : S50 := ⟨(0 : Int), (0 : Int), (0 : Int), (0 : Int)⟩
def k50 : Kd S50 := Kd.iso (Kd.pair (Kd.int .i64) (Kd.pair (Kd.int .i64) (Kd.pair (Kd.int .i64) (Kd.int .i64)))) (fun x : S50 => (x.f0, x.f1, x.f2, x.f3))
theorem k50_open {w : World} {x : S50} {cs : List Value} (h : k50.K w x cs) : cs = [.int .i64 x.f0, .int .i64 x.f1, .int .i64 x.f2, .int .i64 x.f3] := by
 obtain ⟨_, _, rfl, rfl, ⟨_, _, rfl, rfl, ⟨_, _, rfl, rfl, rfl⟩⟩⟩ := h
 exact rfl
theorem k50_openM {w : World} {base : Nat} {ok : Nat → Prop} {x : S50} {cs : List Value} (h : k50.M w base ok x cs) : cs = [.int .i64 x.f0, .int .i64 x.f1, .int .i64 x.f2, .int .i64 x.f3] := by
 obtain ⟨_, _, rfl, rfl, ⟨_, _, rfl, rfl, ⟨_, _, rfl, rfl, rfl⟩⟩⟩ := h
 exact rfl
theorem k50_mkM (w : World) (base : Nat) (ok : Nat → Prop) (x : S50)  : k50.M w base ok x [.int .i64 x.f0, .int .i64 x.f1, .int .i64 x.f2, .int .i64 x.f3] := ⟨[.int .i64 x.f0], [.int .i64 x.f1, .int .i64 x.f2, .int .i64 x.f3], rfl, rfl, ⟨[.int .i64 x.f1], [.int .i64 x.f2, .int .i64 x.f3], rfl, rfl, ⟨[.int .i64 x.f2], [.int .i64 x.f3], rfl, rfl, rfl⟩⟩⟩
def rd_T50 (xs : List S50) (i : Int) : S50 := xs.getD i.toNat z50
theorem at_T50 {w : World} {A : Option Addr} {n : Nat} {xs : List S50} (h : Kd.C k50 w A n xs) (i : Int) (h0 : 0 ≤ i) (h1 : i < n) : ∃ ad , A = some ad ∧ w.cell? (ad.add (i.toNat * 4)) = some (.int .i64 (rd_T50 xs i).f0) ∧ w.cell? ⟨(ad.add (i.toNat * 4)).block, (ad.add (i.toNat * 4)).off + 1, none⟩ = some (.int .i64 (rd_T50 xs i).f1) ∧ w.cell? ⟨(ad.add (i.toNat * 4)).block, (ad.add (i.toNat * 4)).off + 2, none⟩ = some (.int .i64 (rd_T50 xs i).f2) ∧ w.cell? ⟨(ad.add (i.toNat * 4)).block, (ad.add (i.toNat * 4)).off + 3, none⟩ = some (.int .i64 (rd_T50 xs i).f3) := by
 obtain ⟨ad, c, e, _, hK, hc0⟩ := Kd.C_get h z50 i h0 h1
 have hc : ∀ j u, c[j]? = some u → w.cell? (ad.add (i.toNat * 4 + j)) = some u := hc0
 obtain rfl := k50_open hK
 exact ⟨ad, e, hc 0 _ rfl, by rw [← add_field _ _ 1 (by omega)]; exact hc 1 _ rfl, by rw [← add_field _ _ 2 (by omega)]; exact hc 2 _ rfl, by rw [← add_field _ _ 3 (by omega)]; exact hc 3 _ rfl⟩
structure S105 where
 f0 : Int
 f1 : Int
structure S120 where
 f0 : Int
 f1 : Int
 f2 : Int
def z120 : S120 := ⟨(0 : Int), (0 : Int), (0 : Int)⟩
def k120 : Kd S120 := Kd.iso (Kd.pair (Kd.int .i64) (Kd.pair (Kd.int .i64) (Kd.int .i64))) (fun x : S120 => (x.f0, x.f1, x.f2))
theorem k120_open {w : World} {x : S120} {cs : List Value} (h : k120.K w x cs) : cs = [.int .i64 x.f0, .int .i64 x.f1, .int .i64 x.f2] := by
 obtain ⟨_, _, rfl, rfl, ⟨_, _, rfl, rfl, rfl⟩⟩ := h
 exact rfl
theorem k120_mkM (w : World) (base : Nat) (ok : Nat → Prop) (x : S120)  : k120.M w base ok x [.int .i64 x.f0, .int .i64 x.f1, .int .i64 x.f2] := ⟨[.int .i64 x.f0], [.int .i64 x.f1, .int .i64 x.f2], rfl, rfl, ⟨[.int .i64 x.f1], [.int .i64 x.f2], rfl, rfl, rfl⟩⟩
def rd_T120 (xs : List S120) (i : Int) : S120 := xs.getD i.toNat z120
theorem at_T120 {w : World} {A : Option Addr} {n : Nat} {xs : List S120} (h : Kd.C k120 w A n xs) (i : Int) (h0 : 0 ≤ i) (h1 : i < n) : ∃ ad , A = some ad ∧ w.cell? (ad.add (i.toNat * 3)) = some (.int .i64 (rd_T120 xs i).f0) ∧ w.cell? ⟨(ad.add (i.toNat * 3)).block, (ad.add (i.toNat * 3)).off + 1, none⟩ = some (.int .i64 (rd_T120 xs i).f1) ∧ w.cell? ⟨(ad.add (i.toNat * 3)).block, (ad.add (i.toNat * 3)).off + 2, none⟩ = some (.int .i64 (rd_T120 xs i).f2) := by
 obtain ⟨ad, c, e, _, hK, hc0⟩ := Kd.C_get h z120 i h0 h1
 have hc : ∀ j u, c[j]? = some u → w.cell? (ad.add (i.toNat * 3 + j)) = some u := hc0
 obtain rfl := k120_open hK
 exact ⟨ad, e, hc 0 _ rfl, by rw [← add_field _ _ 1 (by omega)]; exact hc 1 _ rfl, by rw [← add_field _ _ 2 (by omega)]; exact hc 2 _ rfl⟩
def laws_szSpanS.f (l0 : List (S52)) (a1 : Int) : Option (Int) := if (wrap64 (a1 - (l0.length : Int))) < 0 then (some (-1)) else (some (wrap64 (a1 - (l0.length : Int))))
theorem laws_szSpanS.calls (A0 : Option Addr) (c0 : Nat) (l0 : List (S52)) (a1 : Int) (r : Int) (w : World) (hr0 : Kd.C k52 w A0 l0.length l0) (hc0 : l0.length ≤ c0) (h : laws_szSpanS.f l0 a1 = some r) :
  Calls Tryz.prog 11 #[.slice A0 l0.length c0, .int .i64 a1] w fun e w' => e = .returned (.int .i64 r) ∧ Drawn0 w w' := by
 have HR0 := az hr0
 have HC0 := az hc0
 clear hr0 hc0
 have H : (if (wrap64 (a1 - (l0.length : Int))) < 0 then (some (-1)) else (some (wrap64 (a1 - (l0.length : Int))))) = some r := h
 clear h
 by_cases c3 : (wrap64 (a1 - (l0.length : Int))) < 0
 ·
  rw [if_pos c3] at H
  have c3b0 : decide ((wrap64 (a1 - (l0.length : Int))) < 0) = true := decide_eq_true c3
  clear c3
  obtain rfl := Option.some.inj H
  go_enter Tryz.func11, Tryz.ntmps11
  go_wp2
  go_ret
  exact ⟨zB, zE⟩
 ·
  rw [if_neg c3] at H
  have c3b0 : decide ((wrap64 (a1 - (l0.length : Int))) < 0) = false := decide_eq_false c3
  clear c3
  obtain rfl := Option.some.inj H
  go_enter Tryz.func11, Tryz.ntmps11
  go_wp2
  go_ret
  exact ⟨zB, zE⟩
def FlO (t : Nat) (gb : Nat) (A0 : Option Addr) (c0 : Nat) (rs : List Int) (A1 : Option Addr) (c1 : Nat) (ws : List Int) (A2 : Option Addr) (c2 : Nat) (bs : List Int) (wide : Int) (W : World) : Prop :=
 W.heap[gb]? = some (.cells #[.slice A0 rs.length c0, .slice A1 ws.length c1, .slice A2 bs.length c2, .int .i64 wide] t (0, 0)) ∧ Kd.C (Kd.int .i64) W A0 rs.length rs ∧ rs.length ≤ c0 ∧ Kd.C (Kd.int .i64) W A1 ws.length ws ∧ ws.length ≤ c1 ∧ Kd.C (Kd.int .i64) W A2 bs.length bs ∧ bs.length ≤ c2
theorem FlO.below {t gb : Nat} {A0 : Option Addr} {c0 : Nat} {rs : List Int} {A1 : Option Addr} {c1 : Nat} {ws : List Int} {A2 : Option Addr} {c2 : Nat} {bs : List Int} {wide : Int} {W W' : World} (h : FlO t gb A0 c0 rs A1 c1 ws A2 c2 bs wide W) (hb : Below W.heap.size W W') : FlO t gb A0 c0 rs A1 c1 ws A2 c2 bs wide W' :=
 ⟨blk_below h.1 hb, Kd.C_below h.2.1 hb, h.2.2.1, Kd.C_below h.2.2.2.1 hb, h.2.2.2.2.1, Kd.C_below h.2.2.2.2.2.1 hb, h.2.2.2.2.2.2⟩
abbrev FlI (t : Nat) (gb : Nat) (A0 : Option Addr) (c0 : Nat) (rs : List Int) (A1 : Option Addr) (c1 : Nat) (ws : List Int) (A2 : Option Addr) (c2 : Nat) (bs : List Int) (wide : Int) (w0 W : World) : Prop :=
 W.cell? ⟨gb, 0, none⟩ = some (.slice A0 rs.length c0) ∧ W.cell? ⟨gb, 1, none⟩ = some (.slice A1 ws.length c1) ∧ W.cell? ⟨gb, 2, none⟩ = some (.slice A2 bs.length c2) ∧ W.cell? ⟨gb, 3, none⟩ = some (.int .i64 wide) ∧ Aside0 (FlO t gb A0 c0 rs A1 c1 ws A2 c2 bs wide W ∧ Below w0.heap.size w0 W)
theorem FlI.of {t gb : Nat} {A0 : Option Addr} {c0 : Nat} {rs : List Int} {A1 : Option Addr} {c1 : Nat} {ws : List Int} {A2 : Option Addr} {c2 : Nat} {bs : List Int} {wide : Int} {w0 W : World} (h : FlO t gb A0 c0 rs A1 c1 ws A2 c2 bs wide W) (hb : Below w0.heap.size w0 W) : FlI t gb A0 c0 rs A1 c1 ws A2 c2 bs wide w0 W :=
 ⟨(blk_cell h.1 0).trans rfl, (blk_cell h.1 1).trans rfl, (blk_cell h.1 2).trans rfl, (blk_cell h.1 3).trans rfl, ⟨h, hb⟩⟩
theorem FlI.below {t gb : Nat} {A0 : Option Addr} {c0 : Nat} {rs : List Int} {A1 : Option Addr} {c1 : Nat} {ws : List Int} {A2 : Option Addr} {c2 : Nat} {bs : List Int} {wide : Int} {w0 W W' : World} (h : FlI t gb A0 c0 rs A1 c1 ws A2 c2 bs wide w0 W) (hb : Below W.heap.size W W') : FlI t gb A0 c0 rs A1 c1 ws A2 c2 bs wide w0 W' :=
 FlI.of (h.2.2.2.2.out.1.below hb) (below_then h.2.2.2.2.out.2 h.2.2.2.2.out.2.size hb)
theorem FlI.drew {t gb : Nat} {A0 : Option Addr} {c0 : Nat} {rs : List Int} {A1 : Option Addr} {c1 : Nat} {ws : List Int} {A2 : Option Addr} {c2 : Nat} {bs : List Int} {wide : Int} {w0 W : World} (h : FlI t gb A0 c0 rs A1 c1 ws A2 c2 bs wide w0 W) : FlI t gb A0 c0 rs A1 c1 ws A2 c2 bs wide w0 W.drew := h.below (below_drew (Below.refl _ _))
def mustN (bs : List Int) (n : Nat) : Nat → Nat → Nat
 | 0, _ => n
 | g + 1, i => if bs.getD i 0 = 2 then i + 1 else mustN bs n g (i + 1)
theorem mustN_le (bs : List Int) (n : Nat) : ∀ (g i : Nat), i + g ≤ n → mustN bs n g i ≤ n
 | 0, _, _ => Nat.le_refl _
 | g + 1, i, h => by
  rw [mustN]
  split
  · omega
  · exact mustN_le bs n g (i + 1) (by omega)
def mustV (bs : List Int) (n : Nat) (i : Nat) : Nat := mustN bs n (bs.length - i) i
def FlK (t : Nat) (gb : Nat) (A0 : Option Addr) (c0 : Nat) (rs : List Int) (A1 : Option Addr) (c1 : Nat) (ws : List Int) (A2 : Option Addr) (c2 : Nat) (bs : List Int) (wide : Int) (p : Addr) (e : Int) (q : Addr) (y : Int) (w0 W : World) : Prop := FlO t gb A0 c0 rs A1 c1 ws A2 c2 bs wide W ∧ Below w0.heap.size w0 W ∧ w0.cell? p = some (.int .i64 e) ∧ w0.cell? q = some (.int .i64 y)
abbrev FlJ (t : Nat) (gb : Nat) (A0 : Option Addr) (c0 : Nat) (rs : List Int) (A1 : Option Addr) (c1 : Nat) (ws : List Int) (A2 : Option Addr) (c2 : Nat) (bs : List Int) (wide : Int) (p : Addr) (e : Int) (q : Addr) (y : Int) (w0 W : World) : Prop :=
 W.cell? ⟨gb, 0, none⟩ = some (.slice A0 rs.length c0) ∧ W.cell? ⟨gb, 1, none⟩ = some (.slice A1 ws.length c1) ∧ W.cell? ⟨gb, 2, none⟩ = some (.slice A2 bs.length c2) ∧ W.cell? ⟨gb, 3, none⟩ = some (.int .i64 wide) ∧ W.cell? p = some (.int .i64 e) ∧ W.cell? q = some (.int .i64 y) ∧ Aside0 (FlK t gb A0 c0 rs A1 c1 ws A2 c2 bs wide p e q y w0 W)
theorem FlJ.of {t gb : Nat} {A0 : Option Addr} {c0 : Nat} {rs : List Int} {A1 : Option Addr} {c1 : Nat} {ws : List Int} {A2 : Option Addr} {c2 : Nat} {bs : List Int} {wide : Int} {p : Addr} {e : Int} {q : Addr} {y : Int} {w0 W : World} (h : FlK t gb A0 c0 rs A1 c1 ws A2 c2 bs wide p e q y w0 W) : FlJ t gb A0 c0 rs A1 c1 ws A2 c2 bs wide p e q y w0 W :=
 ⟨(blk_cell h.1.1 0).trans rfl, (blk_cell h.1.1 1).trans rfl, (blk_cell h.1.1 2).trans rfl, (blk_cell h.1.1 3).trans rfl, (h.2.1.cell (World.block_lt_of_cell? _ _ h.2.2.1)).trans h.2.2.1, (h.2.1.cell (World.block_lt_of_cell? _ _ h.2.2.2)).trans h.2.2.2, ⟨h⟩⟩
theorem FlJ.below {t gb : Nat} {A0 : Option Addr} {c0 : Nat} {rs : List Int} {A1 : Option Addr} {c1 : Nat} {ws : List Int} {A2 : Option Addr} {c2 : Nat} {bs : List Int} {wide : Int} {p : Addr} {e : Int} {q : Addr} {y : Int} {w0 W W' : World} (h : FlJ t gb A0 c0 rs A1 c1 ws A2 c2 bs wide p e q y w0 W) (hb : Below W.heap.size W W') : FlJ t gb A0 c0 rs A1 c1 ws A2 c2 bs wide p e q y w0 W' :=
 FlJ.of ⟨h.2.2.2.2.2.2.out.1.below hb, below_then h.2.2.2.2.2.2.out.2.1 h.2.2.2.2.2.2.out.2.1.size hb, h.2.2.2.2.2.2.out.2.2⟩
theorem FlJ.drew {t gb : Nat} {A0 : Option Addr} {c0 : Nat} {rs : List Int} {A1 : Option Addr} {c1 : Nat} {ws : List Int} {A2 : Option Addr} {c2 : Nat} {bs : List Int} {wide : Int} {p : Addr} {e : Int} {q : Addr} {y : Int} {w0 W : World} (h : FlJ t gb A0 c0 rs A1 c1 ws A2 c2 bs wide p e q y w0 W) : FlJ t gb A0 c0 rs A1 c1 ws A2 c2 bs wide p e q y w0 W.drew := h.below (below_drew (Below.refl _ _))
def costV (bs : List Int) (W : Nat → Nat → Int) (wide : Int) (i j : Nat) : Int := if bs.getD (j - 1) 0 = 2 then 0 else (wide - W i j) * (wide - W i j)
def fitV (W : Nat → Nat → Int) (wide : Int) (i j : Nat) : Bool := decide (W i j ≤ wide)
def forcedN (F : Nat → Nat → Bool) (J : Nat → Bool) (n fr : Nat) : Nat → Nat → Nat → Nat
 | 0, _, tq => tq
 | g + 1, i, tq => if i < n ∧ J i = true then forcedN F J n fr g (i + 1) tq else if fr < tq ∧ F fr i = false then tq else forcedN F J n fr g (i + 1) i
def nextN (bs : List Int) (F : Nat → Nat → Bool) (fr : Nat) : Nat → Nat → Int → Int
 | 0, _, b => b
 | g + 1, i, b => nextN bs F fr g (i + 1) (if ¬ bs.getD (i - 1) 0 = 0 ∧ F fr i = true then (i : Int) else b)
def nextV (bs : List Int) (F : Nat → Nat → Bool) (J : Nat → Bool) (n fr : Nat) : Int :=
 if 0 < nextN bs F fr (mustV bs n fr - fr) (fr + 1) (-1) then nextN bs F fr (mustV bs n fr - fr) (fr + 1) (-1)
 else if (forcedN F J n fr (n - fr) (fr + 1) fr : Int) < (mustV bs n fr : Int) then (forcedN F J n fr (n - fr) (fr + 1) fr : Int) else (mustV bs n fr : Int)
def greedyN (N : Nat → Int) (n : Nat) : Nat → Nat → Option (List Int)
 | 0, at_ => if at_ < n then none else some []
 | g + 1, at_ => if at_ < n then (if 0 ≤ N at_ ∧ N at_ ≤ (n : Int) then (greedyN N n g (N at_).toNat).bind fun l => some (N at_ :: l) else none) else some []
theorem sq_fit (d : Int) (h : d.natAbs ≤ 1000000000) : 0 ≤ d * d ∧ d * d ≤ 1000000000000000000 := by
 have e := Int.natAbs_mul_self (a := d)
 have h2 := Nat.mul_le_mul h h
 omega
def TB (t g m : Nat) (T : Nat → Int × Int) (W : World) : Prop :=
 ∃ cells : Array Value, W.heap[g]? = some (.cells cells t (0, 0)) ∧ cells.size = m * 2 ∧ ∀ i, i < m → cells[i * 2]? = some (.int .i64 (T i).1) ∧ cells[i * 2 + 1]? = some (.int .i64 (T i).2)
def updV (T : Nat → Int × Int) (a : Nat) (v : Int × Int) : Nat → Int × Int := fun j => if j = a then v else T j
theorem updV_at (T : Nat → Int × Int) (a : Nat) (v : Int × Int) : updV T a v a = v := if_pos rfl
theorem updV_ne (T : Nat → Int × Int) {a b : Nat} (v : Int × Int) (h : b ≠ a) : updV T a v b = T b := if_neg h
theorem updV_updV (T : Nat → Int × Int) (a : Nat) (u v : Int × Int) : updV (updV T a u) a v = updV T a v := by
 funext j
 unfold updV
 split <;> rfl
theorem TB.cells {t g m : Nat} {T : Nat → Int × Int} {W : World} (h : TB t g m T W) {i : Nat} (hi : i < m) : W.cell? ⟨g, i * 2, none⟩ = some (.int .i64 (T i).1) ∧ W.cell? ⟨g, i * 2 + 1, none⟩ = some (.int .i64 (T i).2) ∧ W.frozen? ⟨g, i * 2, none⟩ = false ∧ W.frozen? ⟨g, i * 2 + 1, none⟩ = false := by
 obtain ⟨cells, h1, _, h3⟩ := h
 exact ⟨(blk_cell h1 _).trans (h3 i hi).1, (blk_cell h1 _).trans (h3 i hi).2, blk_frozen h1 _, blk_frozen h1 _⟩
theorem TB.below {t g m : Nat} {T : Nat → Int × Int} {W W' : World} (h : TB t g m T W) (hb : Below W.heap.size W W') : TB t g m T W' := by
 obtain ⟨cells, h1, h2, h3⟩ := h
 exact ⟨cells, blk_below h1 hb, h2, h3⟩
theorem TB.set {t g m : Nat} {T : Nat → Int × Int} {W : World} (h : TB t g m T W) {i : Nat} (hi : i < m) (a b : Int) : TB t g m (updV T i (a, b)) ((W.setCell ⟨g, i * 2, none⟩ (.int .i64 a)).setCell ⟨g, i * 2 + 1, none⟩ (.int .i64 b)) := by
 obtain ⟨cells, h1, h2, h3⟩ := h
 refine ⟨_, blk_set (blk_set h1 _ _) _ _, by simpa using h2, fun j hj => ?_⟩
 have e1 := (h3 j hj).1
 have e2 := (h3 j hj).2
 by_cases hji : j = i
 ·
  subst hji
  rw [updV_at]
  simp only [Array.getElem?_setIfInBounds, Array.size_setIfInBounds]
  exact ⟨by rw [if_neg (by omega), if_pos trivial, if_pos (by omega)], by rw [if_pos trivial, if_pos (by omega)]⟩
 ·
  rw [updV_ne _ _ hji]
  simp only [Array.getElem?_setIfInBounds, Array.size_setIfInBounds]
  exact ⟨by rw [if_neg (by omega), if_neg (by omega)]; exact e1, by rw [if_neg (by omega), if_neg (by omega)]; exact e2⟩
theorem TB.set1 {t g m : Nat} {T : Nat → Int × Int} {W : World} (h : TB t g m T W) {i : Nat} (hi : i < m) (b : Int) : TB t g m (updV T i ((T i).1, b)) (W.setCell ⟨g, i * 2 + 1, none⟩ (.int .i64 b)) := by
 obtain ⟨cells, h1, h2, h3⟩ := h
 refine ⟨_, blk_set h1 _ _, by simpa using h2, fun j hj => ?_⟩
 have e1 := (h3 j hj).1
 have e2 := (h3 j hj).2
 by_cases hji : j = i
 ·
  subst hji
  rw [updV_at]
  simp only [Array.getElem?_setIfInBounds]
  exact ⟨by rw [if_neg (by omega)]; exact e1, by rw [if_pos trivial, if_pos (by omega)]⟩
 ·
  rw [updV_ne _ _ hji]
  simp only [Array.getElem?_setIfInBounds]
  exact ⟨by rw [if_neg (by omega)]; exact e1, by rw [if_neg (by omega)]; exact e2⟩
theorem made_getElem (z : Array Value) (n i : Nat) (hi : i < n) : (madeCells z n)[i]? = some (z[i % z.size]!) := by
 unfold madeCells
 rw [Array.getElem?_map, Array.getElem?_range, if_pos hi]
 rfl
theorem TB.made (t m : Nat) (W : World) : TB t W.heap.size m (fun _ => (0, 0)) (W.alloc (.cells (madeCells #[.int .i64 0, .int .i64 0] (m * 2)) t)) := by
 refine ⟨_, blk_new W _, size_madeCells _ _, fun i hi => ⟨?_, ?_⟩⟩
 ·
  rw [made_getElem _ _ _ (by omega)]
  have : i * 2 % #[Value.int IntKind.i64 0, Value.int IntKind.i64 0].size = 0 := by show i * 2 % 2 = 0; omega
  rw [this]
  rfl
 ·
  rw [made_getElem _ _ _ (by omega)]
  have : (i * 2 + 1) % #[Value.int IntKind.i64 0, Value.int IntKind.i64 0].size = 1 := by show (i * 2 + 1) % 2 = 1; omega
  rw [this]
  rfl
theorem make_tab {P : Program} {rest : List Oper} {ops : Array Oper} {o : Oper} {a : Act} {Q : Exit → Act → World → Prop} {W : World} (e : TypeId) (hgd : o.guard = none) (t : TypeId) (x y : Operand) (ho : o.op = .makeSlice t x y) (m : Nat) (hx : a.eval x = .int .i64 m) (hy : a.eval y = .int .i64 m) (ht : P.underlying t = some (.slice e)) (hinfo : (P.info? e).map (fun i => (i.zero, i.size, i.bytes)) = some (some (.agg #[.int .i64 0, .int .i64 0]), 2, 16)) (hm : m ≤ 100000)
  (h : wpList P ops Q rest (a.put o.dst (.slice (some ⟨W.heap.size, 0, none⟩) m m)) (W.alloc (.cells (madeCells #[.int .i64 0, .int .i64 0] (m * 2)) e))) : wpList P ops Q (o :: rest) a W := by
 obtain ⟨i0, hi, hzz⟩ := Option.map_eq_some_iff.1 hinfo
 simp only [Prod.mk.injEq] at hzz
 obtain ⟨hz0, hz1, hz2⟩ := hzz
 have hr := run_make (P := P) W t e i0 _ ht hi hz0 .i64 .i64 (m : Int) (m : Int) (by omega) (by omega) (by rw [hz2]; omega) (by omega)
 simp only [Int.toNat_natCast] at hr
 rw [hz1] at hr
 exact Kd.event_run hgd (by simp [execOp, ho, hx, hy, hr]; rfl) h
def stepB (bs : List Int) (F : Nat → Nat → Bool) (C : Nat → Nat → Int) (n : Nat) (T : Nat → Int × Int) (at_ e : Nat) (cur : Int × Int) : Int × Int :=
 if bs.getD (e - 1) 0 = 0 ∨ F at_ e = false ∨ (e < n ∧ (T e).2 < 0) then cur else if cur.2 < 0 ∨ C at_ e + (T e).1 < cur.1 then (C at_ e + (T e).1, (e : Int)) else cur
def rowB (bs : List Int) (F : Nat → Nat → Bool) (C : Nat → Nat → Int) (n : Nat) (T : Nat → Int × Int) (at_ : Nat) : Nat → Nat → Int × Int → Int × Int
 | 0, _, cur => cur
 | g + 1, e, cur => rowB bs F C n T at_ g (e + 1) (stepB bs F C n T at_ e cur)
def tabB (bs : List Int) (F : Nat → Nat → Bool) (C : Nat → Nat → Int) (n : Nat) : Nat → Nat → Int × Int
 | 0 => fun _ => (0, 0)
 | d + 1 => updV (tabB bs F C n d) (n - 1 - d) (rowB bs F C n (tabB bs F C n d) (n - 1 - d) (mustV bs n (n - 1 - d) - (n - 1 - d)) (n - 1 - d + 1) (0, -1))
theorem tabB_lo (bs : List Int) (F : Nat → Nat → Bool) (C : Nat → Nat → Int) (n : Nat) : ∀ (d j : Nat), j + d < n → tabB bs F C n d j = (0, 0)
 | 0, _, _ => rfl
 | d + 1, j, h => by
  rw [tabB, updV_ne _ _ (by omega)]
  exact tabB_lo bs F C n d j (by omega)
def outB (T : Nat → Int × Int) (n : Nat) : Nat → Nat → Option (Option (List Int))
 | 0, at_ => if at_ < n then none else some (some [])
 | g + 1, at_ => if at_ < n then (if (T at_).2 < 0 then some none else if (T at_).2 ≤ (n : Int) then (outB T n g (T at_).2.toNat).bind fun l => some (l.map fun l => (T at_).2 :: l) else none) else some (some [])
def linesV (bs : List Int) (W : Nat → Nat → Int) (J : Nat → Bool) (wide : Int) (n : Nat) (mode : Int) : Option (List Int) :=
 if mode = 1 then (outB (tabB bs (fitV W wide) (costV bs W wide) n n) n n 0).bind fun o => match o with | some l => some l | none => greedyN (nextV bs (fitV W wide) J n) n n 0
 else greedyN (nextV bs (fitV W wide) J n) n n 0
def okB (bs : List Int) (W : Nat → Nat → Int) (wide : Int) (n : Nat) : Prop :=
 (∀ j, j ≤ n → ∀ i, i ≤ j → (wide - W i j).natAbs ≤ 1000000000) ∧ ∀ d, d ≤ n → ∀ j, j ≤ n → 0 ≤ (tabB bs (fitV W wide) (costV bs W wide) n d j).1 ∧ (tabB bs (fitV W wide) (costV bs W wide) n d j).1 ≤ 1000000000000000
instance (bs : List Int) (W : Nat → Nat → Int) (wide : Int) (n : Nat) : Decidable (okB bs W wide n) := by unfold okB; infer_instance
def linesO (bs : List Int) (W : Nat → Nat → Int) (J : Nat → Bool) (wide : Int) (n : Nat) (mode : Int) : Option (List Int) :=
 if n ≤ 1000 ∧ bs.length = n ∧ okB bs W wide n then linesV bs W J wide n mode else none
def spec_l1In.f (a0 : Int) (a1 : Int) (a2 : Int) : Option (Bool) := if a0 ≥ a1 then (some (decide (a0 ≤ a2))) else (some false)
theorem spec_l1In.calls (a0 : Int) (a1 : Int) (a2 : Int) (r : Bool) (w : World) (h : spec_l1In.f a0 a1 a2 = some r) :
  Calls Tryz.prog 36 #[.int .i64 a0, .int .i64 a1, .int .i64 a2] w fun e w' => e = .returned (.bool r) ∧ Drawn0 w w' := by
 have H : (if a0 ≥ a1 then (some (decide (a0 ≤ a2))) else (some false)) = some r := h
 clear h
 by_cases c4 : a0 ≥ a1
 ·
  rw [if_pos c4] at H
  have c4b0 : decide (a1 ≤ a0) = true := decide_eq_true c4
  clear c4
  obtain rfl := Option.some.inj H
  go_enter Tryz.func36, Tryz.ntmps36
  go_wp2
  go_ret
  exact ⟨zB, zE⟩
 ·
  rw [if_neg c4] at H
  have c4b0 : decide (a1 ≤ a0) = false := decide_eq_false c4
  clear c4
  obtain rfl := Option.some.inj H
  go_enter Tryz.func36, Tryz.ntmps36
  go_wp2
  go_ret
  exact ⟨zB, zE⟩
def spec_l1Size.f (a0 : Int) : Option (Int) := (spec_l1In.f a0 0 127).bind fun t101 => (if t101 = true then (some 1) else ((spec_l1In.f a0 128 2047).bind fun t102 => (if t102 = true then (some 2) else ((spec_l1In.f a0 55296 57343).bind fun t103 => (if t103 = true then (some 0) else ((spec_l1In.f a0 2048 65535).bind fun t104 => (if t104 = true then (some 3) else ((spec_l1In.f a0 65536 1114111).bind fun t105 => (if t105 = true then (some 4) else (some 0))))))))))
theorem spec_l1Size.calls (a0 : Int) (r : Int) (w : World) (h : spec_l1Size.f a0 = some r) :
  Calls Tryz.prog 95 #[.int .i64 a0] w fun e w' => e = .returned (.int .i64 r) ∧ Drawn0 w w' := by
 have H : ((spec_l1In.f a0 0 127).bind fun t101 => (if t101 = true then (some 1) else ((spec_l1In.f a0 128 2047).bind fun t102 => (if t102 = true then (some 2) else ((spec_l1In.f a0 55296 57343).bind fun t103 => (if t103 = true then (some 0) else ((spec_l1In.f a0 2048 65535).bind fun t104 => (if t104 = true then (some 3) else ((spec_l1In.f a0 65536 1114111).bind fun t105 => (if t105 = true then (some 4) else (some 0))))))))))) = some r := h; clear h; replace H := Option.bind_eq_some_iff.mp H; obtain ⟨t101, A20, H⟩ := H; replace H : (if t101 = true then (some 1) else ((spec_l1In.f a0 128 2047).bind fun t102 => (if t102 = true then (some 2) else ((spec_l1In.f a0 55296 57343).bind fun t103 => (if t103 = true then (some 0) else ((spec_l1In.f a0 2048 65535).bind fun t104 => (if t104 = true then (some 3) else ((spec_l1In.f a0 65536 1114111).bind fun t105 => (if t105 = true then (some 4) else (some 0)))))))))) = some r := H; have A2 := az A20; clear A20; by_cases c3 : t101 = true
 ·
  subst c3; have H1 : (some 1) = some r := by rw [if_pos rfl] at H; exact H
  clear H; have H := H1; clear H1; obtain rfl := Option.some.inj H; go_enter Tryz.func95, Tryz.ntmps95; go_wp2_with (first | ((with_reducible refine gate_callee (f := 36) rfl ?_); refine goesL_ (some 5) rfl rfl Tryz.func36 (by kernel_rfl) rfl #[.int .i64 a0, .int .i64 0, .int .i64 127] rfl zD ?_; (with_reducible refine (spec_l1In.calls a0 0 127 true _ A2.out).mono ?_); rintro e w' ⟨rfl, ⟨nd, rfl⟩⟩; refine ⟨_, rfl, ?_⟩)); go_ret; exact ⟨zB, zE⟩
 ·
  replace c3 := Bool.eq_false_iff.mpr c3; subst c3; have H1 : ((spec_l1In.f a0 128 2047).bind fun t102 => (if t102 = true then (some 2) else ((spec_l1In.f a0 55296 57343).bind fun t103 => (if t103 = true then (some 0) else ((spec_l1In.f a0 2048 65535).bind fun t104 => (if t104 = true then (some 3) else ((spec_l1In.f a0 65536 1114111).bind fun t105 => (if t105 = true then (some 4) else (some 0))))))))) = some r := by rw [if_neg (show ¬ (false = true) by decide)] at H; exact H
  clear H; have H := H1; clear H1; replace H := Option.bind_eq_some_iff.mp H; obtain ⟨t102, A40, H⟩ := H; replace H : (if t102 = true then (some 2) else ((spec_l1In.f a0 55296 57343).bind fun t103 => (if t103 = true then (some 0) else ((spec_l1In.f a0 2048 65535).bind fun t104 => (if t104 = true then (some 3) else ((spec_l1In.f a0 65536 1114111).bind fun t105 => (if t105 = true then (some 4) else (some 0)))))))) = some r := H; have A4 := az A40; clear A40; by_cases c5 : t102 = true
  ·
   subst c5; have H1 : (some 2) = some r := by rw [if_pos rfl] at H; exact H
   clear H; have H := H1; clear H1; obtain rfl := Option.some.inj H; go_enter Tryz.func95, Tryz.ntmps95; go_wp2_with (first | ((with_reducible refine gate_callee (f := 36) rfl ?_); refine goesL_ (some 5) rfl rfl Tryz.func36 (by kernel_rfl) rfl #[.int .i64 a0, .int .i64 0, .int .i64 127] rfl zD ?_; (with_reducible refine (spec_l1In.calls a0 0 127 false _ A2.out).mono ?_); rintro e w' ⟨rfl, ⟨nd, rfl⟩⟩; refine ⟨_, rfl, ?_⟩) | ((with_reducible refine gate_callee (f := 36) rfl ?_); refine goesL_ (some 8) rfl rfl Tryz.func36 (by kernel_rfl) rfl #[.int .i64 a0, .int .i64 128, .int .i64 2047] rfl zD ?_; (with_reducible refine (spec_l1In.calls a0 128 2047 true _ A4.out).mono ?_); rintro e w' ⟨rfl, ⟨nd, rfl⟩⟩; refine ⟨_, rfl, ?_⟩)); go_ret; exact ⟨zB, zE⟩
  ·
   replace c5 := Bool.eq_false_iff.mpr c5; subst c5; have H1 : ((spec_l1In.f a0 55296 57343).bind fun t103 => (if t103 = true then (some 0) else ((spec_l1In.f a0 2048 65535).bind fun t104 => (if t104 = true then (some 3) else ((spec_l1In.f a0 65536 1114111).bind fun t105 => (if t105 = true then (some 4) else (some 0))))))) = some r := by rw [if_neg (show ¬ (false = true) by decide)] at H; exact H
   clear H; have H := H1; clear H1; replace H := Option.bind_eq_some_iff.mp H; obtain ⟨t103, A60, H⟩ := H; replace H : (if t103 = true then (some 0) else ((spec_l1In.f a0 2048 65535).bind fun t104 => (if t104 = true then (some 3) else ((spec_l1In.f a0 65536 1114111).bind fun t105 => (if t105 = true then (some 4) else (some 0)))))) = some r := H; have A6 := az A60; clear A60; by_cases c7 : t103 = true
   ·
    subst c7; have H1 : (some 0) = some r := by rw [if_pos rfl] at H; exact H
    clear H; have H := H1; clear H1; obtain rfl := Option.some.inj H; go_enter Tryz.func95, Tryz.ntmps95; go_wp2_with (first | ((with_reducible refine gate_callee (f := 36) rfl ?_); refine goesL_ (some 5) rfl rfl Tryz.func36 (by kernel_rfl) rfl #[.int .i64 a0, .int .i64 0, .int .i64 127] rfl zD ?_; (with_reducible refine (spec_l1In.calls a0 0 127 false _ A2.out).mono ?_); rintro e w' ⟨rfl, ⟨nd, rfl⟩⟩; refine ⟨_, rfl, ?_⟩) | ((with_reducible refine gate_callee (f := 36) rfl ?_); refine goesL_ (some 8) rfl rfl Tryz.func36 (by kernel_rfl) rfl #[.int .i64 a0, .int .i64 128, .int .i64 2047] rfl zD ?_; (with_reducible refine (spec_l1In.calls a0 128 2047 false _ A4.out).mono ?_); rintro e w' ⟨rfl, ⟨nd, rfl⟩⟩; refine ⟨_, rfl, ?_⟩) | ((with_reducible refine gate_callee (f := 36) rfl ?_); refine goesL_ (some 11) rfl rfl Tryz.func36 (by kernel_rfl) rfl #[.int .i64 a0, .int .i64 55296, .int .i64 57343] rfl zD ?_; (with_reducible refine (spec_l1In.calls a0 55296 57343 true _ A6.out).mono ?_); rintro e w' ⟨rfl, ⟨nd, rfl⟩⟩; refine ⟨_, rfl, ?_⟩)); go_ret; exact ⟨zB, zE⟩
   ·
    replace c7 := Bool.eq_false_iff.mpr c7; subst c7; have H1 : ((spec_l1In.f a0 2048 65535).bind fun t104 => (if t104 = true then (some 3) else ((spec_l1In.f a0 65536 1114111).bind fun t105 => (if t105 = true then (some 4) else (some 0))))) = some r := by rw [if_neg (show ¬ (false = true) by decide)] at H; exact H
    clear H; have H := H1; clear H1; replace H := Option.bind_eq_some_iff.mp H; obtain ⟨t104, A80, H⟩ := H; replace H : (if t104 = true then (some 3) else ((spec_l1In.f a0 65536 1114111).bind fun t105 => (if t105 = true then (some 4) else (some 0)))) = some r := H; have A8 := az A80; clear A80; by_cases c9 : t104 = true
    ·
     subst c9; have H1 : (some 3) = some r := by rw [if_pos rfl] at H; exact H
     clear H; have H := H1; clear H1; obtain rfl := Option.some.inj H; go_enter Tryz.func95, Tryz.ntmps95; go_wp2_with (first | ((with_reducible refine gate_callee (f := 36) rfl ?_); refine goesL_ (some 5) rfl rfl Tryz.func36 (by kernel_rfl) rfl #[.int .i64 a0, .int .i64 0, .int .i64 127] rfl zD ?_; (with_reducible refine (spec_l1In.calls a0 0 127 false _ A2.out).mono ?_); rintro e w' ⟨rfl, ⟨nd, rfl⟩⟩; refine ⟨_, rfl, ?_⟩) | ((with_reducible refine gate_callee (f := 36) rfl ?_); refine goesL_ (some 8) rfl rfl Tryz.func36 (by kernel_rfl) rfl #[.int .i64 a0, .int .i64 128, .int .i64 2047] rfl zD ?_; (with_reducible refine (spec_l1In.calls a0 128 2047 false _ A4.out).mono ?_); rintro e w' ⟨rfl, ⟨nd, rfl⟩⟩; refine ⟨_, rfl, ?_⟩) | ((with_reducible refine gate_callee (f := 36) rfl ?_); refine goesL_ (some 11) rfl rfl Tryz.func36 (by kernel_rfl) rfl #[.int .i64 a0, .int .i64 55296, .int .i64 57343] rfl zD ?_; (with_reducible refine (spec_l1In.calls a0 55296 57343 false _ A6.out).mono ?_); rintro e w' ⟨rfl, ⟨nd, rfl⟩⟩; refine ⟨_, rfl, ?_⟩) | ((with_reducible refine gate_callee (f := 36) rfl ?_); refine goesL_ (some 14) rfl rfl Tryz.func36 (by kernel_rfl) rfl #[.int .i64 a0, .int .i64 2048, .int .i64 65535] rfl zD ?_; (with_reducible refine (spec_l1In.calls a0 2048 65535 true _ A8.out).mono ?_); rintro e w' ⟨rfl, ⟨nd, rfl⟩⟩; refine ⟨_, rfl, ?_⟩)); go_ret; exact ⟨zB, zE⟩
    ·
     replace c9 := Bool.eq_false_iff.mpr c9; subst c9; have H1 : ((spec_l1In.f a0 65536 1114111).bind fun t105 => (if t105 = true then (some 4) else (some 0))) = some r := by rw [if_neg (show ¬ (false = true) by decide)] at H; exact H
     clear H; have H := H1; clear H1; replace H := Option.bind_eq_some_iff.mp H; obtain ⟨t105, A100, H⟩ := H; replace H : (if t105 = true then (some 4) else (some 0)) = some r := H; have A10 := az A100; clear A100; by_cases c11 : t105 = true
     ·
      subst c11; have H1 : (some 4) = some r := by rw [if_pos rfl] at H; exact H
      clear H; have H := H1; clear H1; obtain rfl := Option.some.inj H; go_enter Tryz.func95, Tryz.ntmps95; go_wp2_with (first | ((with_reducible refine gate_callee (f := 36) rfl ?_); refine goesL_ (some 5) rfl rfl Tryz.func36 (by kernel_rfl) rfl #[.int .i64 a0, .int .i64 0, .int .i64 127] rfl zD ?_; (with_reducible refine (spec_l1In.calls a0 0 127 false _ A2.out).mono ?_); rintro e w' ⟨rfl, ⟨nd, rfl⟩⟩; refine ⟨_, rfl, ?_⟩) | ((with_reducible refine gate_callee (f := 36) rfl ?_); refine goesL_ (some 8) rfl rfl Tryz.func36 (by kernel_rfl) rfl #[.int .i64 a0, .int .i64 128, .int .i64 2047] rfl zD ?_; (with_reducible refine (spec_l1In.calls a0 128 2047 false _ A4.out).mono ?_); rintro e w' ⟨rfl, ⟨nd, rfl⟩⟩; refine ⟨_, rfl, ?_⟩) | ((with_reducible refine gate_callee (f := 36) rfl ?_); refine goesL_ (some 11) rfl rfl Tryz.func36 (by kernel_rfl) rfl #[.int .i64 a0, .int .i64 55296, .int .i64 57343] rfl zD ?_; (with_reducible refine (spec_l1In.calls a0 55296 57343 false _ A6.out).mono ?_); rintro e w' ⟨rfl, ⟨nd, rfl⟩⟩; refine ⟨_, rfl, ?_⟩) | ((with_reducible refine gate_callee (f := 36) rfl ?_); refine goesL_ (some 14) rfl rfl Tryz.func36 (by kernel_rfl) rfl #[.int .i64 a0, .int .i64 2048, .int .i64 65535] rfl zD ?_; (with_reducible refine (spec_l1In.calls a0 2048 65535 false _ A8.out).mono ?_); rintro e w' ⟨rfl, ⟨nd, rfl⟩⟩; refine ⟨_, rfl, ?_⟩) | ((with_reducible refine gate_callee (f := 36) rfl ?_); refine goesL_ (some 17) rfl rfl Tryz.func36 (by kernel_rfl) rfl #[.int .i64 a0, .int .i64 65536, .int .i64 1114111] rfl zD ?_; (with_reducible refine (spec_l1In.calls a0 65536 1114111 true _ A10.out).mono ?_); rintro e w' ⟨rfl, ⟨nd, rfl⟩⟩; refine ⟨_, rfl, ?_⟩)); go_ret; exact ⟨zB, zE⟩
     ·
      replace c11 := Bool.eq_false_iff.mpr c11; subst c11; have H1 : (some 0) = some r := by rw [if_neg (show ¬ (false = true) by decide)] at H; exact H
      clear H; have H := H1; clear H1; obtain rfl := Option.some.inj H; go_enter Tryz.func95, Tryz.ntmps95; go_wp2_with (first | ((with_reducible refine gate_callee (f := 36) rfl ?_); refine goesL_ (some 5) rfl rfl Tryz.func36 (by kernel_rfl) rfl #[.int .i64 a0, .int .i64 0, .int .i64 127] rfl zD ?_; (with_reducible refine (spec_l1In.calls a0 0 127 false _ A2.out).mono ?_); rintro e w' ⟨rfl, ⟨nd, rfl⟩⟩; refine ⟨_, rfl, ?_⟩) | ((with_reducible refine gate_callee (f := 36) rfl ?_); refine goesL_ (some 8) rfl rfl Tryz.func36 (by kernel_rfl) rfl #[.int .i64 a0, .int .i64 128, .int .i64 2047] rfl zD ?_; (with_reducible refine (spec_l1In.calls a0 128 2047 false _ A4.out).mono ?_); rintro e w' ⟨rfl, ⟨nd, rfl⟩⟩; refine ⟨_, rfl, ?_⟩) | ((with_reducible refine gate_callee (f := 36) rfl ?_); refine goesL_ (some 11) rfl rfl Tryz.func36 (by kernel_rfl) rfl #[.int .i64 a0, .int .i64 55296, .int .i64 57343] rfl zD ?_; (with_reducible refine (spec_l1In.calls a0 55296 57343 false _ A6.out).mono ?_); rintro e w' ⟨rfl, ⟨nd, rfl⟩⟩; refine ⟨_, rfl, ?_⟩) | ((with_reducible refine gate_callee (f := 36) rfl ?_); refine goesL_ (some 14) rfl rfl Tryz.func36 (by kernel_rfl) rfl #[.int .i64 a0, .int .i64 2048, .int .i64 65535] rfl zD ?_; (with_reducible refine (spec_l1In.calls a0 2048 65535 false _ A8.out).mono ?_); rintro e w' ⟨rfl, ⟨nd, rfl⟩⟩; refine ⟨_, rfl, ?_⟩) | ((with_reducible refine gate_callee (f := 36) rfl ?_); refine goesL_ (some 17) rfl rfl Tryz.func36 (by kernel_rfl) rfl #[.int .i64 a0, .int .i64 65536, .int .i64 1114111] rfl zD ?_; (with_reducible refine (spec_l1In.calls a0 65536 1114111 false _ A10.out).mono ?_); rintro e w' ⟨rfl, ⟨nd, rfl⟩⟩; refine ⟨_, rfl, ?_⟩)); go_ret; exact ⟨zB, zE⟩
def spec_l1Ok.l0 : Nat → List Int → Int → Option (Bool)
 | 0, _, _ => none
 | k + 1, x0, x3 => if x3 < (x0.length : Int) then (if 0 ≤ x3 then ((spec_l1Size.f (rd x0 x3)).bind fun t107 => (if t107 = 0 then (some false) else (spec_l1Ok.l0 k x0 (wrap64 (x3 + 1))))) else (none)) else (some (decide ((x0.length : Int) ≤ 80)))
def spec_l1Ok.f (k : Nat) (l0 : List Int) : Option (Bool) := spec_l1Ok.l0 k l0 0
theorem spec_l1Ok.mono_l : ∀ k, (∀ y0 y1, LeO (spec_l1Ok.l0 k y0 y1) (spec_l1Ok.l0 (k + 1) y0 y1))
 | 0 => fun _ _ r h => by simp [spec_l1Ok.l0] at h
 | k + 1 => by
  have ih0 := spec_l1Ok.mono_l k
  ·
   intro y0 y1; unfold spec_l1Ok.l0
   repeat' first
   | (with_reducible exact ih0 _ _)
   | (with_reducible exact LeO.refl _)
   | (with_reducible exact LeO.none _)
   | (with_reducible refine LeO.ite ?_ ?_)
   | (with_reducible refine LeO.bind ?_ (fun _ => ?_))
   | exact ih0 _ _
   | exact LeO.none _
   | refine LeO.ite ?_ ?_
   | refine LeO.bind ?_ (fun _ => ?_)
theorem spec_l1Ok.mono : ∀ a0 k, LeO (spec_l1Ok.f k a0) (spec_l1Ok.f (k + 1) a0) := by
 intro a0 k; have ih0 := spec_l1Ok.mono_l k; unfold spec_l1Ok.f
 repeat' first
   | (with_reducible exact ih0 _ _)
   | (with_reducible exact LeO.refl _)
   | (with_reducible exact LeO.none _)
   | (with_reducible refine LeO.ite ?_ ?_)
   | (with_reducible refine LeO.bind ?_ (fun _ => ?_))
   | exact ih0 _ _
   | exact LeO.none _
   | refine LeO.ite ?_ ?_
   | refine LeO.bind ?_ (fun _ => ?_)
theorem spec_l1Ok.calls (k : Nat) (A0 : Option Addr) (c0 : Nat) (l0 : List Int) (r : Bool) (w : World) (hr0 : Kd.C (Kd.int .i64) w A0 l0.length l0) (hc0 : l0.length ≤ c0) (h : spec_l1Ok.f k l0 = some r) :
  Calls Tryz.prog 68 #[.slice A0 l0.length c0] w fun e w' => e = .returned (.bool r) ∧ Drawn0 w w' := by
 have HR0 := az hr0; have HC0 := az hc0; clear hr0 hc0; have H : (spec_l1Ok.l0 k l0 0) = some r := h; clear h; have H' := az H; clear H; go_enter Tryz.func68, Tryz.ntmps68; go_wp2; go_loopg [3] k (fun kq v3 w' => ∃ (x3_1 : Int), v3 = .int .i64 x3_1 ∧ Aside0 (spec_l1Ok.l0 kq l0 x3_1 = some r) ∧ Aside0 (kq ≤ k) ∧ Drawn0 w w')
 case atStart => exact ⟨(0), zB, H', ⟨Nat.le_refl _⟩, zE⟩
 case round =>
  clear H'; obtain ⟨x3_1, rfl, HA, HK1, ⟨m1, rfl⟩⟩ := hrel
  cases gk with
  | zero => exact absurd HA.out (by simp [spec_l1Ok.l0])
  | succ k1 =>
   have H := HA.out; clear HA; simp only [spec_l1Ok.l0] at H; by_cases c2 : x3_1 < (l0.length : Int)
   ·
    rw [if_pos c2] at H; have c2b0 : decide (x3_1 < (l0.length : Int)) = true := decide_eq_true c2; clear c2; by_cases c3 : 0 ≤ x3_1
    ·
     rw [if_pos c3] at H; have c3b0 : decide (0 ≤ x3_1) = true := decide_eq_true c3; clear c3; replace H := Option.bind_eq_some_iff.mp H; obtain ⟨t107, A40, H⟩ := H; replace H : (if t107 = 0 then (some false) else (spec_l1Ok.l0 k1 l0 (wrap64 (x3_1 + 1)))) = some r := H; have A4 := az A40; clear A40; by_cases c5 : t107 = 0
     ·
      rw [if_pos c5] at H; have c5b0 : (t107 == 0) = true := beq_iff_eq.mpr c5; have c5b1 : (t107 != 0) = false := bne_eq_false_iff_eq.mpr c5; clear c5; obtain rfl := Option.some.inj H; have p106 : 0 ≤ (x3_1 : Int) := of_decide_eq_true (by assumption); have q106 : x3_1 < (l0.length : Int) := of_decide_eq_true (by assumption); obtain ⟨ad106, e106, hx106_0⟩ := Kd.at_int HR0.out x3_1 p106 q106
      cases e106
      replace p106 := eq_true p106; replace q106 := eq_true q106; go_wp2_with (first | ((with_reducible refine gate_callee (f := 95) rfl ?_); refine goesL_ (some 14) rfl rfl Tryz.func95 (by kernel_rfl) rfl #[.int .i64 (rd l0 x3_1)] rfl zD ?_; (with_reducible refine (spec_l1Size.calls (rd l0 x3_1) t107 _ A4.out).mono ?_); rintro e w' ⟨rfl, ⟨nd, rfl⟩⟩; refine ⟨_, rfl, ?_⟩)); go_ret; exact ⟨zB, zE⟩
     ·
      rw [if_neg c5] at H; have c5b0 : (t107 == 0) = false := beq_eq_false_iff_ne.mpr c5; have c5b1 : (t107 != 0) = true := bne_iff_ne.mpr c5; have H' := az H; clear H; have p106 : 0 ≤ (x3_1 : Int) := of_decide_eq_true (by assumption); have q106 : x3_1 < (l0.length : Int) := of_decide_eq_true (by assumption); obtain ⟨ad106, e106, hx106_0⟩ := Kd.at_int HR0.out x3_1 p106 q106
      cases e106
      replace p106 := eq_true p106; replace q106 := eq_true q106; go_wp2_with (first | ((with_reducible refine gate_callee (f := 95) rfl ?_); refine goesL_ (some 14) rfl rfl Tryz.func95 (by kernel_rfl) rfl #[.int .i64 (rd l0 x3_1)] rfl zD ?_; (with_reducible refine (spec_l1Size.calls (rd l0 x3_1) t107 _ A4.out).mono ?_); rintro e w' ⟨rfl, ⟨nd, rfl⟩⟩; refine ⟨_, rfl, ?_⟩)); go_roundg k1
      case measure => have := HK1.out; omega
      case rel => exact ⟨(wrap64 (x3_1 + 1)), zB, H', ⟨zG HK1.out⟩, zE⟩
    ·
     rw [if_neg c3] at H; exact absurd H (by simp)
   ·
    rw [if_neg c2] at H; have c2b0 : decide (x3_1 < (l0.length : Int)) = false := decide_eq_false c2; clear c2; obtain rfl := Option.some.inj H; go_wp2; go_ret; exact ⟨zB, zE⟩
def spec_l6Ok.f (a0_0 : Int) (a0_1 : Int) (a0_2 : Int) (a0_3 : Int) (a1 : Int) : Option (Bool) := (spec_l1In.f a0_0 0 (wrap64 (a1 - 1))).bind fun t109 => (if t109 = true then ((spec_l1In.f a0_1 (wrap64 (a0_0 + 1)) a1).bind fun t110 => (if t110 = true then ((spec_l1In.f a0_2 1 40).bind fun t111 => (if t111 = true then ((spec_l1In.f a0_3 0 9).bind fun t112 => (some t112)) else (some false))) else (some false))) else (some false))
theorem spec_l6Ok.calls (a0_0 : Int) (a0_1 : Int) (a0_2 : Int) (a0_3 : Int) (a1 : Int) (r : Bool) (w : World) (h : spec_l6Ok.f a0_0 a0_1 a0_2 a0_3 a1 = some r) :
  Calls Tryz.prog 96 #[.agg #[.int .i64 a0_0, .int .i64 a0_1, .int .i64 a0_2, .int .i64 a0_3], .int .i64 a1] w fun e w' => e = .returned (.bool r) ∧ Below w.heap.size w w' := by
 have hu50 := Tryz.underlying50; have HB := az (Below.refl w.heap.size w); have H : ((spec_l1In.f a0_0 0 (wrap64 (a1 - 1))).bind fun t109 => (if t109 = true then ((spec_l1In.f a0_1 (wrap64 (a0_0 + 1)) a1).bind fun t110 => (if t110 = true then ((spec_l1In.f a0_2 1 40).bind fun t111 => (if t111 = true then ((spec_l1In.f a0_3 0 9).bind fun t112 => (some t112)) else (some false))) else (some false))) else (some false))) = some r := h; clear h; replace H := Option.bind_eq_some_iff.mp H; obtain ⟨t109, A30, H⟩ := H; replace H : (if t109 = true then ((spec_l1In.f a0_1 (wrap64 (a0_0 + 1)) a1).bind fun t110 => (if t110 = true then ((spec_l1In.f a0_2 1 40).bind fun t111 => (if t111 = true then ((spec_l1In.f a0_3 0 9).bind fun t112 => (some t112)) else (some false))) else (some false))) else (some false)) = some r := H; have A3 := az A30; clear A30; by_cases c4 : t109 = true
 ·
  subst c4; have H1 : ((spec_l1In.f a0_1 (wrap64 (a0_0 + 1)) a1).bind fun t110 => (if t110 = true then ((spec_l1In.f a0_2 1 40).bind fun t111 => (if t111 = true then ((spec_l1In.f a0_3 0 9).bind fun t112 => (some t112)) else (some false))) else (some false))) = some r := by rw [if_pos rfl] at H; exact H
  clear H; have H := H1; clear H1; replace H := Option.bind_eq_some_iff.mp H; obtain ⟨t110, A50, H⟩ := H; replace H : (if t110 = true then ((spec_l1In.f a0_2 1 40).bind fun t111 => (if t111 = true then ((spec_l1In.f a0_3 0 9).bind fun t112 => (some t112)) else (some false))) else (some false)) = some r := H; have A5 := az A50; clear A50; by_cases c6 : t110 = true
  ·
   subst c6; have H1 : ((spec_l1In.f a0_2 1 40).bind fun t111 => (if t111 = true then ((spec_l1In.f a0_3 0 9).bind fun t112 => (some t112)) else (some false))) = some r := by rw [if_pos rfl] at H; exact H
   clear H; have H := H1; clear H1; replace H := Option.bind_eq_some_iff.mp H; obtain ⟨t111, A70, H⟩ := H; replace H : (if t111 = true then ((spec_l1In.f a0_3 0 9).bind fun t112 => (some t112)) else (some false)) = some r := H; have A7 := az A70; clear A70; by_cases c8 : t111 = true
   ·
    subst c8; have H1 : ((spec_l1In.f a0_3 0 9).bind fun t112 => (some t112)) = some r := by rw [if_pos rfl] at H; exact H
    clear H; have H := H1; clear H1; replace H := Option.bind_eq_some_iff.mp H; obtain ⟨t112, A90, H⟩ := H; replace H : (some t112) = some r := H; have A9 := az A90; clear A90; obtain rfl := Option.some.inj H; go_enter Tryz.func96, Tryz.ntmps96; go_wp2_with (first | ((with_reducible refine gate_dst (N := 2) rfl ?_); refine box_event ?hg (N := 2) ?hd (cs := #[.int .i64 a0_0, .int .i64 a0_1, .int .i64 a0_2, .int .i64 a0_3]) (t := 50) ?hr ?_; (case hd => rfl); (case hg => rfl); (case hr => first | (go_simp; done) | (go_simp; rfl)); intro gb108 hg w10 hbox hb; have n0_ := az (below_step (zA HB.out) hb); have n1_ := az (hbox); have n2_ := az ((by rw [hg]; exact (below_size (zA HB.out)) : w.heap.size ≤ gb108)); have n3_ := az ((by rw [hg]; exact (below_size (zA HB.out)) : w.heap.size ≤ gb108)); clear HB; have HB := n0_; have BK108 := n1_; have GW108 := n2_; have GE108 := n3_; clear n0_ n1_ n2_ n3_; clear hb hbox hg; have hcz11_0 : w10.cell? ⟨gb108, 0, none⟩ = some (.int .i64 a0_0) := (blk_cell BK108.out 0).trans rfl; have hcz11_1 : w10.cell? ⟨gb108, 1, none⟩ = some (.int .i64 a0_1) := (blk_cell BK108.out 1).trans rfl; have hcz11_2 : w10.cell? ⟨gb108, 2, none⟩ = some (.int .i64 a0_2) := (blk_cell BK108.out 2).trans rfl; have hcz11_3 : w10.cell? ⟨gb108, 3, none⟩ = some (.int .i64 a0_3) := (blk_cell BK108.out 3).trans rfl; have hfz11_0 := blk_frozen BK108.out 0; have hfz11_1 := blk_frozen BK108.out 1; have hfz11_2 := blk_frozen BK108.out 2; have hfz11_3 := blk_frozen BK108.out 3) | ((with_reducible refine gate_callee (f := 36) rfl ?_); refine goesL_ (some 9) rfl rfl Tryz.func36 (by kernel_rfl) rfl #[.int .i64 a0_0, .int .i64 0, .int .i64 (wrap64 (a1 - 1))] rfl zD ?_; (with_reducible refine (spec_l1In.calls a0_0 0 (wrap64 (a1 - 1)) true _ A3.out).mono ?_); rintro e w' ⟨rfl, ⟨nd, rfl⟩⟩; refine ⟨_, rfl, ?_⟩) | (go_at_call 36; (with_reducible refine (spec_l1In.calls a0_1 (wrap64 (a0_0 + 1)) a1 true _ A5.out).mono ?_); rintro e w' ⟨rfl, ⟨nd, rfl⟩⟩) | (go_at_call 36; (with_reducible refine (spec_l1In.calls a0_2 1 40 true _ A7.out).mono ?_); rintro e w' ⟨rfl, ⟨nd, rfl⟩⟩) | (go_at_call 36; (with_reducible refine (spec_l1In.calls a0_3 0 9 t112 _ A9.out).mono ?_); rintro e w' ⟨rfl, ⟨nd, rfl⟩⟩)); go_ret; exact ⟨zF, zH HB.out GE108.out⟩
   ·
    replace c8 := Bool.eq_false_iff.mpr c8; subst c8; have H1 : (some false) = some r := by rw [if_neg (show ¬ (false = true) by decide)] at H; exact H
    clear H; have H := H1; clear H1; obtain rfl := Option.some.inj H; go_enter Tryz.func96, Tryz.ntmps96; go_wp2_with (first | ((with_reducible refine gate_dst (N := 2) rfl ?_); refine box_event ?hg (N := 2) ?hd (cs := #[.int .i64 a0_0, .int .i64 a0_1, .int .i64 a0_2, .int .i64 a0_3]) (t := 50) ?hr ?_; (case hd => rfl); (case hg => rfl); (case hr => first | (go_simp; done) | (go_simp; rfl)); intro gb108 hg w12 hbox hb; have n0_ := az (below_step (zA HB.out) hb); have n1_ := az (hbox); have n2_ := az ((by rw [hg]; exact (below_size (zA HB.out)) : w.heap.size ≤ gb108)); have n3_ := az ((by rw [hg]; exact (below_size (zA HB.out)) : w.heap.size ≤ gb108)); clear HB; have HB := n0_; have BK108 := n1_; have GW108 := n2_; have GE108 := n3_; clear n0_ n1_ n2_ n3_; clear hb hbox hg; have hcz13_0 : w12.cell? ⟨gb108, 0, none⟩ = some (.int .i64 a0_0) := (blk_cell BK108.out 0).trans rfl; have hcz13_1 : w12.cell? ⟨gb108, 1, none⟩ = some (.int .i64 a0_1) := (blk_cell BK108.out 1).trans rfl; have hcz13_2 : w12.cell? ⟨gb108, 2, none⟩ = some (.int .i64 a0_2) := (blk_cell BK108.out 2).trans rfl; have hcz13_3 : w12.cell? ⟨gb108, 3, none⟩ = some (.int .i64 a0_3) := (blk_cell BK108.out 3).trans rfl; have hfz13_0 := blk_frozen BK108.out 0; have hfz13_1 := blk_frozen BK108.out 1; have hfz13_2 := blk_frozen BK108.out 2; have hfz13_3 := blk_frozen BK108.out 3) | ((with_reducible refine gate_callee (f := 36) rfl ?_); refine goesL_ (some 9) rfl rfl Tryz.func36 (by kernel_rfl) rfl #[.int .i64 a0_0, .int .i64 0, .int .i64 (wrap64 (a1 - 1))] rfl zD ?_; (with_reducible refine (spec_l1In.calls a0_0 0 (wrap64 (a1 - 1)) true _ A3.out).mono ?_); rintro e w' ⟨rfl, ⟨nd, rfl⟩⟩; refine ⟨_, rfl, ?_⟩) | (go_at_call 36; (with_reducible refine (spec_l1In.calls a0_1 (wrap64 (a0_0 + 1)) a1 true _ A5.out).mono ?_); rintro e w' ⟨rfl, ⟨nd, rfl⟩⟩) | (go_at_call 36; (with_reducible refine (spec_l1In.calls a0_2 1 40 false _ A7.out).mono ?_); rintro e w' ⟨rfl, ⟨nd, rfl⟩⟩)); go_ret; exact ⟨zF, zH HB.out GE108.out⟩
  ·
   replace c6 := Bool.eq_false_iff.mpr c6; subst c6; have H1 : (some false) = some r := by rw [if_neg (show ¬ (false = true) by decide)] at H; exact H
   clear H; have H := H1; clear H1; obtain rfl := Option.some.inj H; go_enter Tryz.func96, Tryz.ntmps96; go_wp2_with (first | ((with_reducible refine gate_dst (N := 2) rfl ?_); refine box_event ?hg (N := 2) ?hd (cs := #[.int .i64 a0_0, .int .i64 a0_1, .int .i64 a0_2, .int .i64 a0_3]) (t := 50) ?hr ?_; (case hd => rfl); (case hg => rfl); (case hr => first | (go_simp; done) | (go_simp; rfl)); intro gb108 hg w14 hbox hb; have n0_ := az (below_step (zA HB.out) hb); have n1_ := az (hbox); have n2_ := az ((by rw [hg]; exact (below_size (zA HB.out)) : w.heap.size ≤ gb108)); have n3_ := az ((by rw [hg]; exact (below_size (zA HB.out)) : w.heap.size ≤ gb108)); clear HB; have HB := n0_; have BK108 := n1_; have GW108 := n2_; have GE108 := n3_; clear n0_ n1_ n2_ n3_; clear hb hbox hg; have hcz15_0 : w14.cell? ⟨gb108, 0, none⟩ = some (.int .i64 a0_0) := (blk_cell BK108.out 0).trans rfl; have hcz15_1 : w14.cell? ⟨gb108, 1, none⟩ = some (.int .i64 a0_1) := (blk_cell BK108.out 1).trans rfl; have hcz15_2 : w14.cell? ⟨gb108, 2, none⟩ = some (.int .i64 a0_2) := (blk_cell BK108.out 2).trans rfl; have hcz15_3 : w14.cell? ⟨gb108, 3, none⟩ = some (.int .i64 a0_3) := (blk_cell BK108.out 3).trans rfl; have hfz15_0 := blk_frozen BK108.out 0; have hfz15_1 := blk_frozen BK108.out 1; have hfz15_2 := blk_frozen BK108.out 2; have hfz15_3 := blk_frozen BK108.out 3) | ((with_reducible refine gate_callee (f := 36) rfl ?_); refine goesL_ (some 9) rfl rfl Tryz.func36 (by kernel_rfl) rfl #[.int .i64 a0_0, .int .i64 0, .int .i64 (wrap64 (a1 - 1))] rfl zD ?_; (with_reducible refine (spec_l1In.calls a0_0 0 (wrap64 (a1 - 1)) true _ A3.out).mono ?_); rintro e w' ⟨rfl, ⟨nd, rfl⟩⟩; refine ⟨_, rfl, ?_⟩) | (go_at_call 36; (with_reducible refine (spec_l1In.calls a0_1 (wrap64 (a0_0 + 1)) a1 false _ A5.out).mono ?_); rintro e w' ⟨rfl, ⟨nd, rfl⟩⟩)); go_ret; exact ⟨zF, zH HB.out GE108.out⟩
 ·
  replace c4 := Bool.eq_false_iff.mpr c4; subst c4; have H1 : (some false) = some r := by rw [if_neg (show ¬ (false = true) by decide)] at H; exact H
  clear H; have H := H1; clear H1; obtain rfl := Option.some.inj H; go_enter Tryz.func96, Tryz.ntmps96; go_wp2_with (first | ((with_reducible refine gate_dst (N := 2) rfl ?_); refine box_event ?hg (N := 2) ?hd (cs := #[.int .i64 a0_0, .int .i64 a0_1, .int .i64 a0_2, .int .i64 a0_3]) (t := 50) ?hr ?_; (case hd => rfl); (case hg => rfl); (case hr => first | (go_simp; done) | (go_simp; rfl)); intro gb108 hg w16 hbox hb; have n0_ := az (below_step (zA HB.out) hb); have n1_ := az (hbox); have n2_ := az ((by rw [hg]; exact (below_size (zA HB.out)) : w.heap.size ≤ gb108)); have n3_ := az ((by rw [hg]; exact (below_size (zA HB.out)) : w.heap.size ≤ gb108)); clear HB; have HB := n0_; have BK108 := n1_; have GW108 := n2_; have GE108 := n3_; clear n0_ n1_ n2_ n3_; clear hb hbox hg; have hcz17_0 : w16.cell? ⟨gb108, 0, none⟩ = some (.int .i64 a0_0) := (blk_cell BK108.out 0).trans rfl; have hcz17_1 : w16.cell? ⟨gb108, 1, none⟩ = some (.int .i64 a0_1) := (blk_cell BK108.out 1).trans rfl; have hcz17_2 : w16.cell? ⟨gb108, 2, none⟩ = some (.int .i64 a0_2) := (blk_cell BK108.out 2).trans rfl; have hcz17_3 : w16.cell? ⟨gb108, 3, none⟩ = some (.int .i64 a0_3) := (blk_cell BK108.out 3).trans rfl; have hfz17_0 := blk_frozen BK108.out 0; have hfz17_1 := blk_frozen BK108.out 1; have hfz17_2 := blk_frozen BK108.out 2; have hfz17_3 := blk_frozen BK108.out 3) | ((with_reducible refine gate_callee (f := 36) rfl ?_); refine goesL_ (some 9) rfl rfl Tryz.func36 (by kernel_rfl) rfl #[.int .i64 a0_0, .int .i64 0, .int .i64 (wrap64 (a1 - 1))] rfl zD ?_; (with_reducible refine (spec_l1In.calls a0_0 0 (wrap64 (a1 - 1)) false _ A3.out).mono ?_); rintro e w' ⟨rfl, ⟨nd, rfl⟩⟩; refine ⟨_, rfl, ?_⟩)); go_ret; exact ⟨zF, zH HB.out GE108.out⟩
abbrev q3M0 : Array Bool := #[false, false, false, false, false, false, false, false, false, false, false, false, false, false, false, false, false, false, false, false, false, false, false, false, false]
abbrev q3M1 : Array Bool := #[true, false, false, false, false, false, false, false, false, false, false, false, false, false, false, false, false, false, false, false, false, false, false, false, false]
abbrev q3M2 : Array Bool := #[true, true, false, false, false, false, false, false, false, false, false, false, false, false, false, false, false, false, false, false, false, false, false, false, false]
abbrev q3M3 : Array Bool := #[true, true, true, false, false, false, false, false, false, false, false, false, false, false, false, false, false, false, false, false, false, false, false, false, false]
abbrev q3M4 : Array Bool := #[true, true, true, false, true, false, false, false, false, false, false, false, false, false, false, false, false, false, false, false, false, false, false, false, false]
abbrev q3M5 : Array Bool := #[true, true, true, true, true, false, false, false, false, false, false, false, false, false, false, false, false, false, false, false, false, false, false, false, false]
abbrev q3M6 : Array Bool := #[true, true, true, true, true, true, false, false, false, false, false, false, false, false, false, false, false, false, false, false, false, false, false, false, false]
abbrev q3M7 : Array Bool := #[true, true, true, true, true, true, true, false, false, false, false, false, false, false, false, false, false, false, false, false, false, false, false, false, false]
abbrev q3M8 : Array Bool := #[true, true, true, true, true, true, true, true, false, false, false, false, false, false, false, false, false, false, false, false, false, false, false, false, false]
abbrev q3M9 : Array Bool := #[true, true, true, true, true, true, true, true, true, false, false, false, false, false, false, false, false, false, false, false, false, false, false, false, false]
abbrev q3M10 : Array Bool := #[true, true, true, true, true, true, true, true, true, true, false, false, false, false, false, false, false, false, false, false, false, false, false, false, false]
abbrev q3M11 : Array Bool := #[true, true, true, true, true, true, true, true, true, true, true, false, false, false, false, false, false, false, false, false, false, false, false, false, false]
abbrev q3M12 : Array Bool := #[true, true, true, true, true, true, true, true, true, true, true, true, false, false, false, false, false, false, false, false, false, false, false, false, false]
abbrev q3M13 : Array Bool := #[true, true, true, true, true, true, true, true, true, true, true, true, true, false, false, false, false, false, false, false, false, false, false, false, false]
abbrev q3M14 : Array Bool := #[true, true, true, true, true, true, true, true, true, true, true, true, true, true, false, false, false, false, false, false, false, false, false, false, false]
abbrev q3M15 : Array Bool := #[true, true, true, true, true, true, true, true, true, true, true, true, true, true, true, false, false, false, false, false, false, false, false, false, false]
abbrev q3M16 : Array Bool := #[true, true, true, true, true, true, true, true, true, true, true, true, true, true, true, true, false, false, false, false, false, false, false, false, false]
abbrev q3M17 : Array Bool := #[true, true, true, true, true, true, true, true, true, true, true, true, true, true, true, true, false, true, false, false, false, false, false, false, false]
abbrev q3M18 : Array Bool := #[true, true, true, true, true, true, true, true, true, true, true, true, true, true, true, true, false, true, true, false, false, false, false, false, false]
abbrev q3M19 : Array Bool := #[true, true, true, true, true, true, true, true, true, true, true, true, true, true, true, true, false, true, true, true, false, false, false, false, false]
abbrev q3M20 : Array Bool := #[true, true, true, true, true, true, true, true, true, true, true, true, true, true, true, true, false, true, true, true, true, false, false, false, false]
abbrev q3M21 : Array Bool := #[true, true, true, true, true, true, true, true, true, true, true, true, true, true, true, true, true, true, true, true, true, false, false, false, false]
abbrev q3M22 : Array Bool := #[true, true, true, true, true, true, true, true, true, true, true, true, true, true, true, true, true, true, true, true, true, true, false, false, false]
abbrev q3M23 : Array Bool := #[true, true, true, true, true, true, true, true, true, true, true, true, true, true, true, true, true, true, true, true, true, true, true, false, false]
abbrev q3M24 : Array Bool := #[true, true, true, true, true, true, true, true, true, true, true, true, true, true, true, true, true, true, true, true, true, true, true, true, false]
abbrev q3M25 : Array Bool := #[true, true, true, true, true, true, true, true, true, true, true, true, true, true, true, true, true, true, true, true, true, true, true, true, true]
abbrev q3M26 : Array Bool := #[true, true, true, true, true, true, true, true, true, true, true, true, true, true, true, true, true, false, false, false, false, false, false, false, false]
abbrev q3M27 : Array Bool := #[true, true, true, true, true, true, true, true, true, true, true, true, true, true, true, true, true, true, false, false, false, false, false, false, false]
abbrev q3M28 : Array Bool := #[true, true, true, true, true, true, true, true, true, true, true, true, true, true, true, true, true, true, true, false, false, false, false, false, false]
abbrev q3M29 : Array Bool := #[true, true, true, true, true, true, true, true, true, true, true, true, true, true, true, true, true, true, true, true, false, false, false, false, false]
theorem q3s {α : Type} (l : List α) (i : Nat) (a : α) : l.toArray.setIfInBounds i a = (l.set i a).toArray := List.setIfInBounds_toArray ..
theorem q3z {α : Type} (a : α) (l : List α) (b : α) : (a :: l).set 0 b = b :: l := List.set_cons_zero ..
theorem q3n {α : Type} (a : α) (l : List α) (i : Nat) (b : α) : (a :: l).set (i + 1) b = a :: l.set i b := List.set_cons_succ ..
def spec_SpansOk.l0 : Nat → List (S50) → Int → Int → Option (Bool)
 | 0, _, _, _ => none
 | k + 1, x0, x1, x5 => if x5 < (x0.length : Int) then (if 0 ≤ x5 then ((spec_l6Ok.f ((rd_T50 x0 x5).f0) ((rd_T50 x0 x5).f1) ((rd_T50 x0 x5).f2) ((rd_T50 x0 x5).f3) x1).bind fun t114 => (if t114 = true then (if x5 > 0 then (if 0 ≤ (wrap64 (x5 - 1)) then (if (wrap64 (x5 - 1)) < (x0.length : Int) then (if ((rd_T50 x0 (wrap64 (x5 - 1))).f1) > ((rd_T50 x0 x5).f0) then (some false) else (spec_SpansOk.l0 k x0 x1 (wrap64 (x5 + 1)))) else (none)) else (none)) else (spec_SpansOk.l0 k x0 x1 (wrap64 (x5 + 1)))) else (some false))) else (none)) else (if (x0.length : Int) ≤ 12 then ((spec_l1In.f x1 0 80).bind fun t117 => (some t117)) else (some false))
def spec_SpansOk.f (k : Nat) (l0 : List (S50)) (a1 : Int) : Option (Bool) := spec_SpansOk.l0 k l0 a1 0
theorem spec_SpansOk.mono_l : ∀ k, (∀ y0 y1 y2, LeO (spec_SpansOk.l0 k y0 y1 y2) (spec_SpansOk.l0 (k + 1) y0 y1 y2))
 | 0 => fun _ _ _ r h => by simp [spec_SpansOk.l0] at h
 | k + 1 => by
  have ih0 := spec_SpansOk.mono_l k
  ·
   intro y0 y1 y2; unfold spec_SpansOk.l0
   repeat' first
   | (with_reducible exact ih0 _ _ _)
   | (with_reducible exact LeO.refl _)
   | (with_reducible exact LeO.none _)
   | (with_reducible refine LeO.ite ?_ ?_)
   | (with_reducible refine LeO.bind ?_ (fun _ => ?_))
   | exact ih0 _ _ _
   | exact LeO.none _
   | refine LeO.ite ?_ ?_
   | refine LeO.bind ?_ (fun _ => ?_)
theorem spec_SpansOk.mono : ∀ a0 a1 k, LeO (spec_SpansOk.f k a0 a1) (spec_SpansOk.f (k + 1) a0 a1) := by
 intro a0 a1 k; have ih0 := spec_SpansOk.mono_l k; unfold spec_SpansOk.f
 repeat' first
   | (with_reducible exact ih0 _ _ _)
   | (with_reducible exact LeO.refl _)
   | (with_reducible exact LeO.none _)
   | (with_reducible refine LeO.ite ?_ ?_)
   | (with_reducible refine LeO.bind ?_ (fun _ => ?_))
   | exact ih0 _ _ _
   | exact LeO.none _
   | refine LeO.ite ?_ ?_
   | refine LeO.bind ?_ (fun _ => ?_)
def spec_SpansOk.T4 : Bool × List (List Nat × List Nat) := (true, [([], []), ([], []), ([0, 1], [0, 1]), ([2], [2]), ([], []), ([3, 4], [3, 4]), ([5], [5]), ([6, 5], [6]), ([7], [7]), ([8, 7], [7, 8]), ([9, 7, 7], [7, 9]), ([10], [10]), ([10], [10]), ([12, 10], [10, 12]), ([11, 13, 10], [10, 11, 13]), ([14, 10], [10, 14]), ([15, 10], [10, 15]), ([10], [10]), ([10], [10]), ([17, 18, 10], [10, 17, 18]), ([19, 10], [10, 19]), ([20, 10], [10, 20]), ([16, 21, 10], [10, 16, 21]), ([10, 22, 7], [7, 10, 22]), ([7, 23], [7, 23])])
def spec_SpansOk.B4 : List Nat := [0, 0, 3, 7, 0, 31, 63, 127, 255, 511, 1023, 2047, 2047, 6143, 16383, 32767, 65535, 2047, 2047, 395263, 919551, 1968127, 4194303, 8388607, 16777215]
theorem spec_SpansOk.tab4 : rtab .any (opsOf Tryz.f69 4) = spec_SpansOk.T4 := by kernel_rfl
theorem spec_SpansOk.bits4 : waitsOk spec_SpansOk.T4.2 spec_SpansOk.B4 = true := by kernel_rfl
theorem spec_SpansOk.calls (k : Nat) (A0 : Option Addr) (c0 : Nat) (l0 : List (S50)) (a1 : Int) (r : Bool) (w : World) (hr0 : Kd.C k50 w A0 l0.length l0) (hc0 : l0.length ≤ c0) (h : spec_SpansOk.f k l0 a1 = some r) :
  Calls Tryz.prog 69 #[.slice A0 l0.length c0, .int .i64 a1] w fun e w' => e = .returned (.bool r) ∧ Below w.heap.size w w' := by
 have hu50 := Tryz.underlying50; have HR0 := az hr0; have HC0 := az hc0; clear hr0 hc0; have HB := az (Below.refl w.heap.size w); have H : (spec_SpansOk.l0 k l0 a1 0) = some r := h; clear h; have H' := az H; clear H; go_enter Tryz.func69, Tryz.ntmps69; go_wp2; go_loopg [5] k (fun kq v5 w' => ∃ (x5_1 : Int), v5 = .int .i64 x5_1 ∧ Aside0 (spec_SpansOk.l0 kq l0 a1 x5_1 = some r) ∧ Aside0 (kq ≤ k) ∧ Aside0 (Below w.heap.size w w'))
 case atStart => exact ⟨(0), zB, H', ⟨Nat.le_refl _⟩, ⟨zA HB.out⟩⟩
 case round =>
  clear H'; (try clear p2); obtain ⟨x5_1, rfl, HA, HK1, HB⟩ := hrel
  cases gk with
  | zero => exact absurd HA.out (by simp [spec_SpansOk.l0])
  | succ k1 =>
   have H := HA.out; clear HA; simp only [spec_SpansOk.l0] at H; by_cases c3 : x5_1 < (l0.length : Int)
   ·
    rw [if_pos c3] at H; have c3b0 : decide (x5_1 < (l0.length : Int)) = true := decide_eq_true c3; clear c3; by_cases c4 : 0 ≤ x5_1
    ·
     rw [if_pos c4] at H; have c4b0 : decide (0 ≤ x5_1) = true := decide_eq_true c4; clear c4; replace H := Option.bind_eq_some_iff.mp H; obtain ⟨t114, A50, H⟩ := H; replace H : (if t114 = true then (if x5_1 > 0 then (if 0 ≤ (wrap64 (x5_1 - 1)) then (if (wrap64 (x5_1 - 1)) < (l0.length : Int) then (if ((rd_T50 l0 (wrap64 (x5_1 - 1))).f1) > ((rd_T50 l0 x5_1).f0) then (some false) else (spec_SpansOk.l0 k1 l0 a1 (wrap64 (x5_1 + 1)))) else (none)) else (none)) else (spec_SpansOk.l0 k1 l0 a1 (wrap64 (x5_1 + 1)))) else (some false)) = some r := H; have A5 := az A50; clear A50; by_cases c6 : t114 = true
     ·
      subst c6; have H1 : (if x5_1 > 0 then (if 0 ≤ (wrap64 (x5_1 - 1)) then (if (wrap64 (x5_1 - 1)) < (l0.length : Int) then (if ((rd_T50 l0 (wrap64 (x5_1 - 1))).f1) > ((rd_T50 l0 x5_1).f0) then (some false) else (spec_SpansOk.l0 k1 l0 a1 (wrap64 (x5_1 + 1)))) else (none)) else (none)) else (spec_SpansOk.l0 k1 l0 a1 (wrap64 (x5_1 + 1)))) = some r := by rw [if_pos rfl] at H; exact H
      clear H; have H := H1; clear H1; by_cases c7 : x5_1 > 0
      ·
       rw [if_pos c7] at H; have c7b0 : decide (0 < x5_1) = true := decide_eq_true c7; clear c7; obtain ⟨ji8, hji8⟩ : ∃ j_ : Int, (wrap64 (x5_1 - 1)) = j_ := ⟨_, rfl⟩; replace H : (if 0 ≤ (ji8) then (if (ji8) < (l0.length : Int) then (if ((rd_T50 l0 (ji8)).f1) > ((rd_T50 l0 x5_1).f0) then (some false) else (spec_SpansOk.l0 k1 l0 a1 (wrap64 (x5_1 + 1)))) else (none)) else (none)) = some r := by first | (rw [hji8] at H; exact H) | (simp only [hji8] at H ⊢; exact H)
       (try rw [hji8] at A5); have hji8w : (IntKind.i64.wrap (x5_1 - 1)) = ji8 := (i64_w _).trans hji8; by_cases c9 : 0 ≤ (ji8)
       ·
        rw [if_pos c9] at H; have c9b0 : decide (0 ≤ (ji8)) = true := decide_eq_true c9; clear c9; by_cases c10 : (ji8) < (l0.length : Int)
        ·
         rw [if_pos c10] at H; have c10b0 : decide ((ji8) < (l0.length : Int)) = true := decide_eq_true c10; clear c10; by_cases c11 : ((rd_T50 l0 (ji8)).f1) > ((rd_T50 l0 x5_1).f0)
         ·
          rw [if_pos c11] at H; have c11b0 : decide (((rd_T50 l0 x5_1).f0) < ((rd_T50 l0 (ji8)).f1)) = true := decide_eq_true c11; clear c11; obtain rfl := Option.some.inj H; (try go_wp2); have n0_ := az (below_drew1 HB.out); clear HB; have HB := n0_; clear n0_; have p113 : 0 ≤ (x5_1 : Int) := of_decide_eq_true (by assumption); have q113 : x5_1 < (l0.length : Int) := of_decide_eq_true (by assumption); obtain ⟨ad113, e113, hx113_0, hx113_1, hx113_2, hx113_3⟩ := at_T50 HR0.out x5_1 p113 q113; have hw113_3 := hx113_3; have hw113_2 := hx113_2; have hw113_1 := hx113_1; have hw113_0 := hx113_0
          cases e113
          replace hx113_0 := (HB.out.cell (World.block_lt_of_cell? w _ hx113_0)).trans hx113_0; replace hx113_1 := (HB.out.cell (World.block_lt_of_cell? w _ hx113_1)).trans hx113_1; replace hx113_2 := (HB.out.cell (World.block_lt_of_cell? w _ hx113_2)).trans hx113_2; replace hx113_3 := (HB.out.cell (World.block_lt_of_cell? w _ hx113_3)).trans hx113_3; replace p113 := eq_true p113; replace q113 := eq_true q113; have p115 : 0 ≤ ((ji8) : Int) := of_decide_eq_true (by assumption); have q115 : (ji8) < (l0.length : Int) := of_decide_eq_true (by assumption); obtain ⟨ad115, e115, hx115_0, hx115_1, hx115_2, hx115_3⟩ := at_T50 HR0.out (ji8) p115 q115; have hw115_3 := hx115_3; have hw115_2 := hx115_2; have hw115_1 := hx115_1; have hw115_0 := hx115_0; obtain rfl : ad113 = ad115 := (by injection e115); replace hx115_0 := (HB.out.cell (World.block_lt_of_cell? w _ hx115_0)).trans hx115_0; replace hx115_1 := (HB.out.cell (World.block_lt_of_cell? w _ hx115_1)).trans hx115_1; replace hx115_2 := (HB.out.cell (World.block_lt_of_cell? w _ hx115_2)).trans hx115_2; replace hx115_3 := (HB.out.cell (World.block_lt_of_cell? w _ hx115_3)).trans hx115_3; replace p115 := eq_true p115; replace q115 := eq_true q115; have p116 : 0 ≤ (x5_1 : Int) := of_decide_eq_true (by assumption); have q116 : x5_1 < (l0.length : Int) := of_decide_eq_true (by assumption); obtain ⟨ad116, e116, hx116_0, hx116_1, hx116_2, hx116_3⟩ := at_T50 HR0.out x5_1 p116 q116; have hw116_3 := hx116_3; have hw116_2 := hx116_2; have hw116_1 := hx116_1; have hw116_0 := hx116_0; obtain rfl : ad113 = ad116 := (by injection e116); replace hx116_0 := (HB.out.cell (World.block_lt_of_cell? w _ hx116_0)).trans hx116_0; replace hx116_1 := (HB.out.cell (World.block_lt_of_cell? w _ hx116_1)).trans hx116_1; replace hx116_2 := (HB.out.cell (World.block_lt_of_cell? w _ hx116_2)).trans hx116_2; replace hx116_3 := (HB.out.cell (World.block_lt_of_cell? w _ hx116_3)).trans hx116_3; replace p116 := eq_true p116; replace q116 := eq_true q116; refine start_ (n := 25) (S := fun w' => w'.cell? (ad113.add ((x5_1).toNat * 4)) = some (.int .i64 ((rd_T50 l0 x5_1).f0)) ∧ w'.cell? ⟨(ad113.add ((x5_1).toNat * 4)).block, (ad113.add ((x5_1).toNat * 4)).off + 1, none⟩ = some (.int .i64 ((rd_T50 l0 x5_1).f1)) ∧ w'.cell? ⟨(ad113.add ((x5_1).toNat * 4)).block, (ad113.add ((x5_1).toNat * 4)).off + 2, none⟩ = some (.int .i64 ((rd_T50 l0 x5_1).f2)) ∧ w'.cell? ⟨(ad113.add ((x5_1).toNat * 4)).block, (ad113.add ((x5_1).toNat * 4)).off + 3, none⟩ = some (.int .i64 ((rd_T50 l0 x5_1).f3)) ∧ w'.cell? (ad113.add (((ji8)).toNat * 4)) = some (.int .i64 ((rd_T50 l0 (ji8)).f0)) ∧ w'.cell? ⟨(ad113.add (((ji8)).toNat * 4)).block, (ad113.add (((ji8)).toNat * 4)).off + 1, none⟩ = some (.int .i64 ((rd_T50 l0 (ji8)).f1)) ∧ w'.cell? ⟨(ad113.add (((ji8)).toNat * 4)).block, (ad113.add (((ji8)).toNat * 4)).off + 2, none⟩ = some (.int .i64 ((rd_T50 l0 (ji8)).f2)) ∧ w'.cell? ⟨(ad113.add (((ji8)).toNat * 4)).block, (ad113.add (((ji8)).toNat * 4)).off + 3, none⟩ = some (.int .i64 ((rd_T50 l0 (ji8)).f3)) ∧ w'.cell? (ad113.add ((x5_1).toNat * 4)) = some (.int .i64 ((rd_T50 l0 x5_1).f0)) ∧ w'.cell? ⟨(ad113.add ((x5_1).toNat * 4)).block, (ad113.add ((x5_1).toNat * 4)).off + 1, none⟩ = some (.int .i64 ((rd_T50 l0 x5_1).f1)) ∧ w'.cell? ⟨(ad113.add ((x5_1).toNat * 4)).block, (ad113.add ((x5_1).toNat * 4)).off + 2, none⟩ = some (.int .i64 ((rd_T50 l0 x5_1).f2)) ∧ w'.cell? ⟨(ad113.add ((x5_1).toNat * 4)).block, (ad113.add ((x5_1).toNat * 4)).off + 3, none⟩ = some (.int .i64 ((rd_T50 l0 x5_1).f3))) (ds := []) q3M0 (by kernel_rfl) rfl rfl ⟨((HB.out.cell (World.block_lt_of_cell? w _ hw113_0)).trans hw113_0), ((HB.out.cell (World.block_lt_of_cell? w _ hw113_1)).trans hw113_1), ((HB.out.cell (World.block_lt_of_cell? w _ hw113_2)).trans hw113_2), ((HB.out.cell (World.block_lt_of_cell? w _ hw113_3)).trans hw113_3), ((HB.out.cell (World.block_lt_of_cell? w _ hw115_0)).trans hw115_0), ((HB.out.cell (World.block_lt_of_cell? w _ hw115_1)).trans hw115_1), ((HB.out.cell (World.block_lt_of_cell? w _ hw115_2)).trans hw115_2), ((HB.out.cell (World.block_lt_of_cell? w _ hw115_3)).trans hw115_3), ((HB.out.cell (World.block_lt_of_cell? w _ hw116_0)).trans hw116_0), ((HB.out.cell (World.block_lt_of_cell? w _ hw116_1)).trans hw116_1), ((HB.out.cell (World.block_lt_of_cell? w _ hw116_2)).trans hw116_2), ((HB.out.cell (World.block_lt_of_cell? w _ hw116_3)).trans hw116_3)⟩ (fun hHeld => ?_); refine with_tabW spec_SpansOk.tab4 spec_SpansOk.bits4 (fun HT_ HW_ => ?_)
          generalize wr.drew = w12 at HB hx113_0 hx113_1 hx113_2 hx113_3 hx115_0 hx115_1 hx115_2 hx115_3 hx116_0 hx116_1 hx116_2 hx116_3 hHeld ⊢; refine pure_ (i := 0) (N := some 12) (v := ?_) (a' := ?_) q3M1 rfl rfl (any_of HT_.out (by kernel_rfl)) (fun _ _ _ => id) (Or.inl ⟨by rfl, ?_⟩) ?_ ?_; rotate_left; intro w'; go_simp; (with_reducible rfl); rotate_left; simp only [Act.put, q3s, q3z, q3n, i64_w, i32_w]; rfl; refine pure_ (i := 1) (N := some 13) (v := ?_) (a' := ?_) q3M2 rfl rfl (any_of HT_.out (by kernel_rfl)) (fun _ _ _ => id) (Or.inl ⟨by rfl, ?_⟩) ?_ ?_; rotate_left; intro w'; go_simp; (with_reducible rfl); rotate_left; simp only [Act.put, q3s, q3z, q3n, i64_w, i32_w]; rfl; refine pure_ (i := 2) (N := some 14) (v := ?_) (a' := ?_) q3M3 rfl rfl (any_of HT_.out (by kernel_rfl)) (fun _ _ _ => id) (Or.inl ⟨by rfl, ?_⟩) ?_ ?_; rotate_left; intro w'; go_simp; (with_reducible rfl); rotate_left; simp only [Act.put, q3s, q3z, q3n, i64_w, i32_w]; rfl; refine pure_ (i := 4) (N := some 16) (v := ?_) (a' := ?_) q3M4 rfl rfl (any_of HT_.out (by kernel_rfl)) (fun _ _ _ => id) (Or.inl ⟨by rfl, ?_⟩) ?_ ?_; rotate_left; intro w'; go_simp; (with_reducible rfl); rotate_left; simp only [Act.put, q3s, q3z, q3n, i64_w, i32_w]; rfl; refine take_ (i := 3) (N := some 15) (v := ?_) (a' := ?_) q3M5 rfl rfl (take_ofW HT_.out HW_.out (by kernel_rfl)) (fun _ _ _ => id) (Or.inl ⟨by rfl, ?_⟩) hHeld ?_ ?_; rotate_left
          ·
           rintro w' ⟨s0, s1, s2, s3, s4, s5, s6, s7, s8, s9, s10, s11⟩; go_simp; with_reducible rfl
          rotate_left
          · simp only [Act.put, q3s, q3z, q3n, i64_w, i32_w]; rfl
          refine one_ (i := 5) (N := some 17) q3M6 rfl rfl (one_of HT_.out (by kernel_rfl)) (by decide) (fun K hK => ?_); refine goes_ Tryz.func96 (by kernel_rfl) rfl #[.agg #[.int .i64 ((rd_T50 l0 x5_1).f0), .int .i64 ((rd_T50 l0 x5_1).f1), .int .i64 ((rd_T50 l0 x5_1).f2), .int .i64 ((rd_T50 l0 x5_1).f3)], .int .i64 a1] (by rfl) rfl rfl zD ?_; with_reducible refine (spec_l6Ok.calls ((rd_T50 l0 x5_1).f0) ((rd_T50 l0 x5_1).f1) ((rd_T50 l0 x5_1).f2) ((rd_T50 l0 x5_1).f3) a1 true _ A5.out).mono ?_
          rintro e w13 ⟨rfl, hb⟩; refine ⟨_, rfl, ?_⟩; have n0_ := az (below_step (zA HB.out) hb); clear HB; have HB := n0_; clear n0_; (try clear hb); (try clear hb2); (try clear hk); (try clear hi); refine hK.out _ _ ⟨((HB.out.cell (World.block_lt_of_cell? w _ hw113_0)).trans hw113_0), ((HB.out.cell (World.block_lt_of_cell? w _ hw113_1)).trans hw113_1), ((HB.out.cell (World.block_lt_of_cell? w _ hw113_2)).trans hw113_2), ((HB.out.cell (World.block_lt_of_cell? w _ hw113_3)).trans hw113_3), ((HB.out.cell (World.block_lt_of_cell? w _ hw115_0)).trans hw115_0), ((HB.out.cell (World.block_lt_of_cell? w _ hw115_1)).trans hw115_1), ((HB.out.cell (World.block_lt_of_cell? w _ hw115_2)).trans hw115_2), ((HB.out.cell (World.block_lt_of_cell? w _ hw115_3)).trans hw115_3), ((HB.out.cell (World.block_lt_of_cell? w _ hw116_0)).trans hw116_0), ((HB.out.cell (World.block_lt_of_cell? w _ hw116_1)).trans hw116_1), ((HB.out.cell (World.block_lt_of_cell? w _ hw116_2)).trans hw116_2), ((HB.out.cell (World.block_lt_of_cell? w _ hw116_3)).trans hw116_3)⟩ (fun hHeld => ?_); clear hK K; refine norm_ (a' := ?_) ?_ ?_; rotate_left
          ·
           show Act.put _ (some 17) _ = _; simp only [Act.put, q3s, q3z, q3n, i64_w, i32_w]; rfl
          refine pure_ (i := 6) (N := some 18) (v := ?_) (a' := ?_) q3M7 rfl rfl (any_of HT_.out (by kernel_rfl)) (fun _ _ _ => id) (Or.inl ⟨by rfl, ?_⟩) ?_ ?_; rotate_left; intro w'; go_simp; (with_reducible rfl); rotate_left; simp only [Act.put, q3s, q3z, q3n, i64_w, i32_w]; rfl; refine pure_ (i := 7) (N := some 19) (v := ?_) (a' := ?_) q3M8 rfl rfl (any_of HT_.out (by kernel_rfl)) (fun _ _ _ => id) (Or.inl ⟨by rfl, ?_⟩) ?_ ?_; rotate_left; intro w'; go_simp; (with_reducible rfl); rotate_left; simp only [Act.put, q3s, q3z, q3n, i64_w, i32_w]; rfl; refine pure_ (i := 8) (N := some 20) (v := ?_) (a' := ?_) q3M9 rfl rfl (any_of HT_.out (by kernel_rfl)) (fun _ _ _ => id) (Or.inl ⟨by rfl, ?_⟩) ?_ ?_; rotate_left; intro w'; go_simp; (with_reducible rfl); rotate_left; simp only [Act.put, q3s, q3z, q3n, i64_w, i32_w]; rfl; refine pure_ (i := 9) (N := some 21) (v := ?_) (a' := ?_) q3M10 rfl rfl (any_of HT_.out (by kernel_rfl)) (fun _ _ _ => id) (Or.inl ⟨by rfl, ?_⟩) ?_ ?_; rotate_left; intro w'; go_simp; (with_reducible rfl); rotate_left; simp only [Act.put, q3s, q3z, q3n, i64_w, i32_w]; rfl; refine pure_ (i := 10) (N := some 22) (v := ?_) (a' := ?_) q3M11 rfl rfl (any_of HT_.out (by kernel_rfl)) (fun _ _ _ => id) (Or.inl ⟨by rfl, ?_⟩) ?_ ?_; rotate_left; intro w'; go_simp; (with_reducible rfl); rotate_left; simp only [Act.put, q3s, q3z, q3n, i64_w, i32_w]; rfl; refine pure_ (i := 11) (N := some 23) (v := ?_) (a' := ?_) q3M12 rfl rfl (any_of HT_.out (by kernel_rfl)) (fun _ _ _ => id) (Or.inl ⟨by rfl, ?_⟩) ?_ ?_; rotate_left; intro w'; go_simp; (with_reducible rfl); rotate_left; simp only [Act.put, q3s, q3z, q3n, i64_w, i32_w]; rfl; refine pure_ (i := 12) (N := some 24) (v := ?_) (a' := ?_) q3M13 rfl rfl (any_of HT_.out (by kernel_rfl)) (fun _ _ _ => id) (Or.inl ⟨by rfl, ?_⟩) ?_ ?_; rotate_left; intro w'; go_simp; (with_reducible rfl); rotate_left; simp only [Act.put, q3s, q3z, q3n, i64_w, i32_w]; rfl; refine pure_ (i := 13) (N := some 25) (v := ?_) (a' := ?_) q3M14 rfl rfl (any_of HT_.out (by kernel_rfl)) (fun _ _ _ => id) (Or.inl ⟨by rfl, ?_⟩) ?_ ?_; rotate_left; intro w'; go_simp; (with_reducible rfl); rotate_left; simp only [Act.put, q3s, q3z, q3n, i64_w, i32_w]; rfl; refine pure_ (i := 14) (N := some 26) (v := ?_) (a' := ?_) q3M15 rfl rfl (any_of HT_.out (by kernel_rfl)) (fun _ _ _ => id) (Or.inl ⟨by rfl, ?_⟩) ?_ ?_; rotate_left; intro w'; go_simp; (with_reducible rfl); rotate_left; simp only [Act.put, q3s, q3z, q3n, i64_w, i32_w]; rfl; refine pure_ (i := 15) (N := some 27) (v := ?_) (a' := ?_) q3M16 rfl rfl (any_of HT_.out (by kernel_rfl)) (fun _ _ _ => id) (Or.inl ⟨by rfl, ?_⟩) ?_ ?_; rotate_left; intro w'; go_simp; (with_reducible rfl); rotate_left; simp only [Act.put, q3s, q3z, q3n, i64_w, i32_w]; rfl; refine pure_ (i := 17) (N := some 29) (v := ?_) (a' := ?_) q3M17 rfl rfl (any_of HT_.out (by kernel_rfl)) (fun _ _ _ => id) (Or.inl ⟨by rfl, ?_⟩) ?_ ?_; rotate_left; intro w'; go_simp; (with_reducible rfl); rotate_left; simp only [Act.put, q3s, q3z, q3n, i64_w, i32_w]; rfl; refine pure_ (i := 18) (N := some 30) (v := ?_) (a' := ?_) q3M18 rfl rfl (any_of HT_.out (by kernel_rfl)) (fun _ _ _ => id) (Or.inl ⟨by rfl, ?_⟩) ?_ ?_; rotate_left; intro w'; go_simp; (with_reducible rfl); rotate_left; simp only [Act.put, q3s, q3z, q3n, i64_w, i32_w]; rfl; refine pure_ (i := 19) (N := some 31) (v := ?_) (a' := ?_) q3M19 rfl rfl (any_of HT_.out (by kernel_rfl)) (fun _ _ _ => id) (Or.inl ⟨by rfl, ?_⟩) ?_ ?_; rotate_left; intro w'; go_simp; (with_reducible rfl); rotate_left; simp only [Act.put, q3s, q3z, q3n, i64_w, i32_w]; rfl; refine pure_ (i := 20) (N := some 32) (v := ?_) (a' := ?_) q3M20 rfl rfl (any_of HT_.out (by kernel_rfl)) (fun _ _ _ => id) (Or.inl ⟨by rfl, ?_⟩) ?_ ?_; rotate_left; intro w'; go_simp; (with_reducible rfl); rotate_left; simp only [Act.put, q3s, q3z, q3n, i64_w, i32_w]; rfl; refine take_ (i := 16) (N := some 28) (v := ?_) (a' := ?_) q3M21 rfl rfl (take_ofW HT_.out HW_.out (by kernel_rfl)) (fun _ _ _ => id) (Or.inl ⟨by rfl, ?_⟩) hHeld ?_ ?_
          rotate_left
          ·
           rintro w' ⟨s0, s1, s2, s3, s4, s5, s6, s7, s8, s9, s10, s11⟩; go_simp; with_reducible rfl
          rotate_left
          · simp only [Act.put, q3s, q3z, q3n, i64_w, i32_w]; rfl
          refine take_ (i := 21) (N := some 33) (v := ?_) (a' := ?_) q3M22 rfl rfl (take_ofW HT_.out HW_.out (by kernel_rfl)) (fun _ _ _ => id) (Or.inl ⟨by rfl, ?_⟩) hHeld ?_ ?_; rotate_left
          ·
           rintro w' ⟨s0, s1, s2, s3, s4, s5, s6, s7, s8, s9, s10, s11⟩; go_simp; with_reducible rfl
          rotate_left
          · simp only [Act.put, q3s, q3z, q3n, i64_w, i32_w]; rfl
          refine pure_ (i := 22) (N := some 34) (v := ?_) (a' := ?_) q3M23 rfl rfl (any_of HT_.out (by kernel_rfl)) (fun _ _ _ => id) (Or.inl ⟨by rfl, ?_⟩) ?_ ?_; rotate_left; intro w'; go_simp; (with_reducible rfl); rotate_left; simp only [Act.put, q3s, q3z, q3n, i64_w, i32_w]; rfl; refine pure_ (i := 23) (N := some 35) (v := ?_) (a' := ?_) q3M24 rfl rfl (any_of HT_.out (by kernel_rfl)) (fun _ _ _ => id) (Or.inl ⟨by rfl, ?_⟩) ?_ ?_; rotate_left; intro w'; go_simp; (with_reducible rfl); rotate_left; simp only [Act.put, q3s, q3z, q3n, i64_w, i32_w]; rfl; refine pure_ (i := 24) (N := some 36) (v := ?_) (a' := ?_) q3M25 rfl rfl (any_of HT_.out (by kernel_rfl)) (fun _ _ _ => id) (Or.inl ⟨by rfl, ?_⟩) ?_ ?_; rotate_left; intro w'; go_simp; (with_reducible rfl); rotate_left; simp only [Act.put, q3s, q3z, q3n, i64_w, i32_w]; rfl; refine done_ (done_of HT_.out (by kernel_rfl)) ?_; (try go_wp2); go_ret; exact ⟨by first | rfl | (simp [errW_none, errW_some] <;> rfl) | (simp only [← hji8]; first | rfl | (simp [errW_none, errW_some] <;> rfl)) | (simp [*, errW_none, errW_some] <;> rfl), zA HB.out⟩
         ·
          rw [if_neg c11] at H; have c11b0 : decide (((rd_T50 l0 x5_1).f0) < ((rd_T50 l0 (ji8)).f1)) = false := decide_eq_false c11; clear c11; have H' := az H; clear H; (try go_wp2); have n0_ := az (below_drew1 HB.out); clear HB; have HB := n0_; clear n0_; have p113 : 0 ≤ (x5_1 : Int) := of_decide_eq_true (by assumption); have q113 : x5_1 < (l0.length : Int) := of_decide_eq_true (by assumption); obtain ⟨ad113, e113, hx113_0, hx113_1, hx113_2, hx113_3⟩ := at_T50 HR0.out x5_1 p113 q113; have hw113_3 := hx113_3; have hw113_2 := hx113_2; have hw113_1 := hx113_1; have hw113_0 := hx113_0
          cases e113
          replace hx113_0 := (HB.out.cell (World.block_lt_of_cell? w _ hx113_0)).trans hx113_0; replace hx113_1 := (HB.out.cell (World.block_lt_of_cell? w _ hx113_1)).trans hx113_1; replace hx113_2 := (HB.out.cell (World.block_lt_of_cell? w _ hx113_2)).trans hx113_2; replace hx113_3 := (HB.out.cell (World.block_lt_of_cell? w _ hx113_3)).trans hx113_3; replace p113 := eq_true p113; replace q113 := eq_true q113; have p115 : 0 ≤ ((ji8) : Int) := of_decide_eq_true (by assumption); have q115 : (ji8) < (l0.length : Int) := of_decide_eq_true (by assumption); obtain ⟨ad115, e115, hx115_0, hx115_1, hx115_2, hx115_3⟩ := at_T50 HR0.out (ji8) p115 q115; have hw115_3 := hx115_3; have hw115_2 := hx115_2; have hw115_1 := hx115_1; have hw115_0 := hx115_0; obtain rfl : ad113 = ad115 := (by injection e115); replace hx115_0 := (HB.out.cell (World.block_lt_of_cell? w _ hx115_0)).trans hx115_0; replace hx115_1 := (HB.out.cell (World.block_lt_of_cell? w _ hx115_1)).trans hx115_1; replace hx115_2 := (HB.out.cell (World.block_lt_of_cell? w _ hx115_2)).trans hx115_2; replace hx115_3 := (HB.out.cell (World.block_lt_of_cell? w _ hx115_3)).trans hx115_3; replace p115 := eq_true p115; replace q115 := eq_true q115; have p116 : 0 ≤ (x5_1 : Int) := of_decide_eq_true (by assumption); have q116 : x5_1 < (l0.length : Int) := of_decide_eq_true (by assumption); obtain ⟨ad116, e116, hx116_0, hx116_1, hx116_2, hx116_3⟩ := at_T50 HR0.out x5_1 p116 q116; have hw116_3 := hx116_3; have hw116_2 := hx116_2; have hw116_1 := hx116_1; have hw116_0 := hx116_0; obtain rfl : ad113 = ad116 := (by injection e116); replace hx116_0 := (HB.out.cell (World.block_lt_of_cell? w _ hx116_0)).trans hx116_0; replace hx116_1 := (HB.out.cell (World.block_lt_of_cell? w _ hx116_1)).trans hx116_1; replace hx116_2 := (HB.out.cell (World.block_lt_of_cell? w _ hx116_2)).trans hx116_2; replace hx116_3 := (HB.out.cell (World.block_lt_of_cell? w _ hx116_3)).trans hx116_3; replace p116 := eq_true p116; replace q116 := eq_true q116; refine start_ (n := 25) (S := fun w' => w'.cell? (ad113.add ((x5_1).toNat * 4)) = some (.int .i64 ((rd_T50 l0 x5_1).f0)) ∧ w'.cell? ⟨(ad113.add ((x5_1).toNat * 4)).block, (ad113.add ((x5_1).toNat * 4)).off + 1, none⟩ = some (.int .i64 ((rd_T50 l0 x5_1).f1)) ∧ w'.cell? ⟨(ad113.add ((x5_1).toNat * 4)).block, (ad113.add ((x5_1).toNat * 4)).off + 2, none⟩ = some (.int .i64 ((rd_T50 l0 x5_1).f2)) ∧ w'.cell? ⟨(ad113.add ((x5_1).toNat * 4)).block, (ad113.add ((x5_1).toNat * 4)).off + 3, none⟩ = some (.int .i64 ((rd_T50 l0 x5_1).f3)) ∧ w'.cell? (ad113.add (((ji8)).toNat * 4)) = some (.int .i64 ((rd_T50 l0 (ji8)).f0)) ∧ w'.cell? ⟨(ad113.add (((ji8)).toNat * 4)).block, (ad113.add (((ji8)).toNat * 4)).off + 1, none⟩ = some (.int .i64 ((rd_T50 l0 (ji8)).f1)) ∧ w'.cell? ⟨(ad113.add (((ji8)).toNat * 4)).block, (ad113.add (((ji8)).toNat * 4)).off + 2, none⟩ = some (.int .i64 ((rd_T50 l0 (ji8)).f2)) ∧ w'.cell? ⟨(ad113.add (((ji8)).toNat * 4)).block, (ad113.add (((ji8)).toNat * 4)).off + 3, none⟩ = some (.int .i64 ((rd_T50 l0 (ji8)).f3)) ∧ w'.cell? (ad113.add ((x5_1).toNat * 4)) = some (.int .i64 ((rd_T50 l0 x5_1).f0)) ∧ w'.cell? ⟨(ad113.add ((x5_1).toNat * 4)).block, (ad113.add ((x5_1).toNat * 4)).off + 1, none⟩ = some (.int .i64 ((rd_T50 l0 x5_1).f1)) ∧ w'.cell? ⟨(ad113.add ((x5_1).toNat * 4)).block, (ad113.add ((x5_1).toNat * 4)).off + 2, none⟩ = some (.int .i64 ((rd_T50 l0 x5_1).f2)) ∧ w'.cell? ⟨(ad113.add ((x5_1).toNat * 4)).block, (ad113.add ((x5_1).toNat * 4)).off + 3, none⟩ = some (.int .i64 ((rd_T50 l0 x5_1).f3))) (ds := []) q3M0 (by kernel_rfl) rfl rfl ⟨((HB.out.cell (World.block_lt_of_cell? w _ hw113_0)).trans hw113_0), ((HB.out.cell (World.block_lt_of_cell? w _ hw113_1)).trans hw113_1), ((HB.out.cell (World.block_lt_of_cell? w _ hw113_2)).trans hw113_2), ((HB.out.cell (World.block_lt_of_cell? w _ hw113_3)).trans hw113_3), ((HB.out.cell (World.block_lt_of_cell? w _ hw115_0)).trans hw115_0), ((HB.out.cell (World.block_lt_of_cell? w _ hw115_1)).trans hw115_1), ((HB.out.cell (World.block_lt_of_cell? w _ hw115_2)).trans hw115_2), ((HB.out.cell (World.block_lt_of_cell? w _ hw115_3)).trans hw115_3), ((HB.out.cell (World.block_lt_of_cell? w _ hw116_0)).trans hw116_0), ((HB.out.cell (World.block_lt_of_cell? w _ hw116_1)).trans hw116_1), ((HB.out.cell (World.block_lt_of_cell? w _ hw116_2)).trans hw116_2), ((HB.out.cell (World.block_lt_of_cell? w _ hw116_3)).trans hw116_3)⟩ (fun hHeld => ?_); refine with_tabW spec_SpansOk.tab4 spec_SpansOk.bits4 (fun HT_ HW_ => ?_)
          generalize wr.drew = w14 at HB hx113_0 hx113_1 hx113_2 hx113_3 hx115_0 hx115_1 hx115_2 hx115_3 hx116_0 hx116_1 hx116_2 hx116_3 hHeld ⊢; refine pure_ (i := 0) (N := some 12) (v := ?_) (a' := ?_) q3M1 rfl rfl (any_of HT_.out (by kernel_rfl)) (fun _ _ _ => id) (Or.inl ⟨by rfl, ?_⟩) ?_ ?_; rotate_left; intro w'; go_simp; (with_reducible rfl); rotate_left; simp only [Act.put, q3s, q3z, q3n, i64_w, i32_w]; rfl; refine pure_ (i := 1) (N := some 13) (v := ?_) (a' := ?_) q3M2 rfl rfl (any_of HT_.out (by kernel_rfl)) (fun _ _ _ => id) (Or.inl ⟨by rfl, ?_⟩) ?_ ?_; rotate_left; intro w'; go_simp; (with_reducible rfl); rotate_left; simp only [Act.put, q3s, q3z, q3n, i64_w, i32_w]; rfl; refine pure_ (i := 2) (N := some 14) (v := ?_) (a' := ?_) q3M3 rfl rfl (any_of HT_.out (by kernel_rfl)) (fun _ _ _ => id) (Or.inl ⟨by rfl, ?_⟩) ?_ ?_; rotate_left; intro w'; go_simp; (with_reducible rfl); rotate_left; simp only [Act.put, q3s, q3z, q3n, i64_w, i32_w]; rfl; refine pure_ (i := 4) (N := some 16) (v := ?_) (a' := ?_) q3M4 rfl rfl (any_of HT_.out (by kernel_rfl)) (fun _ _ _ => id) (Or.inl ⟨by rfl, ?_⟩) ?_ ?_; rotate_left; intro w'; go_simp; (with_reducible rfl); rotate_left; simp only [Act.put, q3s, q3z, q3n, i64_w, i32_w]; rfl; refine take_ (i := 3) (N := some 15) (v := ?_) (a' := ?_) q3M5 rfl rfl (take_ofW HT_.out HW_.out (by kernel_rfl)) (fun _ _ _ => id) (Or.inl ⟨by rfl, ?_⟩) hHeld ?_ ?_; rotate_left
          ·
           rintro w' ⟨s0, s1, s2, s3, s4, s5, s6, s7, s8, s9, s10, s11⟩; go_simp; with_reducible rfl
          rotate_left
          · simp only [Act.put, q3s, q3z, q3n, i64_w, i32_w]; rfl
          refine one_ (i := 5) (N := some 17) q3M6 rfl rfl (one_of HT_.out (by kernel_rfl)) (by decide) (fun K hK => ?_); refine goes_ Tryz.func96 (by kernel_rfl) rfl #[.agg #[.int .i64 ((rd_T50 l0 x5_1).f0), .int .i64 ((rd_T50 l0 x5_1).f1), .int .i64 ((rd_T50 l0 x5_1).f2), .int .i64 ((rd_T50 l0 x5_1).f3)], .int .i64 a1] (by rfl) rfl rfl zD ?_; with_reducible refine (spec_l6Ok.calls ((rd_T50 l0 x5_1).f0) ((rd_T50 l0 x5_1).f1) ((rd_T50 l0 x5_1).f2) ((rd_T50 l0 x5_1).f3) a1 true _ A5.out).mono ?_
          rintro e w15 ⟨rfl, hb⟩; refine ⟨_, rfl, ?_⟩; have n0_ := az (below_step (zA HB.out) hb); clear HB; have HB := n0_; clear n0_; (try clear hb); (try clear hb2); (try clear hk); (try clear hi); refine hK.out _ _ ⟨((HB.out.cell (World.block_lt_of_cell? w _ hw113_0)).trans hw113_0), ((HB.out.cell (World.block_lt_of_cell? w _ hw113_1)).trans hw113_1), ((HB.out.cell (World.block_lt_of_cell? w _ hw113_2)).trans hw113_2), ((HB.out.cell (World.block_lt_of_cell? w _ hw113_3)).trans hw113_3), ((HB.out.cell (World.block_lt_of_cell? w _ hw115_0)).trans hw115_0), ((HB.out.cell (World.block_lt_of_cell? w _ hw115_1)).trans hw115_1), ((HB.out.cell (World.block_lt_of_cell? w _ hw115_2)).trans hw115_2), ((HB.out.cell (World.block_lt_of_cell? w _ hw115_3)).trans hw115_3), ((HB.out.cell (World.block_lt_of_cell? w _ hw116_0)).trans hw116_0), ((HB.out.cell (World.block_lt_of_cell? w _ hw116_1)).trans hw116_1), ((HB.out.cell (World.block_lt_of_cell? w _ hw116_2)).trans hw116_2), ((HB.out.cell (World.block_lt_of_cell? w _ hw116_3)).trans hw116_3)⟩ (fun hHeld => ?_); clear hK K; refine norm_ (a' := ?_) ?_ ?_; rotate_left
          ·
           show Act.put _ (some 17) _ = _; simp only [Act.put, q3s, q3z, q3n, i64_w, i32_w]; rfl
          refine pure_ (i := 6) (N := some 18) (v := ?_) (a' := ?_) q3M7 rfl rfl (any_of HT_.out (by kernel_rfl)) (fun _ _ _ => id) (Or.inl ⟨by rfl, ?_⟩) ?_ ?_; rotate_left; intro w'; go_simp; (with_reducible rfl); rotate_left; simp only [Act.put, q3s, q3z, q3n, i64_w, i32_w]; rfl; refine pure_ (i := 7) (N := some 19) (v := ?_) (a' := ?_) q3M8 rfl rfl (any_of HT_.out (by kernel_rfl)) (fun _ _ _ => id) (Or.inl ⟨by rfl, ?_⟩) ?_ ?_; rotate_left; intro w'; go_simp; (with_reducible rfl); rotate_left; simp only [Act.put, q3s, q3z, q3n, i64_w, i32_w]; rfl; refine pure_ (i := 8) (N := some 20) (v := ?_) (a' := ?_) q3M9 rfl rfl (any_of HT_.out (by kernel_rfl)) (fun _ _ _ => id) (Or.inl ⟨by rfl, ?_⟩) ?_ ?_; rotate_left; intro w'; go_simp; (with_reducible rfl); rotate_left; simp only [Act.put, q3s, q3z, q3n, i64_w, i32_w]; rfl; refine pure_ (i := 9) (N := some 21) (v := ?_) (a' := ?_) q3M10 rfl rfl (any_of HT_.out (by kernel_rfl)) (fun _ _ _ => id) (Or.inl ⟨by rfl, ?_⟩) ?_ ?_; rotate_left; intro w'; go_simp; (with_reducible rfl); rotate_left; simp only [Act.put, q3s, q3z, q3n, i64_w, i32_w]; rfl; refine pure_ (i := 10) (N := some 22) (v := ?_) (a' := ?_) q3M11 rfl rfl (any_of HT_.out (by kernel_rfl)) (fun _ _ _ => id) (Or.inl ⟨by rfl, ?_⟩) ?_ ?_; rotate_left; intro w'; go_simp; (with_reducible rfl); rotate_left; simp only [Act.put, q3s, q3z, q3n, i64_w, i32_w]; rfl; refine pure_ (i := 11) (N := some 23) (v := ?_) (a' := ?_) q3M12 rfl rfl (any_of HT_.out (by kernel_rfl)) (fun _ _ _ => id) (Or.inl ⟨by rfl, ?_⟩) ?_ ?_; rotate_left; intro w'; go_simp; (with_reducible rfl); rotate_left; simp only [Act.put, q3s, q3z, q3n, i64_w, i32_w]; rfl; refine pure_ (i := 12) (N := some 24) (v := ?_) (a' := ?_) q3M13 rfl rfl (any_of HT_.out (by kernel_rfl)) (fun _ _ _ => id) (Or.inl ⟨by rfl, ?_⟩) ?_ ?_; rotate_left; intro w'; go_simp; (with_reducible rfl); rotate_left; simp only [Act.put, q3s, q3z, q3n, i64_w, i32_w]; rfl; refine pure_ (i := 13) (N := some 25) (v := ?_) (a' := ?_) q3M14 rfl rfl (any_of HT_.out (by kernel_rfl)) (fun _ _ _ => id) (Or.inl ⟨by rfl, ?_⟩) ?_ ?_; rotate_left; intro w'; go_simp; (with_reducible rfl); rotate_left; simp only [Act.put, q3s, q3z, q3n, i64_w, i32_w]; rfl; refine pure_ (i := 14) (N := some 26) (v := ?_) (a' := ?_) q3M15 rfl rfl (any_of HT_.out (by kernel_rfl)) (fun _ _ _ => id) (Or.inl ⟨by rfl, ?_⟩) ?_ ?_; rotate_left; intro w'; go_simp; (with_reducible rfl); rotate_left; simp only [Act.put, q3s, q3z, q3n, i64_w, i32_w]; rfl; refine pure_ (i := 15) (N := some 27) (v := ?_) (a' := ?_) q3M16 rfl rfl (any_of HT_.out (by kernel_rfl)) (fun _ _ _ => id) (Or.inl ⟨by rfl, ?_⟩) ?_ ?_; rotate_left; intro w'; go_simp; (with_reducible rfl); rotate_left; simp only [Act.put, q3s, q3z, q3n, i64_w, i32_w]; rfl; refine pure_ (i := 17) (N := some 29) (v := ?_) (a' := ?_) q3M17 rfl rfl (any_of HT_.out (by kernel_rfl)) (fun _ _ _ => id) (Or.inl ⟨by rfl, ?_⟩) ?_ ?_; rotate_left; intro w'; go_simp; (with_reducible rfl); rotate_left; simp only [Act.put, q3s, q3z, q3n, i64_w, i32_w]; rfl; refine pure_ (i := 18) (N := some 30) (v := ?_) (a' := ?_) q3M18 rfl rfl (any_of HT_.out (by kernel_rfl)) (fun _ _ _ => id) (Or.inl ⟨by rfl, ?_⟩) ?_ ?_; rotate_left; intro w'; go_simp; (with_reducible rfl); rotate_left; simp only [Act.put, q3s, q3z, q3n, i64_w, i32_w]; rfl; refine pure_ (i := 19) (N := some 31) (v := ?_) (a' := ?_) q3M19 rfl rfl (any_of HT_.out (by kernel_rfl)) (fun _ _ _ => id) (Or.inl ⟨by rfl, ?_⟩) ?_ ?_; rotate_left; intro w'; go_simp; (with_reducible rfl); rotate_left; simp only [Act.put, q3s, q3z, q3n, i64_w, i32_w]; rfl; refine pure_ (i := 20) (N := some 32) (v := ?_) (a' := ?_) q3M20 rfl rfl (any_of HT_.out (by kernel_rfl)) (fun _ _ _ => id) (Or.inl ⟨by rfl, ?_⟩) ?_ ?_; rotate_left; intro w'; go_simp; (with_reducible rfl); rotate_left; simp only [Act.put, q3s, q3z, q3n, i64_w, i32_w]; rfl; refine take_ (i := 16) (N := some 28) (v := ?_) (a' := ?_) q3M21 rfl rfl (take_ofW HT_.out HW_.out (by kernel_rfl)) (fun _ _ _ => id) (Or.inl ⟨by rfl, ?_⟩) hHeld ?_ ?_
          rotate_left
          ·
           rintro w' ⟨s0, s1, s2, s3, s4, s5, s6, s7, s8, s9, s10, s11⟩; go_simp; with_reducible rfl
          rotate_left
          · simp only [Act.put, q3s, q3z, q3n, i64_w, i32_w]; rfl
          refine take_ (i := 21) (N := some 33) (v := ?_) (a' := ?_) q3M22 rfl rfl (take_ofW HT_.out HW_.out (by kernel_rfl)) (fun _ _ _ => id) (Or.inl ⟨by rfl, ?_⟩) hHeld ?_ ?_; rotate_left
          ·
           rintro w' ⟨s0, s1, s2, s3, s4, s5, s6, s7, s8, s9, s10, s11⟩; go_simp; with_reducible rfl
          rotate_left
          · simp only [Act.put, q3s, q3z, q3n, i64_w, i32_w]; rfl
          refine pure_ (i := 22) (N := some 34) (v := ?_) (a' := ?_) q3M23 rfl rfl (any_of HT_.out (by kernel_rfl)) (fun _ _ _ => id) (Or.inl ⟨by rfl, ?_⟩) ?_ ?_; rotate_left; intro w'; go_simp; (with_reducible rfl); rotate_left; simp only [Act.put, q3s, q3z, q3n, i64_w, i32_w]; rfl; refine pure_ (i := 23) (N := some 35) (v := ?_) (a' := ?_) q3M24 rfl rfl (any_of HT_.out (by kernel_rfl)) (fun _ _ _ => id) (Or.inl ⟨by rfl, ?_⟩) ?_ ?_; rotate_left; intro w'; go_simp; (with_reducible rfl); rotate_left; simp only [Act.put, q3s, q3z, q3n, i64_w, i32_w]; rfl; refine pure_ (i := 24) (N := some 36) (v := ?_) (a' := ?_) q3M25 rfl rfl (any_of HT_.out (by kernel_rfl)) (fun _ _ _ => id) (Or.inl ⟨by rfl, ?_⟩) ?_ ?_; rotate_left; intro w'; go_simp; (with_reducible rfl); rotate_left; simp only [Act.put, q3s, q3z, q3n, i64_w, i32_w]; rfl; refine done_ (done_of HT_.out (by kernel_rfl)) ?_; (try go_wp2); go_roundg k1
          case measure => have := HK1.out; omega
          case rel => exact ⟨(wrap64 (x5_1 + 1)), zB, H', ⟨zG HK1.out⟩, ⟨zA HB.out⟩⟩
        ·
         rw [if_neg c10] at H; exact absurd H (by simp)
       ·
        rw [if_neg c9] at H; exact absurd H (by simp)
      ·
       rw [if_neg c7] at H; have c7b0 : decide (0 < x5_1) = false := decide_eq_false c7; clear c7; have H' := az H; clear H; (try go_wp2); have n0_ := az (below_drew1 HB.out); clear HB; have HB := n0_; clear n0_; have p113 : 0 ≤ (x5_1 : Int) := of_decide_eq_true (by assumption); have q113 : x5_1 < (l0.length : Int) := of_decide_eq_true (by assumption); obtain ⟨ad113, e113, hx113_0, hx113_1, hx113_2, hx113_3⟩ := at_T50 HR0.out x5_1 p113 q113; have hw113_3 := hx113_3; have hw113_2 := hx113_2; have hw113_1 := hx113_1; have hw113_0 := hx113_0
       cases e113
       replace hx113_0 := (HB.out.cell (World.block_lt_of_cell? w _ hx113_0)).trans hx113_0; replace hx113_1 := (HB.out.cell (World.block_lt_of_cell? w _ hx113_1)).trans hx113_1; replace hx113_2 := (HB.out.cell (World.block_lt_of_cell? w _ hx113_2)).trans hx113_2; replace hx113_3 := (HB.out.cell (World.block_lt_of_cell? w _ hx113_3)).trans hx113_3; replace p113 := eq_true p113; replace q113 := eq_true q113; refine start_ (n := 25) (S := fun w' => w'.cell? (ad113.add ((x5_1).toNat * 4)) = some (.int .i64 ((rd_T50 l0 x5_1).f0)) ∧ w'.cell? ⟨(ad113.add ((x5_1).toNat * 4)).block, (ad113.add ((x5_1).toNat * 4)).off + 1, none⟩ = some (.int .i64 ((rd_T50 l0 x5_1).f1)) ∧ w'.cell? ⟨(ad113.add ((x5_1).toNat * 4)).block, (ad113.add ((x5_1).toNat * 4)).off + 2, none⟩ = some (.int .i64 ((rd_T50 l0 x5_1).f2)) ∧ w'.cell? ⟨(ad113.add ((x5_1).toNat * 4)).block, (ad113.add ((x5_1).toNat * 4)).off + 3, none⟩ = some (.int .i64 ((rd_T50 l0 x5_1).f3))) (ds := []) q3M0 (by kernel_rfl) rfl rfl ⟨((HB.out.cell (World.block_lt_of_cell? w _ hw113_0)).trans hw113_0), ((HB.out.cell (World.block_lt_of_cell? w _ hw113_1)).trans hw113_1), ((HB.out.cell (World.block_lt_of_cell? w _ hw113_2)).trans hw113_2), ((HB.out.cell (World.block_lt_of_cell? w _ hw113_3)).trans hw113_3)⟩ (fun hHeld => ?_); refine with_tabW spec_SpansOk.tab4 spec_SpansOk.bits4 (fun HT_ HW_ => ?_); generalize wr.drew = w16 at HB hx113_0 hx113_1 hx113_2 hx113_3 hHeld ⊢; refine pure_ (i := 0) (N := some 12) (v := ?_) (a' := ?_) q3M1 rfl rfl (any_of HT_.out (by kernel_rfl)) (fun _ _ _ => id) (Or.inl ⟨by rfl, ?_⟩) ?_ ?_; rotate_left; intro w'; go_simp; (with_reducible rfl); rotate_left; simp only [Act.put, q3s, q3z, q3n, i64_w, i32_w]; rfl; refine pure_ (i := 1) (N := some 13) (v := ?_) (a' := ?_) q3M2 rfl rfl (any_of HT_.out (by kernel_rfl)) (fun _ _ _ => id) (Or.inl ⟨by rfl, ?_⟩) ?_ ?_; rotate_left; intro w'; go_simp; (with_reducible rfl); rotate_left; simp only [Act.put, q3s, q3z, q3n, i64_w, i32_w]; rfl; refine pure_ (i := 2) (N := some 14) (v := ?_) (a' := ?_) q3M3 rfl rfl (any_of HT_.out (by kernel_rfl)) (fun _ _ _ => id) (Or.inl ⟨by rfl, ?_⟩) ?_ ?_; rotate_left; intro w'; go_simp; (with_reducible rfl); rotate_left; simp only [Act.put, q3s, q3z, q3n, i64_w, i32_w]; rfl; refine pure_ (i := 4) (N := some 16) (v := ?_) (a' := ?_) q3M4 rfl rfl (any_of HT_.out (by kernel_rfl)) (fun _ _ _ => id) (Or.inl ⟨by rfl, ?_⟩) ?_ ?_; rotate_left; intro w'; go_simp; (with_reducible rfl); rotate_left; simp only [Act.put, q3s, q3z, q3n, i64_w, i32_w]; rfl; refine take_ (i := 3) (N := some 15) (v := ?_) (a' := ?_) q3M5 rfl rfl (take_ofW HT_.out HW_.out (by kernel_rfl)) (fun _ _ _ => id) (Or.inl ⟨by rfl, ?_⟩) hHeld ?_ ?_; rotate_left
       ·
        rintro w' ⟨s0, s1, s2, s3⟩; go_simp; with_reducible rfl
       rotate_left
       · simp only [Act.put, q3s, q3z, q3n, i64_w, i32_w]; rfl
       refine one_ (i := 5) (N := some 17) q3M6 rfl rfl (one_of HT_.out (by kernel_rfl)) (by decide) (fun K hK => ?_); refine goes_ Tryz.func96 (by kernel_rfl) rfl #[.agg #[.int .i64 ((rd_T50 l0 x5_1).f0), .int .i64 ((rd_T50 l0 x5_1).f1), .int .i64 ((rd_T50 l0 x5_1).f2), .int .i64 ((rd_T50 l0 x5_1).f3)], .int .i64 a1] (by rfl) rfl rfl zD ?_; with_reducible refine (spec_l6Ok.calls ((rd_T50 l0 x5_1).f0) ((rd_T50 l0 x5_1).f1) ((rd_T50 l0 x5_1).f2) ((rd_T50 l0 x5_1).f3) a1 true _ A5.out).mono ?_
       rintro e w17 ⟨rfl, hb⟩; refine ⟨_, rfl, ?_⟩; have n0_ := az (below_step (zA HB.out) hb); clear HB; have HB := n0_; clear n0_; (try clear hb); (try clear hb2); (try clear hk); (try clear hi); refine hK.out _ _ ⟨((HB.out.cell (World.block_lt_of_cell? w _ hw113_0)).trans hw113_0), ((HB.out.cell (World.block_lt_of_cell? w _ hw113_1)).trans hw113_1), ((HB.out.cell (World.block_lt_of_cell? w _ hw113_2)).trans hw113_2), ((HB.out.cell (World.block_lt_of_cell? w _ hw113_3)).trans hw113_3)⟩ (fun hHeld => ?_); clear hK K; refine norm_ (a' := ?_) ?_ ?_; rotate_left
       ·
        show Act.put _ (some 17) _ = _; simp only [Act.put, q3s, q3z, q3n, i64_w, i32_w]; rfl
       refine pure_ (i := 6) (N := some 18) (v := ?_) (a' := ?_) q3M7 rfl rfl (any_of HT_.out (by kernel_rfl)) (fun _ _ _ => id) (Or.inl ⟨by rfl, ?_⟩) ?_ ?_; rotate_left; intro w'; go_simp; (with_reducible rfl); rotate_left; simp only [Act.put, q3s, q3z, q3n, i64_w, i32_w]; rfl; refine pure_ (i := 7) (N := some 19) (v := ?_) (a' := ?_) q3M8 rfl rfl (any_of HT_.out (by kernel_rfl)) (fun _ _ _ => id) (Or.inl ⟨by rfl, ?_⟩) ?_ ?_; rotate_left; intro w'; go_simp; (with_reducible rfl); rotate_left; simp only [Act.put, q3s, q3z, q3n, i64_w, i32_w]; rfl; refine pure_ (i := 8) (N := some 20) (v := ?_) (a' := ?_) q3M9 rfl rfl (any_of HT_.out (by kernel_rfl)) (fun _ _ _ => id) (Or.inl ⟨by rfl, ?_⟩) ?_ ?_; rotate_left; intro w'; go_simp; (with_reducible rfl); rotate_left; simp only [Act.put, q3s, q3z, q3n, i64_w, i32_w]; rfl; refine pure_ (i := 9) (N := some 21) (v := ?_) (a' := ?_) q3M10 rfl rfl (any_of HT_.out (by kernel_rfl)) (fun _ _ _ => id) (Or.inl ⟨by rfl, ?_⟩) ?_ ?_; rotate_left; intro w'; go_simp; (with_reducible rfl); rotate_left; simp only [Act.put, q3s, q3z, q3n, i64_w, i32_w]; rfl; refine pure_ (i := 10) (N := some 22) (v := ?_) (a' := ?_) q3M11 rfl rfl (any_of HT_.out (by kernel_rfl)) (fun _ _ _ => id) (Or.inl ⟨by rfl, ?_⟩) ?_ ?_; rotate_left; intro w'; go_simp; (with_reducible rfl); rotate_left; simp only [Act.put, q3s, q3z, q3n, i64_w, i32_w]; rfl; refine pure_ (i := 11) (N := some 23) (v := undef) (a' := ?_) q3M12 rfl rfl (any_of HT_.out (by kernel_rfl)) (fun _ _ _ => id) (Or.inr ⟨by rfl, rfl⟩) ?_ ?_; rotate_left
       · simp only [Act.put, q3s, q3z, q3n, i64_w, i32_w]; rfl
       refine pure_ (i := 12) (N := some 24) (v := undef) (a' := ?_) q3M13 rfl rfl (any_of HT_.out (by kernel_rfl)) (fun _ _ _ => id) (Or.inr ⟨by rfl, rfl⟩) ?_ ?_; rotate_left
       · simp only [Act.put, q3s, q3z, q3n, i64_w, i32_w]; rfl
       refine pure_ (i := 13) (N := some 25) (v := undef) (a' := ?_) q3M14 rfl rfl (any_of HT_.out (by kernel_rfl)) (fun _ _ _ => id) (Or.inr ⟨by rfl, rfl⟩) ?_ ?_; rotate_left
       · simp only [Act.put, q3s, q3z, q3n, i64_w, i32_w]; rfl
       refine pure_ (i := 14) (N := some 26) (v := undef) (a' := ?_) q3M15 rfl rfl (any_of HT_.out (by kernel_rfl)) (fun _ _ _ => id) (Or.inr ⟨by rfl, rfl⟩) ?_ ?_; rotate_left
       · simp only [Act.put, q3s, q3z, q3n, i64_w, i32_w]; rfl
       refine pure_ (i := 15) (N := some 27) (v := undef) (a' := ?_) q3M16 rfl rfl (any_of HT_.out (by kernel_rfl)) (fun _ _ _ => id) (Or.inr ⟨by rfl, rfl⟩) ?_ ?_; rotate_left
       · simp only [Act.put, q3s, q3z, q3n, i64_w, i32_w]; rfl
       refine pure_ (i := 16) (N := some 28) (v := undef) (a' := ?_) q3M26 rfl rfl (any_of HT_.out (by kernel_rfl)) (fun _ _ _ => id) (Or.inr ⟨by rfl, rfl⟩) ?_ ?_; rotate_left
       · simp only [Act.put, q3s, q3z, q3n, i64_w, i32_w]; rfl
       refine pure_ (i := 17) (N := some 29) (v := undef) (a' := ?_) q3M27 rfl rfl (any_of HT_.out (by kernel_rfl)) (fun _ _ _ => id) (Or.inr ⟨by rfl, rfl⟩) ?_ ?_; rotate_left
       · simp only [Act.put, q3s, q3z, q3n, i64_w, i32_w]; rfl
       refine pure_ (i := 18) (N := some 30) (v := undef) (a' := ?_) q3M28 rfl rfl (any_of HT_.out (by kernel_rfl)) (fun _ _ _ => id) (Or.inr ⟨by rfl, rfl⟩) ?_ ?_; rotate_left
       · simp only [Act.put, q3s, q3z, q3n, i64_w, i32_w]; rfl
       refine pure_ (i := 19) (N := some 31) (v := undef) (a' := ?_) q3M29 rfl rfl (any_of HT_.out (by kernel_rfl)) (fun _ _ _ => id) (Or.inr ⟨by rfl, rfl⟩) ?_ ?_; rotate_left
       · simp only [Act.put, q3s, q3z, q3n, i64_w, i32_w]; rfl
       refine pure_ (i := 20) (N := some 32) (v := undef) (a' := ?_) q3M21 rfl rfl (any_of HT_.out (by kernel_rfl)) (fun _ _ _ => id) (Or.inr ⟨by rfl, rfl⟩) ?_ ?_; rotate_left
       · simp only [Act.put, q3s, q3z, q3n, i64_w, i32_w]; rfl
       refine pure_ (i := 21) (N := some 33) (v := undef) (a' := ?_) q3M22 rfl rfl (any_of HT_.out (by kernel_rfl)) (fun _ _ _ => id) (Or.inr ⟨by rfl, rfl⟩) ?_ ?_; rotate_left
       · simp only [Act.put, q3s, q3z, q3n, i64_w, i32_w]; rfl
       refine pure_ (i := 22) (N := some 34) (v := undef) (a' := ?_) q3M23 rfl rfl (any_of HT_.out (by kernel_rfl)) (fun _ _ _ => id) (Or.inr ⟨by rfl, rfl⟩) ?_ ?_; rotate_left
       · simp only [Act.put, q3s, q3z, q3n, i64_w, i32_w]; rfl
       refine pure_ (i := 23) (N := some 35) (v := ?_) (a' := ?_) q3M24 rfl rfl (any_of HT_.out (by kernel_rfl)) (fun _ _ _ => id) (Or.inl ⟨by rfl, ?_⟩) ?_ ?_; rotate_left; intro w'; go_simp; (with_reducible rfl); rotate_left; simp only [Act.put, q3s, q3z, q3n, i64_w, i32_w]; rfl; refine pure_ (i := 24) (N := some 36) (v := ?_) (a' := ?_) q3M25 rfl rfl (any_of HT_.out (by kernel_rfl)) (fun _ _ _ => id) (Or.inl ⟨by rfl, ?_⟩) ?_ ?_; rotate_left; intro w'; go_simp; (with_reducible rfl); rotate_left; simp only [Act.put, q3s, q3z, q3n, i64_w, i32_w]; rfl; refine done_ (done_of HT_.out (by kernel_rfl)) ?_; (try go_wp2); go_roundg k1
       case measure => have := HK1.out; omega
       case rel => exact ⟨(wrap64 (x5_1 + 1)), zB, H', ⟨zG HK1.out⟩, ⟨zA HB.out⟩⟩
     ·
      replace c6 := Bool.eq_false_iff.mpr c6; subst c6; have H1 : (some false) = some r := by rw [if_neg (show ¬ (false = true) by decide)] at H; exact H
      clear H; have H := H1; clear H1; obtain rfl := Option.some.inj H; (try go_wp2); have n0_ := az (below_drew1 HB.out); clear HB; have HB := n0_; clear n0_; have p113 : 0 ≤ (x5_1 : Int) := of_decide_eq_true (by assumption); have q113 : x5_1 < (l0.length : Int) := of_decide_eq_true (by assumption); obtain ⟨ad113, e113, hx113_0, hx113_1, hx113_2, hx113_3⟩ := at_T50 HR0.out x5_1 p113 q113; have hw113_3 := hx113_3; have hw113_2 := hx113_2; have hw113_1 := hx113_1; have hw113_0 := hx113_0
      cases e113
      replace hx113_0 := (HB.out.cell (World.block_lt_of_cell? w _ hx113_0)).trans hx113_0; replace hx113_1 := (HB.out.cell (World.block_lt_of_cell? w _ hx113_1)).trans hx113_1; replace hx113_2 := (HB.out.cell (World.block_lt_of_cell? w _ hx113_2)).trans hx113_2; replace hx113_3 := (HB.out.cell (World.block_lt_of_cell? w _ hx113_3)).trans hx113_3; replace p113 := eq_true p113; replace q113 := eq_true q113; refine start_ (n := 25) (S := fun w' => w'.cell? (ad113.add ((x5_1).toNat * 4)) = some (.int .i64 ((rd_T50 l0 x5_1).f0)) ∧ w'.cell? ⟨(ad113.add ((x5_1).toNat * 4)).block, (ad113.add ((x5_1).toNat * 4)).off + 1, none⟩ = some (.int .i64 ((rd_T50 l0 x5_1).f1)) ∧ w'.cell? ⟨(ad113.add ((x5_1).toNat * 4)).block, (ad113.add ((x5_1).toNat * 4)).off + 2, none⟩ = some (.int .i64 ((rd_T50 l0 x5_1).f2)) ∧ w'.cell? ⟨(ad113.add ((x5_1).toNat * 4)).block, (ad113.add ((x5_1).toNat * 4)).off + 3, none⟩ = some (.int .i64 ((rd_T50 l0 x5_1).f3))) (ds := []) q3M0 (by kernel_rfl) rfl rfl ⟨((HB.out.cell (World.block_lt_of_cell? w _ hw113_0)).trans hw113_0), ((HB.out.cell (World.block_lt_of_cell? w _ hw113_1)).trans hw113_1), ((HB.out.cell (World.block_lt_of_cell? w _ hw113_2)).trans hw113_2), ((HB.out.cell (World.block_lt_of_cell? w _ hw113_3)).trans hw113_3)⟩ (fun hHeld => ?_); refine with_tabW spec_SpansOk.tab4 spec_SpansOk.bits4 (fun HT_ HW_ => ?_); generalize wr.drew = w18 at HB hx113_0 hx113_1 hx113_2 hx113_3 hHeld ⊢; refine pure_ (i := 0) (N := some 12) (v := ?_) (a' := ?_) q3M1 rfl rfl (any_of HT_.out (by kernel_rfl)) (fun _ _ _ => id) (Or.inl ⟨by rfl, ?_⟩) ?_ ?_; rotate_left; intro w'; go_simp; (with_reducible rfl); rotate_left; simp only [Act.put, q3s, q3z, q3n, i64_w, i32_w]; rfl; refine pure_ (i := 1) (N := some 13) (v := ?_) (a' := ?_) q3M2 rfl rfl (any_of HT_.out (by kernel_rfl)) (fun _ _ _ => id) (Or.inl ⟨by rfl, ?_⟩) ?_ ?_; rotate_left; intro w'; go_simp; (with_reducible rfl); rotate_left; simp only [Act.put, q3s, q3z, q3n, i64_w, i32_w]; rfl; refine pure_ (i := 2) (N := some 14) (v := ?_) (a' := ?_) q3M3 rfl rfl (any_of HT_.out (by kernel_rfl)) (fun _ _ _ => id) (Or.inl ⟨by rfl, ?_⟩) ?_ ?_; rotate_left; intro w'; go_simp; (with_reducible rfl); rotate_left; simp only [Act.put, q3s, q3z, q3n, i64_w, i32_w]; rfl; refine pure_ (i := 4) (N := some 16) (v := ?_) (a' := ?_) q3M4 rfl rfl (any_of HT_.out (by kernel_rfl)) (fun _ _ _ => id) (Or.inl ⟨by rfl, ?_⟩) ?_ ?_; rotate_left; intro w'; go_simp; (with_reducible rfl); rotate_left; simp only [Act.put, q3s, q3z, q3n, i64_w, i32_w]; rfl; refine take_ (i := 3) (N := some 15) (v := ?_) (a' := ?_) q3M5 rfl rfl (take_ofW HT_.out HW_.out (by kernel_rfl)) (fun _ _ _ => id) (Or.inl ⟨by rfl, ?_⟩) hHeld ?_ ?_; rotate_left
      ·
       rintro w' ⟨s0, s1, s2, s3⟩; go_simp; with_reducible rfl
      rotate_left
      · simp only [Act.put, q3s, q3z, q3n, i64_w, i32_w]; rfl
      refine one_ (i := 5) (N := some 17) q3M6 rfl rfl (one_of HT_.out (by kernel_rfl)) (by decide) (fun K hK => ?_); refine goes_ Tryz.func96 (by kernel_rfl) rfl #[.agg #[.int .i64 ((rd_T50 l0 x5_1).f0), .int .i64 ((rd_T50 l0 x5_1).f1), .int .i64 ((rd_T50 l0 x5_1).f2), .int .i64 ((rd_T50 l0 x5_1).f3)], .int .i64 a1] (by rfl) rfl rfl zD ?_; with_reducible refine (spec_l6Ok.calls ((rd_T50 l0 x5_1).f0) ((rd_T50 l0 x5_1).f1) ((rd_T50 l0 x5_1).f2) ((rd_T50 l0 x5_1).f3) a1 false _ A5.out).mono ?_
      rintro e w19 ⟨rfl, hb⟩; refine ⟨_, rfl, ?_⟩; have n0_ := az (below_step (zA HB.out) hb); clear HB; have HB := n0_; clear n0_; (try clear hb); (try clear hb2); (try clear hk); (try clear hi); refine hK.out _ _ ⟨((HB.out.cell (World.block_lt_of_cell? w _ hw113_0)).trans hw113_0), ((HB.out.cell (World.block_lt_of_cell? w _ hw113_1)).trans hw113_1), ((HB.out.cell (World.block_lt_of_cell? w _ hw113_2)).trans hw113_2), ((HB.out.cell (World.block_lt_of_cell? w _ hw113_3)).trans hw113_3)⟩ (fun hHeld => ?_); clear hK K; refine norm_ (a' := ?_) ?_ ?_; rotate_left
      ·
       show Act.put _ (some 17) _ = _; simp only [Act.put, q3s, q3z, q3n, i64_w, i32_w]; rfl
      refine pure_ (i := 6) (N := some 18) (v := ?_) (a' := ?_) q3M7 rfl rfl (any_of HT_.out (by kernel_rfl)) (fun _ _ _ => id) (Or.inl ⟨by rfl, ?_⟩) ?_ ?_; rotate_left; intro w'; go_simp; (with_reducible rfl); rotate_left; simp only [Act.put, q3s, q3z, q3n, i64_w, i32_w]; rfl; refine pure_ (i := 7) (N := some 19) (v := ?_) (a' := ?_) q3M8 rfl rfl (any_of HT_.out (by kernel_rfl)) (fun _ _ _ => id) (Or.inl ⟨by rfl, ?_⟩) ?_ ?_; rotate_left; intro w'; go_simp; (with_reducible rfl); rotate_left; simp only [Act.put, q3s, q3z, q3n, i64_w, i32_w]; rfl; refine pure_ (i := 8) (N := some 20) (v := undef) (a' := ?_) q3M9 rfl rfl (any_of HT_.out (by kernel_rfl)) (fun _ _ _ => id) (Or.inr ⟨by rfl, rfl⟩) ?_ ?_; rotate_left
      · simp only [Act.put, q3s, q3z, q3n, i64_w, i32_w]; rfl
      refine pure_ (i := 9) (N := some 21) (v := undef) (a' := ?_) q3M10 rfl rfl (any_of HT_.out (by kernel_rfl)) (fun _ _ _ => id) (Or.inr ⟨by rfl, rfl⟩) ?_ ?_; rotate_left
      · simp only [Act.put, q3s, q3z, q3n, i64_w, i32_w]; rfl
      refine pure_ (i := 10) (N := some 22) (v := undef) (a' := ?_) q3M11 rfl rfl (any_of HT_.out (by kernel_rfl)) (fun _ _ _ => id) (Or.inr ⟨by rfl, rfl⟩) ?_ ?_; rotate_left
      · simp only [Act.put, q3s, q3z, q3n, i64_w, i32_w]; rfl
      refine pure_ (i := 11) (N := some 23) (v := undef) (a' := ?_) q3M12 rfl rfl (any_of HT_.out (by kernel_rfl)) (fun _ _ _ => id) (Or.inr ⟨by rfl, rfl⟩) ?_ ?_; rotate_left
      · simp only [Act.put, q3s, q3z, q3n, i64_w, i32_w]; rfl
      refine pure_ (i := 12) (N := some 24) (v := undef) (a' := ?_) q3M13 rfl rfl (any_of HT_.out (by kernel_rfl)) (fun _ _ _ => id) (Or.inr ⟨by rfl, rfl⟩) ?_ ?_; rotate_left
      · simp only [Act.put, q3s, q3z, q3n, i64_w, i32_w]; rfl
      refine pure_ (i := 13) (N := some 25) (v := undef) (a' := ?_) q3M14 rfl rfl (any_of HT_.out (by kernel_rfl)) (fun _ _ _ => id) (Or.inr ⟨by rfl, rfl⟩) ?_ ?_; rotate_left
      · simp only [Act.put, q3s, q3z, q3n, i64_w, i32_w]; rfl
      refine pure_ (i := 14) (N := some 26) (v := undef) (a' := ?_) q3M15 rfl rfl (any_of HT_.out (by kernel_rfl)) (fun _ _ _ => id) (Or.inr ⟨by rfl, rfl⟩) ?_ ?_; rotate_left
      · simp only [Act.put, q3s, q3z, q3n, i64_w, i32_w]; rfl
      refine pure_ (i := 15) (N := some 27) (v := undef) (a' := ?_) q3M16 rfl rfl (any_of HT_.out (by kernel_rfl)) (fun _ _ _ => id) (Or.inr ⟨by rfl, rfl⟩) ?_ ?_; rotate_left
      · simp only [Act.put, q3s, q3z, q3n, i64_w, i32_w]; rfl
      refine pure_ (i := 16) (N := some 28) (v := undef) (a' := ?_) q3M26 rfl rfl (any_of HT_.out (by kernel_rfl)) (fun _ _ _ => id) (Or.inr ⟨by rfl, rfl⟩) ?_ ?_; rotate_left
      · simp only [Act.put, q3s, q3z, q3n, i64_w, i32_w]; rfl
      refine pure_ (i := 17) (N := some 29) (v := undef) (a' := ?_) q3M27 rfl rfl (any_of HT_.out (by kernel_rfl)) (fun _ _ _ => id) (Or.inr ⟨by rfl, rfl⟩) ?_ ?_; rotate_left
      · simp only [Act.put, q3s, q3z, q3n, i64_w, i32_w]; rfl
      refine pure_ (i := 18) (N := some 30) (v := undef) (a' := ?_) q3M28 rfl rfl (any_of HT_.out (by kernel_rfl)) (fun _ _ _ => id) (Or.inr ⟨by rfl, rfl⟩) ?_ ?_; rotate_left
      · simp only [Act.put, q3s, q3z, q3n, i64_w, i32_w]; rfl
      refine pure_ (i := 19) (N := some 31) (v := undef) (a' := ?_) q3M29 rfl rfl (any_of HT_.out (by kernel_rfl)) (fun _ _ _ => id) (Or.inr ⟨by rfl, rfl⟩) ?_ ?_; rotate_left
      · simp only [Act.put, q3s, q3z, q3n, i64_w, i32_w]; rfl
      refine pure_ (i := 20) (N := some 32) (v := undef) (a' := ?_) q3M21 rfl rfl (any_of HT_.out (by kernel_rfl)) (fun _ _ _ => id) (Or.inr ⟨by rfl, rfl⟩) ?_ ?_; rotate_left
      · simp only [Act.put, q3s, q3z, q3n, i64_w, i32_w]; rfl
      refine pure_ (i := 21) (N := some 33) (v := undef) (a' := ?_) q3M22 rfl rfl (any_of HT_.out (by kernel_rfl)) (fun _ _ _ => id) (Or.inr ⟨by rfl, rfl⟩) ?_ ?_; rotate_left
      · simp only [Act.put, q3s, q3z, q3n, i64_w, i32_w]; rfl
      refine pure_ (i := 22) (N := some 34) (v := undef) (a' := ?_) q3M23 rfl rfl (any_of HT_.out (by kernel_rfl)) (fun _ _ _ => id) (Or.inr ⟨by rfl, rfl⟩) ?_ ?_; rotate_left
      · simp only [Act.put, q3s, q3z, q3n, i64_w, i32_w]; rfl
      refine pure_ (i := 23) (N := some 35) (v := undef) (a' := ?_) q3M24 rfl rfl (any_of HT_.out (by kernel_rfl)) (fun _ _ _ => id) (Or.inr ⟨by rfl, rfl⟩) ?_ ?_; rotate_left
      · simp only [Act.put, q3s, q3z, q3n, i64_w, i32_w]; rfl
      refine pure_ (i := 24) (N := some 36) (v := ?_) (a' := ?_) q3M25 rfl rfl (any_of HT_.out (by kernel_rfl)) (fun _ _ _ => id) (Or.inl ⟨by rfl, ?_⟩) ?_ ?_; rotate_left; intro w'; go_simp; (with_reducible rfl); rotate_left; simp only [Act.put, q3s, q3z, q3n, i64_w, i32_w]; rfl; refine done_ (done_of HT_.out (by kernel_rfl)) ?_; (try go_wp2); go_ret; exact ⟨zF, zA HB.out⟩
    ·
     rw [if_neg c4] at H; exact absurd H (by simp)
   ·
    rw [if_neg c3] at H; have c3b0 : decide (x5_1 < (l0.length : Int)) = false := decide_eq_false c3; clear c3; by_cases c20 : (l0.length : Int) ≤ 12
    ·
     rw [if_pos c20] at H; have c20b0 : decide ((l0.length : Int) ≤ 12) = true := decide_eq_true c20; have c20b1 : decide (l0.length ≤ 12) = true := decide_eq_true (by omega); clear c20; replace H := Option.bind_eq_some_iff.mp H; obtain ⟨t117, A210, H⟩ := H; replace H : (some t117) = some r := H; have A21 := az A210; clear A210; obtain rfl := Option.some.inj H; go_wp2_with (first | (go_at_call 36; (with_reducible refine (spec_l1In.calls a1 0 80 t117 _ A21.out).mono ?_); rintro e w' ⟨rfl, ⟨nd, rfl⟩⟩)); go_ret; exact ⟨zF, zA HB.out⟩
    ·
     rw [if_neg c20] at H; have c20b0 : decide ((l0.length : Int) ≤ 12) = false := decide_eq_false c20; have c20b1 : decide (l0.length ≤ 12) = false := decide_eq_false (by omega); clear c20; obtain rfl := Option.some.inj H; go_wp2; go_ret; exact ⟨zF, zA HB.out⟩
def spec_l7All.f (k : Nat) (l0 : List Int) (l1 : List (S50)) (a2 : Int) : Option (Bool) := (spec_l1Ok.f k l0).bind fun t118 => (if t118 = true then ((spec_SpansOk.f k l1 (l0.length : Int)).bind fun t119 => (if t119 = true then ((spec_l1In.f a2 0 20000).bind fun t120 => (some t120)) else (some false))) else (some false))
theorem spec_l7All.mono : ∀ a0 a1 a2 k, LeO (spec_l7All.f k a0 a1 a2) (spec_l7All.f (k + 1) a0 a1 a2) := by
 intro a0 a1 a2 k; unfold spec_l7All.f
 repeat' first
   | (with_reducible exact spec_SpansOk.mono _ _ _)
   | (with_reducible exact spec_l1Ok.mono _ _)
   | (with_reducible exact LeO.refl _)
   | (with_reducible exact LeO.none _)
   | (with_reducible refine LeO.ite ?_ ?_)
   | (with_reducible refine LeO.bind ?_ (fun _ => ?_))
   | exact spec_SpansOk.mono _ _ _
   | exact spec_l1Ok.mono _ _
   | exact LeO.none _
   | refine LeO.ite ?_ ?_
   | refine LeO.bind ?_ (fun _ => ?_)
theorem spec_l7All.calls (k : Nat) (A0 : Option Addr) (c0 : Nat) (l0 : List Int) (A1 : Option Addr) (c1 : Nat) (l1 : List (S50)) (a2 : Int) (r : Bool) (w : World) (hr0 : Kd.C (Kd.int .i64) w A0 l0.length l0) (hc0 : l0.length ≤ c0) (hr1 : Kd.C k50 w A1 l1.length l1) (hc1 : l1.length ≤ c1) (h : spec_l7All.f k l0 l1 a2 = some r) :
  Calls Tryz.prog 35 #[.slice A0 l0.length c0, .slice A1 l1.length c1, .int .i64 a2] w fun e w' => e = .returned (.bool r) ∧ Below w.heap.size w w' := by
 have HR0 := az hr0; have HC0 := az hc0; clear hr0 hc0; have HR1 := az hr1; have HC1 := az hc1; clear hr1 hc1; have HB := az (Below.refl w.heap.size w); have H : ((spec_l1Ok.f k l0).bind fun t118 => (if t118 = true then ((spec_SpansOk.f k l1 (l0.length : Int)).bind fun t119 => (if t119 = true then ((spec_l1In.f a2 0 20000).bind fun t120 => (some t120)) else (some false))) else (some false))) = some r := h; clear h; replace H := Option.bind_eq_some_iff.mp H; obtain ⟨t118, A40, H⟩ := H; replace H : (if t118 = true then ((spec_SpansOk.f k l1 (l0.length : Int)).bind fun t119 => (if t119 = true then ((spec_l1In.f a2 0 20000).bind fun t120 => (some t120)) else (some false))) else (some false)) = some r := H; have A4 := az A40; clear A40; by_cases c5 : t118 = true
 ·
  subst c5; have H1 : ((spec_SpansOk.f k l1 (l0.length : Int)).bind fun t119 => (if t119 = true then ((spec_l1In.f a2 0 20000).bind fun t120 => (some t120)) else (some false))) = some r := by rw [if_pos rfl] at H; exact H
  clear H; have H := H1; clear H1; replace H := Option.bind_eq_some_iff.mp H; obtain ⟨t119, A60, H⟩ := H; replace H : (if t119 = true then ((spec_l1In.f a2 0 20000).bind fun t120 => (some t120)) else (some false)) = some r := H; have A6 := az A60; clear A60; by_cases c7 : t119 = true
  ·
   subst c7; have H1 : ((spec_l1In.f a2 0 20000).bind fun t120 => (some t120)) = some r := by rw [if_pos rfl] at H; exact H
   clear H; have H := H1; clear H1; replace H := Option.bind_eq_some_iff.mp H; obtain ⟨t120, A80, H⟩ := H; replace H : (some t120) = some r := H; have A8 := az A80; clear A80; obtain rfl := Option.some.inj H; go_enter Tryz.func35, Tryz.ntmps35; go_wp2_with (first | ((with_reducible refine gate_callee (f := 68) rfl ?_); refine goesL_ (some 8) rfl rfl Tryz.func68 (by kernel_rfl) rfl #[.slice A0 l0.length c0] rfl zD ?_; (with_reducible refine (spec_l1Ok.calls k _ _ l0 true _ ?side1 ?side2 A4.out).mono ?_); (case side1 => exact (zP HR0.out)); (case side2 => exact HC0.out); rintro e w' ⟨rfl, ⟨nd, rfl⟩⟩; refine ⟨_, rfl, ?_⟩) | (go_at_call 69; (with_reducible refine (spec_SpansOk.calls k _ _ l1 (l0.length : Int) true _ ?side1 ?side2 A6.out).mono ?_); (case side1 => exact (zP HR1.out)); (case side2 => exact HC1.out); rintro e w9 ⟨rfl, hb⟩; have n0_ := az (below_step (zA HB.out) hb); clear HB; have HB := n0_; clear n0_; (try clear hb); (try clear hb2); (try clear hk); (try clear hi)) | (go_at_call 36; (with_reducible refine (spec_l1In.calls a2 0 20000 t120 _ A8.out).mono ?_); rintro e w' ⟨rfl, ⟨nd, rfl⟩⟩)); go_ret; exact ⟨zF, zA HB.out⟩
  ·
   replace c7 := Bool.eq_false_iff.mpr c7; subst c7; have H1 : (some false) = some r := by rw [if_neg (show ¬ (false = true) by decide)] at H; exact H
   clear H; have H := H1; clear H1; obtain rfl := Option.some.inj H; go_enter Tryz.func35, Tryz.ntmps35; go_wp2_with (first | ((with_reducible refine gate_callee (f := 68) rfl ?_); refine goesL_ (some 8) rfl rfl Tryz.func68 (by kernel_rfl) rfl #[.slice A0 l0.length c0] rfl zD ?_; (with_reducible refine (spec_l1Ok.calls k _ _ l0 true _ ?side1 ?side2 A4.out).mono ?_); (case side1 => exact (zP HR0.out)); (case side2 => exact HC0.out); rintro e w' ⟨rfl, ⟨nd, rfl⟩⟩; refine ⟨_, rfl, ?_⟩) | (go_at_call 69; (with_reducible refine (spec_SpansOk.calls k _ _ l1 (l0.length : Int) false _ ?side1 ?side2 A6.out).mono ?_); (case side1 => exact (zP HR1.out)); (case side2 => exact HC1.out); rintro e w10 ⟨rfl, hb⟩; have n0_ := az (below_step (zA HB.out) hb); clear HB; have HB := n0_; clear n0_; (try clear hb); (try clear hb2); (try clear hk); (try clear hi))); go_ret; exact ⟨zF, zA HB.out⟩
 ·
  replace c5 := Bool.eq_false_iff.mpr c5; subst c5; have H1 : (some false) = some r := by rw [if_neg (show ¬ (false = true) by decide)] at H; exact H
  clear H; have H := H1; clear H1; obtain rfl := Option.some.inj H; go_enter Tryz.func35, Tryz.ntmps35; go_wp2_with (first | ((with_reducible refine gate_callee (f := 68) rfl ?_); refine goesL_ (some 8) rfl rfl Tryz.func68 (by kernel_rfl) rfl #[.slice A0 l0.length c0] rfl zD ?_; (with_reducible refine (spec_l1Ok.calls k _ _ l0 false _ ?side1 ?side2 A4.out).mono ?_); (case side1 => exact (zP HR0.out)); (case side2 => exact HC0.out); rintro e w' ⟨rfl, ⟨nd, rfl⟩⟩; refine ⟨_, rfl, ?_⟩)); go_ret; exact ⟨zF, zA HB.out⟩
def spec_l1Moves.l0 : Nat → Int → List Int → Int → Option (Int)
 | 0, _, _, _ => none
 | k + 1, x0, x3, x4 => if x4 < (x3.length : Int) then (if 0 ≤ x4 then (if (rd x3 x4) = x0 then (some (wrap64 (14 + x4))) else (spec_l1Moves.l0 k x0 x3 (wrap64 (x4 + 1)))) else (none)) else (some 13)
def spec_l1Moves.f (k : Nat) (a0 : Int) : Option (Int) := spec_l1Moves.l0 k a0 (([8234, 8235, 8236, 8237, 8238, 8294, 8295, 8296, 8297] : List Int)) 0
theorem spec_l1Moves.mono_l : ∀ k, (∀ y0 y1 y2, LeO (spec_l1Moves.l0 k y0 y1 y2) (spec_l1Moves.l0 (k + 1) y0 y1 y2))
 | 0 => fun _ _ _ r h => by simp [spec_l1Moves.l0] at h
 | k + 1 => by
  have ih0 := spec_l1Moves.mono_l k
  ·
   intro y0 y1 y2; unfold spec_l1Moves.l0
   repeat' first
   | (with_reducible exact ih0 _ _ _)
   | (with_reducible exact LeO.refl _)
   | (with_reducible exact LeO.none _)
   | (with_reducible refine LeO.ite ?_ ?_)
   | (with_reducible refine LeO.bind ?_ (fun _ => ?_))
   | exact ih0 _ _ _
   | exact LeO.none _
   | refine LeO.ite ?_ ?_
   | refine LeO.bind ?_ (fun _ => ?_)
theorem spec_l1Moves.mono : ∀ a0 k, LeO (spec_l1Moves.f k a0) (spec_l1Moves.f (k + 1) a0) := by
 intro a0 k; have ih0 := spec_l1Moves.mono_l k; unfold spec_l1Moves.f
 repeat' first
   | (with_reducible exact ih0 _ _ _)
   | (with_reducible exact LeO.refl _)
   | (with_reducible exact LeO.none _)
   | (with_reducible refine LeO.ite ?_ ?_)
   | (with_reducible refine LeO.bind ?_ (fun _ => ?_))
   | exact ih0 _ _ _
   | exact LeO.none _
   | refine LeO.ite ?_ ?_
   | refine LeO.bind ?_ (fun _ => ?_)
theorem spec_l1Moves.calls (k : Nat) (a0 : Int) (r : Int) (w : World) (h : spec_l1Moves.f k a0 = some r) :
  Calls Tryz.prog 146 #[.int .i64 a0] w fun e w' => e = .returned (.int .i64 r) ∧ Below w.heap.size w w' := by
 have HB := az (Below.refl w.heap.size w); have H : (spec_l1Moves.l0 k a0 (([8234, 8235, 8236, 8237, 8238, 8294, 8295, 8296, 8297] : List Int)) 0) = some r := h; clear h; obtain ⟨y121, hy121⟩ : ∃ y_ : List Int, y_ = (([8234, 8235, 8236, 8237, 8238, 8294, 8295, 8296, 8297] : List Int)) := ⟨_, rfl⟩; replace H : (spec_l1Moves.l0 k a0 y121 0) = some r := by first | (rw [hy121]; with_reducible exact H) | (have H2_ := (Option.bind_some _ _).symm.trans H; rw [hy121]; with_reducible exact H2_) | (have H2_ := (Option.bind_some _ _).symm.trans H; with_reducible exact H2_) | with_reducible exact H | (rw [hy121]; exact H) | exact H
 have Ny121 := az hy121; clear hy121; have H' := az H; clear H; go_enter Tryz.func146, Tryz.ntmps146; go_wp2_with (first | ((with_reducible refine gate_dst (N := 5) rfl ?_); refine Kd.R_lit (Kd.int .i64) _ 3 ?hg (N := 5) ?hd (xs := ([8234, 8235, 8236, 8237, 8238, 8294, 8295, 8296, 8297] : List Int)) (inner := [.int .i64 8234, .int .i64 8235, .int .i64 8236, .int .i64 8237, .int .i64 8238, .int .i64 8294, .int .i64 8295, .int .i64 8296, .int .i64 8297]) (ok := fun _ => True) (okp := fun _ => True) ?hr ?hp (fun _ hk => hk) trivial (Below.refl _ _) (Nat.le_refl _) (by simp) ?_; (case hd => rfl); (case hg => rfl); (case hr => first | (go_simp; done) | (go_simp; rfl)); (case hp => exact (Reps.one (show Kd.M (Kd.int .i64) _ _ _ 8234 [.int .i64 8234] from rfl) (Reps.one (show Kd.M (Kd.int .i64) _ _ _ 8235 [.int .i64 8235] from rfl) (Reps.one (show Kd.M (Kd.int .i64) _ _ _ 8236 [.int .i64 8236] from rfl) (Reps.one (show Kd.M (Kd.int .i64) _ _ _ 8237 [.int .i64 8237] from rfl) (Reps.one (show Kd.M (Kd.int .i64) _ _ _ 8238 [.int .i64 8238] from rfl) (Reps.one (show Kd.M (Kd.int .i64) _ _ _ 8294 [.int .i64 8294] from rfl) (Reps.one (show Kd.M (Kd.int .i64) _ _ _ 8295 [.int .i64 8295] from rfl) (Reps.one (show Kd.M (Kd.int .i64) _ _ _ 8296 [.int .i64 8296] from rfl) (Reps.one (show Kd.M (Kd.int .i64) _ _ _ 8297 [.int .i64 8297] from rfl) (Reps.none _ _))))))))))); intro v122 w2 ho3 hb hg_ hnew_; clear hg_ hnew_; (first | rw [← Ny121.out] at ho3 | (simp only [Int.reduceToNat] at ho3; rw [← Ny121.out] at ho3)); have n0_ := az (Kd.R_lower ho3 (below_size (zA HB.out))); have n1_ := az (below_step (zA HB.out) hb); clear HB; have HO123 := n0_; have HB := n1_; clear n0_ n1_; clear hb ho3)); go_loopg [4] k (fun kq v4 w' => ∃ (x4_1 : Int), v4 = .int .i64 x4_1 ∧ Aside0 (spec_l1Moves.l0 kq a0 y121 x4_1 = some r) ∧ Aside0 (kq ≤ k) ∧ Aside0 (Kd.R (Kd.int .i64) 3 w' w.heap.size (fun _ => True) v122 y121) ∧ Aside0 (Below w.heap.size w w'))
 case atStart => exact ⟨(0), zB, H', ⟨Nat.le_refl _⟩, ⟨zC HO123.out⟩, ⟨zA HB.out⟩⟩
 case round =>
  clear H'; (try clear c1); (try clear p2); obtain ⟨x4_1, rfl, HA, HK1, HO_3, HB⟩ := hrel
  cases gk with
  | zero => exact absurd HA.out (by simp [spec_l1Moves.l0])
  | succ k1 =>
   have H := HA.out; clear HA; simp only [spec_l1Moves.l0] at H; by_cases c4 : x4_1 < (y121.length : Int)
   ·
    rw [if_pos c4] at H; have c4b0 : decide (x4_1 < (y121.length : Int)) = true := decide_eq_true c4; clear c4; by_cases c5 : 0 ≤ x4_1
    ·
     rw [if_pos c5] at H; have c5b0 : decide (0 ≤ x4_1) = true := decide_eq_true c5; clear c5; by_cases c6 : (rd y121 x4_1) = a0
     ·
      rw [if_pos c6] at H; have c6b0 : ((rd y121 x4_1) == a0) = true := beq_iff_eq.mpr c6; have c6b1 : ((rd y121 x4_1) != a0) = false := bne_eq_false_iff_eq.mpr c6; clear c6; obtain rfl := Option.some.inj H; obtain ⟨Ao7, co7, eo7⟩ := Kd.R_slice HO_3.out; subst eo7; have p124 : 0 ≤ (x4_1 : Int) := of_decide_eq_true (by assumption); have q124 : x4_1 < (y121.length : Int) := of_decide_eq_true (by assumption); obtain ⟨ad124, e124, hx124_0⟩ := Kd.at_int (Kd.R_reads' HO_3.out).2.2 x4_1 p124 q124
      cases e124
      replace p124 := eq_true p124; replace q124 := eq_true q124; go_wp2; go_ret; exact ⟨zF, zA HB.out⟩
     ·
      rw [if_neg c6] at H; have c6b0 : ((rd y121 x4_1) == a0) = false := beq_eq_false_iff_ne.mpr c6; have c6b1 : ((rd y121 x4_1) != a0) = true := bne_iff_ne.mpr c6; have H' := az H; clear H; obtain ⟨Ao8, co8, eo8⟩ := Kd.R_slice HO_3.out; subst eo8; have p124 : 0 ≤ (x4_1 : Int) := of_decide_eq_true (by assumption); have q124 : x4_1 < (y121.length : Int) := of_decide_eq_true (by assumption); obtain ⟨ad124, e124, hx124_0⟩ := Kd.at_int (Kd.R_reads' HO_3.out).2.2 x4_1 p124 q124
      cases e124
      replace p124 := eq_true p124; replace q124 := eq_true q124; go_wp2; go_roundg k1
      case measure => have := HK1.out; omega
      case rel => exact ⟨(wrap64 (x4_1 + 1)), zB, H', ⟨zG HK1.out⟩, ⟨zC HO_3.out⟩, ⟨zA HB.out⟩⟩
    ·
     rw [if_neg c5] at H; exact absurd H (by simp)
   ·
    rw [if_neg c4] at H; have c4b0 : decide (x4_1 < (y121.length : Int)) = false := decide_eq_false c4; clear c4; obtain rfl := Option.some.inj H; obtain ⟨Ao9, co9, eo9⟩ := Kd.R_slice HO_3.out; subst eo9; go_wp2; go_ret; exact ⟨zF, zA HB.out⟩
mutual
def spec_l1Signs.j0 : Nat → Int → Bool → Option (Int)
 | 0, _, _ => none
 | k + 1, x0, x3 => if x3 = true then (some 5) else ((spec_l1In.f x0 35 37).bind fun t125 => (if t125 = true then (some 6) else (if x0 = 44 then (spec_l1Signs.j1 k x0 true) else (if x0 = 46 then (spec_l1Signs.j1 k x0 true) else (if x0 = 47 then (spec_l1Signs.j1 k x0 true) else (spec_l1Signs.j1 k x0 (x0 == 58)))))))
def spec_l1Signs.j1 : Nat → Int → Bool → Option (Int)
 | 0, _, _ => none
 | k + 1, x0, x13 => if x13 = true then (some 8) else ((spec_l1In.f x0 768 879).bind fun t126 => (if t126 = true then (some 9) else (if x0 = 8203 then (spec_l1Signs.j2 k x0 true) else (if x0 = 8205 then (spec_l1Signs.j2 k x0 true) else (spec_l1Signs.j2 k x0 (x0 == 173))))))
def spec_l1Signs.j2 : Nat → Int → Bool → Option (Int)
 | 0, _, _ => none
 | k + 1, x0, x31 => if x31 = true then (some 10) else (if x0 = 9 then (some 11) else (if x0 = 32 then (some 12) else ((spec_l1Moves.f k x0).bind fun t127 => (some t127))))
end
def spec_l1Signs.f (k : Nat) (a0 : Int) : Option (Int) := if a0 = 43 then (spec_l1Signs.j0 k a0 true) else (spec_l1Signs.j0 k a0 (a0 == 45))
theorem spec_l1Signs.mono_l : ∀ k, (∀ y0 y1, LeO (spec_l1Signs.j0 k y0 y1) (spec_l1Signs.j0 (k + 1) y0 y1)) ∧ (∀ y0 y1, LeO (spec_l1Signs.j1 k y0 y1) (spec_l1Signs.j1 (k + 1) y0 y1)) ∧ (∀ y0 y1, LeO (spec_l1Signs.j2 k y0 y1) (spec_l1Signs.j2 (k + 1) y0 y1))
 | 0 => ⟨fun _ _ r h => by simp [spec_l1Signs.j0] at h, fun _ _ r h => by simp [spec_l1Signs.j1] at h, fun _ _ r h => by simp [spec_l1Signs.j2] at h⟩
 | k + 1 => by
  obtain ⟨ih0, ih1, ih2⟩ := spec_l1Signs.mono_l k; refine ⟨?_, ?_, ?_⟩
  ·
   intro y0 y1; unfold spec_l1Signs.j0
   repeat' first
   | (with_reducible exact ih0 _ _)
   | (with_reducible exact ih1 _ _)
   | (with_reducible exact ih2 _ _)
   | (with_reducible exact spec_l1Moves.mono _ _)
   | (with_reducible exact LeO.refl _)
   | (with_reducible exact LeO.none _)
   | (with_reducible refine LeO.ite ?_ ?_)
   | (with_reducible refine LeO.bind ?_ (fun _ => ?_))
   | exact ih0 _ _
   | exact ih1 _ _
   | exact ih2 _ _
   | exact spec_l1Moves.mono _ _
   | exact LeO.none _
   | refine LeO.ite ?_ ?_
   | refine LeO.bind ?_ (fun _ => ?_)
  ·
   intro y0 y1; unfold spec_l1Signs.j1
   repeat' first
   | (with_reducible exact ih0 _ _)
   | (with_reducible exact ih1 _ _)
   | (with_reducible exact ih2 _ _)
   | (with_reducible exact spec_l1Moves.mono _ _)
   | (with_reducible exact LeO.refl _)
   | (with_reducible exact LeO.none _)
   | (with_reducible refine LeO.ite ?_ ?_)
   | (with_reducible refine LeO.bind ?_ (fun _ => ?_))
   | exact ih0 _ _
   | exact ih1 _ _
   | exact ih2 _ _
   | exact spec_l1Moves.mono _ _
   | exact LeO.none _
   | refine LeO.ite ?_ ?_
   | refine LeO.bind ?_ (fun _ => ?_)
  ·
   intro y0 y1; unfold spec_l1Signs.j2
   repeat' first
   | (with_reducible exact ih0 _ _)
   | (with_reducible exact ih1 _ _)
   | (with_reducible exact ih2 _ _)
   | (with_reducible exact spec_l1Moves.mono _ _)
   | (with_reducible exact LeO.refl _)
   | (with_reducible exact LeO.none _)
   | (with_reducible refine LeO.ite ?_ ?_)
   | (with_reducible refine LeO.bind ?_ (fun _ => ?_))
   | exact ih0 _ _
   | exact ih1 _ _
   | exact ih2 _ _
   | exact spec_l1Moves.mono _ _
   | exact LeO.none _
   | refine LeO.ite ?_ ?_
   | refine LeO.bind ?_ (fun _ => ?_)
theorem spec_l1Signs.mono : ∀ a0 k, LeO (spec_l1Signs.f k a0) (spec_l1Signs.f (k + 1) a0) := by
 intro a0 k; obtain ⟨ih0, ih1, ih2⟩ := spec_l1Signs.mono_l k; unfold spec_l1Signs.f
 repeat' first
   | (with_reducible exact ih0 _ _)
   | (with_reducible exact ih1 _ _)
   | (with_reducible exact ih2 _ _)
   | (with_reducible exact spec_l1Moves.mono _ _)
   | (with_reducible exact LeO.refl _)
   | (with_reducible exact LeO.none _)
   | (with_reducible refine LeO.ite ?_ ?_)
   | (with_reducible refine LeO.bind ?_ (fun _ => ?_))
   | exact ih0 _ _
   | exact ih1 _ _
   | exact ih2 _ _
   | exact spec_l1Moves.mono _ _
   | exact LeO.none _
   | refine LeO.ite ?_ ?_
   | refine LeO.bind ?_ (fun _ => ?_)
theorem spec_l1Signs.calls (k : Nat) (a0 : Int) (r : Int) (w : World) (h : spec_l1Signs.f k a0 = some r) :
  Calls Tryz.prog 144 #[.int .i64 a0] w fun e w' => e = .returned (.int .i64 r) ∧ Below w.heap.size w w' := by
 have HB := az (Below.refl w.heap.size w); have H : (if a0 = 43 then (spec_l1Signs.j0 k a0 true) else (spec_l1Signs.j0 k a0 (a0 == 45))) = some r := h; clear h; have HC2 := az H; clear H; go_enter Tryz.func144, Tryz.ntmps144; go_upto_region 1 with (fail)
 go_cut [3] (fun v3 wc => ∃ (kq : Nat) (x3_1 : Bool), v3 = .bool x3_1 ∧ Aside0 (spec_l1Signs.j0 kq a0 x3_1 = some r) ∧ Aside0 (kq ≤ k) ∧ Aside0 (Below w.heap.size w wc))
 case first =>
  have H := HC2.out; clear HC2; by_cases c3 : a0 = 43
  ·
   rw [if_pos c3] at H; have c3b0 : (a0 == 43) = true := beq_iff_eq.mpr c3; have c3b1 : (a0 != 43) = false := bne_eq_false_iff_eq.mpr c3; clear c3; (first | rw [c3b0] | (simp only [i64_w, i32_w]; rw [c3b0]) | skip); have H' := az H; clear H; go_wp2; go_meet
   case rel => exact ⟨_, (true), zB, H', ⟨zK⟩, ⟨zA HB.out⟩⟩
  ·
   rw [if_neg c3] at H; have c3b0 : (a0 == 43) = false := beq_eq_false_iff_ne.mpr c3; have c3b1 : (a0 != 43) = true := bne_iff_ne.mpr c3; (first | rw [c3b0] | (simp only [i64_w, i32_w]; rw [c3b0]) | skip); have H' := az H; clear H; go_wp2; go_meet
   case rel => exact ⟨_, ((a0 == 45)), zB, H', ⟨zK⟩, ⟨zA HB.out⟩⟩
 case rest =>
  clear HC2; (try clear c1); (try clear p2); (try clear c3); (try clear c3b0); (try clear c3b1); obtain ⟨kq, x3_1, rfl, HA, HJ1, HB⟩ := hcut
  cases kq with
  | zero => exact absurd HA.out (by simp [spec_l1Signs.j0])
  | succ kj1 =>
   have H := HA.out; clear HA; simp only [spec_l1Signs.j0] at H; by_cases c4 : x3_1 = true
   ·
    subst c4; have H1 : (some 5) = some r := by rw [if_pos rfl] at H; exact H
    clear H; have H := H1; clear H1; obtain rfl := Option.some.inj H; go_wp2; go_ret; exact ⟨zF, zA HB.out⟩
   ·
    replace c4 := Bool.eq_false_iff.mpr c4; subst c4; have H1 : ((spec_l1In.f a0 35 37).bind fun t125 => (if t125 = true then (some 6) else (if a0 = 44 then (spec_l1Signs.j1 kj1 a0 true) else (if a0 = 46 then (spec_l1Signs.j1 kj1 a0 true) else (if a0 = 47 then (spec_l1Signs.j1 kj1 a0 true) else (spec_l1Signs.j1 kj1 a0 (a0 == 58))))))) = some r := by rw [if_neg (show ¬ (false = true) by decide)] at H; exact H
    clear H; have H := H1; clear H1; replace H := Option.bind_eq_some_iff.mp H; obtain ⟨t125, A50, H⟩ := H; replace H : (if t125 = true then (some 6) else (if a0 = 44 then (spec_l1Signs.j1 kj1 a0 true) else (if a0 = 46 then (spec_l1Signs.j1 kj1 a0 true) else (if a0 = 47 then (spec_l1Signs.j1 kj1 a0 true) else (spec_l1Signs.j1 kj1 a0 (a0 == 58)))))) = some r := H; have A5 := az A50; clear A50; by_cases c6 : t125 = true
    ·
     subst c6; have H1 : (some 6) = some r := by rw [if_pos rfl] at H; exact H
     clear H; have H := H1; clear H1; obtain rfl := Option.some.inj H; go_wp2_with (first | ((with_reducible refine gate_callee (f := 36) rfl ?_); refine goesL_ (some 12) rfl rfl Tryz.func36 (by kernel_rfl) rfl #[.int .i64 a0, .int .i64 35, .int .i64 37] rfl zD ?_; (with_reducible refine (spec_l1In.calls a0 35 37 true _ A5.out).mono ?_); rintro e w' ⟨rfl, ⟨nd, rfl⟩⟩; refine ⟨_, rfl, ?_⟩)); go_ret; exact ⟨zF, zA HB.out⟩
    ·
     replace c6 := Bool.eq_false_iff.mpr c6; subst c6; have H1 : (if a0 = 44 then (spec_l1Signs.j1 kj1 a0 true) else (if a0 = 46 then (spec_l1Signs.j1 kj1 a0 true) else (if a0 = 47 then (spec_l1Signs.j1 kj1 a0 true) else (spec_l1Signs.j1 kj1 a0 (a0 == 58))))) = some r := by rw [if_neg (show ¬ (false = true) by decide)] at H; exact H
     clear H; have H := H1; clear H1; have HC7 := az H; clear H; go_upto_region 5 with (first | ((with_reducible refine gate_callee (f := 36) rfl ?_); refine goesL_ (some 12) rfl rfl Tryz.func36 (by kernel_rfl) rfl #[.int .i64 a0, .int .i64 35, .int .i64 37] rfl zD ?_; (with_reducible refine (spec_l1In.calls a0 35 37 false _ A5.out).mono ?_); rintro e w' ⟨rfl, ⟨nd, rfl⟩⟩; refine ⟨_, rfl, ?_⟩))
     (try simp only [Act.put, List.setIfInBounds_toArray, List.set_cons_zero, List.set_cons_succ]); go_cut [13] (fun v13 wc => ∃ (kq : Nat) (x13_6 : Bool), v13 = .bool x13_6 ∧ Aside0 (spec_l1Signs.j1 kq a0 x13_6 = some r) ∧ Aside0 (kq ≤ kj1) ∧ Aside0 (Below w.heap.size w wc))
     case first =>
      have H := HC7.out; clear HC7; by_cases c8 : a0 = 44
      ·
       rw [if_pos c8] at H; have c8b0 : (a0 == 44) = true := beq_iff_eq.mpr c8; have c8b1 : (a0 != 44) = false := bne_eq_false_iff_eq.mpr c8; clear c8; (first | rw [c8b0] | (simp only [i64_w, i32_w]; rw [c8b0]) | skip); have H' := az H; clear H; go_wp2; go_meet
       case rel => exact ⟨_, (true), zB, H', ⟨zL HJ1.out⟩, ⟨zA HB.out⟩⟩
      ·
       rw [if_neg c8] at H; have c8b0 : (a0 == 44) = false := beq_eq_false_iff_ne.mpr c8; have c8b1 : (a0 != 44) = true := bne_iff_ne.mpr c8; (first | rw [c8b0] | (simp only [i64_w, i32_w]; rw [c8b0]) | skip); by_cases c9 : a0 = 46
       ·
        rw [if_pos c9] at H; have c9b0 : (a0 == 46) = true := beq_iff_eq.mpr c9; have c9b1 : (a0 != 46) = false := bne_eq_false_iff_eq.mpr c9; clear c9; have H' := az H; clear H; go_wp2; go_meet
        case rel => exact ⟨_, (true), zB, H', ⟨zL HJ1.out⟩, ⟨zA HB.out⟩⟩
       ·
        rw [if_neg c9] at H; have c9b0 : (a0 == 46) = false := beq_eq_false_iff_ne.mpr c9; have c9b1 : (a0 != 46) = true := bne_iff_ne.mpr c9; by_cases c10 : a0 = 47
        ·
         rw [if_pos c10] at H; have c10b0 : (a0 == 47) = true := beq_iff_eq.mpr c10; have c10b1 : (a0 != 47) = false := bne_eq_false_iff_eq.mpr c10; clear c10; have H' := az H; clear H; go_wp2; go_meet
         case rel => exact ⟨_, (true), zB, H', ⟨zL HJ1.out⟩, ⟨zA HB.out⟩⟩
        ·
         rw [if_neg c10] at H; have c10b0 : (a0 == 47) = false := beq_eq_false_iff_ne.mpr c10; have c10b1 : (a0 != 47) = true := bne_iff_ne.mpr c10; have H' := az H; clear H; go_wp2; go_meet
         case rel => exact ⟨_, ((a0 == 58)), zB, H', ⟨zL HJ1.out⟩, ⟨zA HB.out⟩⟩
     case rest =>
      clear HC7; (try clear c1); (try clear p2); (try clear c3); (try clear c3b0); (try clear c3b1); (try clear c4); (try clear c6); (try clear c8); (try clear c8b0); (try clear c8b1); (try clear c9); (try clear c9b0); (try clear c9b1); (try clear c10); (try clear c10b0); (try clear c10b1); (try clear p2); obtain ⟨kq, x13_6, rfl, HA, HJ6, HB⟩ := hcut
      cases kq with
      | zero => exact absurd HA.out (by simp [spec_l1Signs.j1])
      | succ kj6 =>
       have H := HA.out; clear HA; simp only [spec_l1Signs.j1] at H; by_cases c11 : x13_6 = true
       ·
        subst c11; have H1 : (some 8) = some r := by rw [if_pos rfl] at H; exact H
        clear H; have H := H1; clear H1; obtain rfl := Option.some.inj H; go_wp2; go_ret; exact ⟨zF, zA HB.out⟩
       ·
        replace c11 := Bool.eq_false_iff.mpr c11; subst c11; have H1 : ((spec_l1In.f a0 768 879).bind fun t126 => (if t126 = true then (some 9) else (if a0 = 8203 then (spec_l1Signs.j2 kj6 a0 true) else (if a0 = 8205 then (spec_l1Signs.j2 kj6 a0 true) else (spec_l1Signs.j2 kj6 a0 (a0 == 173)))))) = some r := by rw [if_neg (show ¬ (false = true) by decide)] at H; exact H
        clear H; have H := H1; clear H1; replace H := Option.bind_eq_some_iff.mp H; obtain ⟨t126, A120, H⟩ := H; replace H : (if t126 = true then (some 9) else (if a0 = 8203 then (spec_l1Signs.j2 kj6 a0 true) else (if a0 = 8205 then (spec_l1Signs.j2 kj6 a0 true) else (spec_l1Signs.j2 kj6 a0 (a0 == 173))))) = some r := H; have A12 := az A120; clear A120; by_cases c13 : t126 = true
        ·
         subst c13; have H1 : (some 9) = some r := by rw [if_pos rfl] at H; exact H
         clear H; have H := H1; clear H1; obtain rfl := Option.some.inj H; go_wp2_with (first | ((with_reducible refine gate_callee (f := 36) rfl ?_); refine goesL_ (some 30) rfl rfl Tryz.func36 (by kernel_rfl) rfl #[.int .i64 a0, .int .i64 768, .int .i64 879] rfl zD ?_; (with_reducible refine (spec_l1In.calls a0 768 879 true _ A12.out).mono ?_); rintro e w' ⟨rfl, ⟨nd, rfl⟩⟩; refine ⟨_, rfl, ?_⟩)); go_ret; exact ⟨zF, zA HB.out⟩
        ·
         replace c13 := Bool.eq_false_iff.mpr c13; subst c13; have H1 : (if a0 = 8203 then (spec_l1Signs.j2 kj6 a0 true) else (if a0 = 8205 then (spec_l1Signs.j2 kj6 a0 true) else (spec_l1Signs.j2 kj6 a0 (a0 == 173)))) = some r := by rw [if_neg (show ¬ (false = true) by decide)] at H; exact H
         clear H; have H := H1; clear H1; have HC14 := az H; clear H; go_upto_region 9 with (first | ((with_reducible refine gate_callee (f := 36) rfl ?_); refine goesL_ (some 30) rfl rfl Tryz.func36 (by kernel_rfl) rfl #[.int .i64 a0, .int .i64 768, .int .i64 879] rfl zD ?_; (with_reducible refine (spec_l1In.calls a0 768 879 false _ A12.out).mono ?_); rintro e w' ⟨rfl, ⟨nd, rfl⟩⟩; refine ⟨_, rfl, ?_⟩))
         (try simp only [Act.put, List.setIfInBounds_toArray, List.set_cons_zero, List.set_cons_succ]); go_cut [31] (fun v31 wc => ∃ (kq : Nat) (x31_13 : Bool), v31 = .bool x31_13 ∧ Aside0 (spec_l1Signs.j2 kq a0 x31_13 = some r) ∧ Aside0 (kq ≤ kj6) ∧ Aside0 (Below w.heap.size w wc))
         case first =>
          have H := HC14.out; clear HC14; by_cases c15 : a0 = 8203
          ·
           rw [if_pos c15] at H; have c15b0 : (a0 == 8203) = true := beq_iff_eq.mpr c15; have c15b1 : (a0 != 8203) = false := bne_eq_false_iff_eq.mpr c15; clear c15; (first | rw [c15b0] | (simp only [i64_w, i32_w]; rw [c15b0]) | skip); have H' := az H; clear H; go_wp2; go_meet
           case rel => exact ⟨_, (true), zB, H', ⟨zO HJ1.out HJ6.out⟩, ⟨zA HB.out⟩⟩
          ·
           rw [if_neg c15] at H; have c15b0 : (a0 == 8203) = false := beq_eq_false_iff_ne.mpr c15; have c15b1 : (a0 != 8203) = true := bne_iff_ne.mpr c15; (first | rw [c15b0] | (simp only [i64_w, i32_w]; rw [c15b0]) | skip); by_cases c16 : a0 = 8205
           ·
            rw [if_pos c16] at H; have c16b0 : (a0 == 8205) = true := beq_iff_eq.mpr c16; have c16b1 : (a0 != 8205) = false := bne_eq_false_iff_eq.mpr c16; clear c16; have H' := az H; clear H; go_wp2; go_meet
            case rel => exact ⟨_, (true), zB, H', ⟨zO HJ1.out HJ6.out⟩, ⟨zA HB.out⟩⟩
           ·
            rw [if_neg c16] at H; have c16b0 : (a0 == 8205) = false := beq_eq_false_iff_ne.mpr c16; have c16b1 : (a0 != 8205) = true := bne_iff_ne.mpr c16; have H' := az H; clear H; go_wp2; go_meet
            case rel => exact ⟨_, ((a0 == 173)), zB, H', ⟨zO HJ1.out HJ6.out⟩, ⟨zA HB.out⟩⟩
         case rest =>
          clear HC14; (try clear c1); (try clear p2); (try clear c3); (try clear c3b0); (try clear c3b1); (try clear c4); (try clear c6); (try clear c8); (try clear c8b0); (try clear c8b1); (try clear c9); (try clear c9b0); (try clear c9b1); (try clear c10); (try clear c10b0); (try clear c10b1); (try clear c11); (try clear c13); (try clear c14); (try clear c15); (try clear c15b0); (try clear c15b1); (try clear c16); (try clear c16b0); (try clear c16b1); (try clear p2); obtain ⟨kq, x31_13, rfl, HA, HJ13, HB⟩ := hcut
          cases kq with
          | zero => exact absurd HA.out (by simp [spec_l1Signs.j2])
          | succ kj13 =>
           have H := HA.out; clear HA; simp only [spec_l1Signs.j2] at H; by_cases c17 : x31_13 = true
           ·
            subst c17; have H1 : (some 10) = some r := by rw [if_pos rfl] at H; exact H
            clear H; have H := H1; clear H1; obtain rfl := Option.some.inj H; go_wp2; go_ret; exact ⟨zF, zA HB.out⟩
           ·
            replace c17 := Bool.eq_false_iff.mpr c17; subst c17; have H1 : (if a0 = 9 then (some 11) else (if a0 = 32 then (some 12) else ((spec_l1Moves.f kj13 a0).bind fun t127 => (some t127)))) = some r := by rw [if_neg (show ¬ (false = true) by decide)] at H; exact H
            clear H; have H := H1; clear H1; by_cases c18 : a0 = 9
            ·
             rw [if_pos c18] at H; have c18b0 : (a0 == 9) = true := beq_iff_eq.mpr c18; have c18b1 : (a0 != 9) = false := bne_eq_false_iff_eq.mpr c18; clear c18; obtain rfl := Option.some.inj H; go_wp2; go_ret; exact ⟨zF, zA HB.out⟩
            ·
             rw [if_neg c18] at H; have c18b0 : (a0 == 9) = false := beq_eq_false_iff_ne.mpr c18; have c18b1 : (a0 != 9) = true := bne_iff_ne.mpr c18; by_cases c19 : a0 = 32
             ·
              rw [if_pos c19] at H; have c19b0 : (a0 == 32) = true := beq_iff_eq.mpr c19; have c19b1 : (a0 != 32) = false := bne_eq_false_iff_eq.mpr c19; clear c19; obtain rfl := Option.some.inj H; go_wp2; go_ret; exact ⟨zF, zA HB.out⟩
             ·
              rw [if_neg c19] at H; have c19b0 : (a0 == 32) = false := beq_eq_false_iff_ne.mpr c19; have c19b1 : (a0 != 32) = true := bne_iff_ne.mpr c19; replace H := Option.bind_eq_some_iff.mp H; obtain ⟨t127, A200, H⟩ := H; replace H : (some t127) = some r := H; have A20 := az A200; clear A200; obtain rfl := Option.some.inj H; go_wp2_with (first | ((with_reducible refine gate_callee (f := 146) rfl ?_); refine goesL_ (some 49) rfl rfl Tryz.func146 (by kernel_rfl) rfl #[.int .i64 a0] rfl zD ?_; (with_reducible refine (spec_l1Moves.calls kj13 a0 t127 _ A20.out).mono ?_); rintro e w21 ⟨rfl, hb⟩; refine ⟨_, rfl, ?_⟩; have n0_ := az (below_step (zA HB.out) hb); clear HB; have HB := n0_; clear n0_; (try clear hb); (try clear hb2); (try clear hk); (try clear hi))); go_ret; exact ⟨zF, zA HB.out⟩
def spec_RuneBidi.j0 : Nat → Int → Bool → Option (Int)
 | 0, _, _ => none
 | k + 1, x0, x3 => if x3 = true then (some 1) else ((spec_l1In.f x0 1488 1514).bind fun t131 => (if t131 = true then (some 2) else ((spec_l1In.f x0 1569 1610).bind fun t132 => (if t132 = true then (some 3) else ((spec_l1In.f x0 48 57).bind fun t133 => (if t133 = true then (some 4) else ((spec_l1In.f x0 1632 1641).bind fun t134 => (if t134 = true then (some 7) else ((spec_l1Signs.f k x0).bind fun t135 => (some t135))))))))))
def spec_RuneBidi.f (k : Nat) (a0 : Int) : Option (Int) := (spec_l1In.f a0 97 122).bind fun t128 => (if t128 = true then (spec_RuneBidi.j0 k a0 true) else ((spec_l1In.f a0 65 90).bind fun t129 => (if t129 = true then (spec_RuneBidi.j0 k a0 true) else ((spec_l1In.f a0 19968 40959).bind fun t130 => (spec_RuneBidi.j0 k a0 t130)))))
theorem spec_RuneBidi.mono_l : ∀ k, (∀ y0 y1, LeO (spec_RuneBidi.j0 k y0 y1) (spec_RuneBidi.j0 (k + 1) y0 y1))
 | 0 => fun _ _ r h => by simp [spec_RuneBidi.j0] at h
 | k + 1 => by
  have ih0 := spec_RuneBidi.mono_l k
  ·
   intro y0 y1; unfold spec_RuneBidi.j0
   repeat' first
   | (with_reducible exact ih0 _ _)
   | (with_reducible exact spec_l1Signs.mono _ _)
   | (with_reducible exact LeO.refl _)
   | (with_reducible exact LeO.none _)
   | (with_reducible refine LeO.ite ?_ ?_)
   | (with_reducible refine LeO.bind ?_ (fun _ => ?_))
   | exact ih0 _ _
   | exact spec_l1Signs.mono _ _
   | exact LeO.none _
   | refine LeO.ite ?_ ?_
   | refine LeO.bind ?_ (fun _ => ?_)
theorem spec_RuneBidi.mono : ∀ a0 k, LeO (spec_RuneBidi.f k a0) (spec_RuneBidi.f (k + 1) a0) := by
 intro a0 k; have ih0 := spec_RuneBidi.mono_l k; unfold spec_RuneBidi.f
 repeat' first
   | (with_reducible exact ih0 _ _)
   | (with_reducible exact spec_l1Signs.mono _ _)
   | (with_reducible exact LeO.refl _)
   | (with_reducible exact LeO.none _)
   | (with_reducible refine LeO.ite ?_ ?_)
   | (with_reducible refine LeO.bind ?_ (fun _ => ?_))
   | exact ih0 _ _
   | exact spec_l1Signs.mono _ _
   | exact LeO.none _
   | refine LeO.ite ?_ ?_
   | refine LeO.bind ?_ (fun _ => ?_)
theorem spec_RuneBidi.calls (k : Nat) (a0 : Int) (r : Int) (w : World) (h : spec_RuneBidi.f k a0 = some r) :
  Calls Tryz.prog 137 #[.int .i64 a0] w fun e w' => e = .returned (.int .i64 r) ∧ Below w.heap.size w w' := by
 have HB := az (Below.refl w.heap.size w); have H : ((spec_l1In.f a0 97 122).bind fun t128 => (if t128 = true then (spec_RuneBidi.j0 k a0 true) else ((spec_l1In.f a0 65 90).bind fun t129 => (if t129 = true then (spec_RuneBidi.j0 k a0 true) else ((spec_l1In.f a0 19968 40959).bind fun t130 => (spec_RuneBidi.j0 k a0 t130)))))) = some r := h; clear h; have HC2 := az H; clear H; go_enter Tryz.func137, Tryz.ntmps137; go_upto_region 1 with (fail)
 go_cut [3] (fun v3 wc => ∃ (kq : Nat) (x3_1 : Bool), v3 = .bool x3_1 ∧ Aside0 (spec_RuneBidi.j0 kq a0 x3_1 = some r) ∧ Aside0 (kq ≤ k) ∧ Aside0 (Below w.heap.size w wc))
 case first =>
  have H := HC2.out; clear HC2; replace H := Option.bind_eq_some_iff.mp H; obtain ⟨t128, A30, H⟩ := H; replace H : (if t128 = true then (spec_RuneBidi.j0 k a0 true) else ((spec_l1In.f a0 65 90).bind fun t129 => (if t129 = true then (spec_RuneBidi.j0 k a0 true) else ((spec_l1In.f a0 19968 40959).bind fun t130 => (spec_RuneBidi.j0 k a0 t130))))) = some r := H; have A3 := az A30; clear A30; by_cases c4 : t128 = true
  ·
   subst c4; have H1 : (spec_RuneBidi.j0 k a0 true) = some r := by rw [if_pos rfl] at H; exact H
   clear H; have H := H1; clear H1; have H' := az H; clear H; go_wp2_with (first | ((with_reducible refine gate_callee (f := 36) rfl ?_); refine goesL_ (some 5) rfl rfl Tryz.func36 (by kernel_rfl) rfl #[.int .i64 a0, .int .i64 97, .int .i64 122] rfl zD ?_; (with_reducible refine (spec_l1In.calls a0 97 122 true _ A3.out).mono ?_); rintro e w' ⟨rfl, ⟨nd, rfl⟩⟩; refine ⟨_, rfl, ?_⟩)); go_meet
   case rel => exact ⟨_, (true), zB, H', ⟨zK⟩, ⟨zA HB.out⟩⟩
  ·
   replace c4 := Bool.eq_false_iff.mpr c4; subst c4; have H1 : ((spec_l1In.f a0 65 90).bind fun t129 => (if t129 = true then (spec_RuneBidi.j0 k a0 true) else ((spec_l1In.f a0 19968 40959).bind fun t130 => (spec_RuneBidi.j0 k a0 t130)))) = some r := by rw [if_neg (show ¬ (false = true) by decide)] at H; exact H
   clear H; have H := H1; clear H1; replace H := Option.bind_eq_some_iff.mp H; obtain ⟨t129, A50, H⟩ := H; replace H : (if t129 = true then (spec_RuneBidi.j0 k a0 true) else ((spec_l1In.f a0 19968 40959).bind fun t130 => (spec_RuneBidi.j0 k a0 t130))) = some r := H; have A5 := az A50; clear A50; by_cases c6 : t129 = true
   ·
    subst c6; have H1 : (spec_RuneBidi.j0 k a0 true) = some r := by rw [if_pos rfl] at H; exact H
    clear H; have H := H1; clear H1; have H' := az H; clear H; go_wp2_with (first | ((with_reducible refine gate_callee (f := 36) rfl ?_); refine goesL_ (some 5) rfl rfl Tryz.func36 (by kernel_rfl) rfl #[.int .i64 a0, .int .i64 97, .int .i64 122] rfl zD ?_; (with_reducible refine (spec_l1In.calls a0 97 122 false _ A3.out).mono ?_); rintro e w' ⟨rfl, ⟨nd, rfl⟩⟩; refine ⟨_, rfl, ?_⟩) | (go_at_call 36; (with_reducible refine (spec_l1In.calls a0 65 90 true _ A5.out).mono ?_); rintro e w' ⟨rfl, ⟨nd, rfl⟩⟩)); go_meet
    case rel => exact ⟨_, (true), zB, H', ⟨zK⟩, ⟨zA HB.out⟩⟩
   ·
    replace c6 := Bool.eq_false_iff.mpr c6; subst c6; have H1 : ((spec_l1In.f a0 19968 40959).bind fun t130 => (spec_RuneBidi.j0 k a0 t130)) = some r := by rw [if_neg (show ¬ (false = true) by decide)] at H; exact H
    clear H; have H := H1; clear H1; replace H := Option.bind_eq_some_iff.mp H; obtain ⟨t130, A70, H⟩ := H; replace H : (spec_RuneBidi.j0 k a0 t130) = some r := H; have A7 := az A70; clear A70; have H' := az H; clear H; go_wp2_with (first | ((with_reducible refine gate_callee (f := 36) rfl ?_); refine goesL_ (some 5) rfl rfl Tryz.func36 (by kernel_rfl) rfl #[.int .i64 a0, .int .i64 97, .int .i64 122] rfl zD ?_; (with_reducible refine (spec_l1In.calls a0 97 122 false _ A3.out).mono ?_); rintro e w' ⟨rfl, ⟨nd, rfl⟩⟩; refine ⟨_, rfl, ?_⟩) | (go_at_call 36; (with_reducible refine (spec_l1In.calls a0 65 90 false _ A5.out).mono ?_); rintro e w' ⟨rfl, ⟨nd, rfl⟩⟩) | (go_at_call 36; (with_reducible refine (spec_l1In.calls a0 19968 40959 t130 _ A7.out).mono ?_); rintro e w' ⟨rfl, ⟨nd, rfl⟩⟩)); go_meet
    case rel => exact ⟨_, (t130), zB, H', ⟨zK⟩, ⟨zA HB.out⟩⟩
 case rest =>
  clear HC2; (try clear c1); (try clear p2); (try clear c3); (try clear c4); (try clear c6); obtain ⟨kq, x3_1, rfl, HA, HJ1, HB⟩ := hcut
  cases kq with
  | zero => exact absurd HA.out (by simp [spec_RuneBidi.j0])
  | succ kj1 =>
   have H := HA.out; clear HA; simp only [spec_RuneBidi.j0] at H; by_cases c8 : x3_1 = true
   ·
    subst c8; have H1 : (some 1) = some r := by rw [if_pos rfl] at H; exact H
    clear H; have H := H1; clear H1; obtain rfl := Option.some.inj H; go_wp2; go_ret; exact ⟨zF, zA HB.out⟩
   ·
    replace c8 := Bool.eq_false_iff.mpr c8; subst c8; have H1 : ((spec_l1In.f a0 1488 1514).bind fun t131 => (if t131 = true then (some 2) else ((spec_l1In.f a0 1569 1610).bind fun t132 => (if t132 = true then (some 3) else ((spec_l1In.f a0 48 57).bind fun t133 => (if t133 = true then (some 4) else ((spec_l1In.f a0 1632 1641).bind fun t134 => (if t134 = true then (some 7) else ((spec_l1Signs.f kj1 a0).bind fun t135 => (some t135)))))))))) = some r := by rw [if_neg (show ¬ (false = true) by decide)] at H; exact H
    clear H; have H := H1; clear H1; replace H := Option.bind_eq_some_iff.mp H; obtain ⟨t131, A90, H⟩ := H; replace H : (if t131 = true then (some 2) else ((spec_l1In.f a0 1569 1610).bind fun t132 => (if t132 = true then (some 3) else ((spec_l1In.f a0 48 57).bind fun t133 => (if t133 = true then (some 4) else ((spec_l1In.f a0 1632 1641).bind fun t134 => (if t134 = true then (some 7) else ((spec_l1Signs.f kj1 a0).bind fun t135 => (some t135))))))))) = some r := H; have A9 := az A90; clear A90; by_cases c10 : t131 = true
    ·
     subst c10; have H1 : (some 2) = some r := by rw [if_pos rfl] at H; exact H
     clear H; have H := H1; clear H1; obtain rfl := Option.some.inj H; go_wp2_with (first | ((with_reducible refine gate_callee (f := 36) rfl ?_); refine goesL_ (some 16) rfl rfl Tryz.func36 (by kernel_rfl) rfl #[.int .i64 a0, .int .i64 1488, .int .i64 1514] rfl zD ?_; (with_reducible refine (spec_l1In.calls a0 1488 1514 true _ A9.out).mono ?_); rintro e w' ⟨rfl, ⟨nd, rfl⟩⟩; refine ⟨_, rfl, ?_⟩)); go_ret; exact ⟨zF, zA HB.out⟩
    ·
     replace c10 := Bool.eq_false_iff.mpr c10; subst c10; have H1 : ((spec_l1In.f a0 1569 1610).bind fun t132 => (if t132 = true then (some 3) else ((spec_l1In.f a0 48 57).bind fun t133 => (if t133 = true then (some 4) else ((spec_l1In.f a0 1632 1641).bind fun t134 => (if t134 = true then (some 7) else ((spec_l1Signs.f kj1 a0).bind fun t135 => (some t135)))))))) = some r := by rw [if_neg (show ¬ (false = true) by decide)] at H; exact H
     clear H; have H := H1; clear H1; replace H := Option.bind_eq_some_iff.mp H; obtain ⟨t132, A110, H⟩ := H; replace H : (if t132 = true then (some 3) else ((spec_l1In.f a0 48 57).bind fun t133 => (if t133 = true then (some 4) else ((spec_l1In.f a0 1632 1641).bind fun t134 => (if t134 = true then (some 7) else ((spec_l1Signs.f kj1 a0).bind fun t135 => (some t135))))))) = some r := H; have A11 := az A110; clear A110; by_cases c12 : t132 = true
     ·
      subst c12; have H1 : (some 3) = some r := by rw [if_pos rfl] at H; exact H
      clear H; have H := H1; clear H1; obtain rfl := Option.some.inj H; go_wp2_with (first | ((with_reducible refine gate_callee (f := 36) rfl ?_); refine goesL_ (some 16) rfl rfl Tryz.func36 (by kernel_rfl) rfl #[.int .i64 a0, .int .i64 1488, .int .i64 1514] rfl zD ?_; (with_reducible refine (spec_l1In.calls a0 1488 1514 false _ A9.out).mono ?_); rintro e w' ⟨rfl, ⟨nd, rfl⟩⟩; refine ⟨_, rfl, ?_⟩) | ((with_reducible refine gate_callee (f := 36) rfl ?_); refine goesL_ (some 19) rfl rfl Tryz.func36 (by kernel_rfl) rfl #[.int .i64 a0, .int .i64 1569, .int .i64 1610] rfl zD ?_; (with_reducible refine (spec_l1In.calls a0 1569 1610 true _ A11.out).mono ?_); rintro e w' ⟨rfl, ⟨nd, rfl⟩⟩; refine ⟨_, rfl, ?_⟩)); go_ret; exact ⟨zF, zA HB.out⟩
     ·
      replace c12 := Bool.eq_false_iff.mpr c12; subst c12; have H1 : ((spec_l1In.f a0 48 57).bind fun t133 => (if t133 = true then (some 4) else ((spec_l1In.f a0 1632 1641).bind fun t134 => (if t134 = true then (some 7) else ((spec_l1Signs.f kj1 a0).bind fun t135 => (some t135)))))) = some r := by rw [if_neg (show ¬ (false = true) by decide)] at H; exact H
      clear H; have H := H1; clear H1; replace H := Option.bind_eq_some_iff.mp H; obtain ⟨t133, A130, H⟩ := H; replace H : (if t133 = true then (some 4) else ((spec_l1In.f a0 1632 1641).bind fun t134 => (if t134 = true then (some 7) else ((spec_l1Signs.f kj1 a0).bind fun t135 => (some t135))))) = some r := H; have A13 := az A130; clear A130; by_cases c14 : t133 = true
      ·
       subst c14; have H1 : (some 4) = some r := by rw [if_pos rfl] at H; exact H
       clear H; have H := H1; clear H1; obtain rfl := Option.some.inj H; go_wp2_with (first | ((with_reducible refine gate_callee (f := 36) rfl ?_); refine goesL_ (some 16) rfl rfl Tryz.func36 (by kernel_rfl) rfl #[.int .i64 a0, .int .i64 1488, .int .i64 1514] rfl zD ?_; (with_reducible refine (spec_l1In.calls a0 1488 1514 false _ A9.out).mono ?_); rintro e w' ⟨rfl, ⟨nd, rfl⟩⟩; refine ⟨_, rfl, ?_⟩) | ((with_reducible refine gate_callee (f := 36) rfl ?_); refine goesL_ (some 19) rfl rfl Tryz.func36 (by kernel_rfl) rfl #[.int .i64 a0, .int .i64 1569, .int .i64 1610] rfl zD ?_; (with_reducible refine (spec_l1In.calls a0 1569 1610 false _ A11.out).mono ?_); rintro e w' ⟨rfl, ⟨nd, rfl⟩⟩; refine ⟨_, rfl, ?_⟩) | ((with_reducible refine gate_callee (f := 36) rfl ?_); refine goesL_ (some 22) rfl rfl Tryz.func36 (by kernel_rfl) rfl #[.int .i64 a0, .int .i64 48, .int .i64 57] rfl zD ?_; (with_reducible refine (spec_l1In.calls a0 48 57 true _ A13.out).mono ?_); rintro e w' ⟨rfl, ⟨nd, rfl⟩⟩; refine ⟨_, rfl, ?_⟩)); go_ret; exact ⟨zF, zA HB.out⟩
      ·
       replace c14 := Bool.eq_false_iff.mpr c14; subst c14; have H1 : ((spec_l1In.f a0 1632 1641).bind fun t134 => (if t134 = true then (some 7) else ((spec_l1Signs.f kj1 a0).bind fun t135 => (some t135)))) = some r := by rw [if_neg (show ¬ (false = true) by decide)] at H; exact H
       clear H; have H := H1; clear H1; replace H := Option.bind_eq_some_iff.mp H; obtain ⟨t134, A150, H⟩ := H; replace H : (if t134 = true then (some 7) else ((spec_l1Signs.f kj1 a0).bind fun t135 => (some t135))) = some r := H; have A15 := az A150; clear A150; by_cases c16 : t134 = true
       ·
        subst c16; have H1 : (some 7) = some r := by rw [if_pos rfl] at H; exact H
        clear H; have H := H1; clear H1; obtain rfl := Option.some.inj H; go_wp2_with (first | ((with_reducible refine gate_callee (f := 36) rfl ?_); refine goesL_ (some 16) rfl rfl Tryz.func36 (by kernel_rfl) rfl #[.int .i64 a0, .int .i64 1488, .int .i64 1514] rfl zD ?_; (with_reducible refine (spec_l1In.calls a0 1488 1514 false _ A9.out).mono ?_); rintro e w' ⟨rfl, ⟨nd, rfl⟩⟩; refine ⟨_, rfl, ?_⟩) | ((with_reducible refine gate_callee (f := 36) rfl ?_); refine goesL_ (some 19) rfl rfl Tryz.func36 (by kernel_rfl) rfl #[.int .i64 a0, .int .i64 1569, .int .i64 1610] rfl zD ?_; (with_reducible refine (spec_l1In.calls a0 1569 1610 false _ A11.out).mono ?_); rintro e w' ⟨rfl, ⟨nd, rfl⟩⟩; refine ⟨_, rfl, ?_⟩) | ((with_reducible refine gate_callee (f := 36) rfl ?_); refine goesL_ (some 22) rfl rfl Tryz.func36 (by kernel_rfl) rfl #[.int .i64 a0, .int .i64 48, .int .i64 57] rfl zD ?_; (with_reducible refine (spec_l1In.calls a0 48 57 false _ A13.out).mono ?_); rintro e w' ⟨rfl, ⟨nd, rfl⟩⟩; refine ⟨_, rfl, ?_⟩) | ((with_reducible refine gate_callee (f := 36) rfl ?_); refine goesL_ (some 25) rfl rfl Tryz.func36 (by kernel_rfl) rfl #[.int .i64 a0, .int .i64 1632, .int .i64 1641] rfl zD ?_; (with_reducible refine (spec_l1In.calls a0 1632 1641 true _ A15.out).mono ?_); rintro e w' ⟨rfl, ⟨nd, rfl⟩⟩; refine ⟨_, rfl, ?_⟩)); go_ret; exact ⟨zF, zA HB.out⟩
       ·
        replace c16 := Bool.eq_false_iff.mpr c16; subst c16; have H1 : ((spec_l1Signs.f kj1 a0).bind fun t135 => (some t135)) = some r := by rw [if_neg (show ¬ (false = true) by decide)] at H; exact H
        clear H; have H := H1; clear H1; replace H := Option.bind_eq_some_iff.mp H; obtain ⟨t135, A170, H⟩ := H; replace H : (some t135) = some r := H; have A17 := az A170; clear A170; obtain rfl := Option.some.inj H; go_wp2_with (first | ((with_reducible refine gate_callee (f := 36) rfl ?_); refine goesL_ (some 16) rfl rfl Tryz.func36 (by kernel_rfl) rfl #[.int .i64 a0, .int .i64 1488, .int .i64 1514] rfl zD ?_; (with_reducible refine (spec_l1In.calls a0 1488 1514 false _ A9.out).mono ?_); rintro e w' ⟨rfl, ⟨nd, rfl⟩⟩; refine ⟨_, rfl, ?_⟩) | ((with_reducible refine gate_callee (f := 36) rfl ?_); refine goesL_ (some 19) rfl rfl Tryz.func36 (by kernel_rfl) rfl #[.int .i64 a0, .int .i64 1569, .int .i64 1610] rfl zD ?_; (with_reducible refine (spec_l1In.calls a0 1569 1610 false _ A11.out).mono ?_); rintro e w' ⟨rfl, ⟨nd, rfl⟩⟩; refine ⟨_, rfl, ?_⟩) | ((with_reducible refine gate_callee (f := 36) rfl ?_); refine goesL_ (some 22) rfl rfl Tryz.func36 (by kernel_rfl) rfl #[.int .i64 a0, .int .i64 48, .int .i64 57] rfl zD ?_; (with_reducible refine (spec_l1In.calls a0 48 57 false _ A13.out).mono ?_); rintro e w' ⟨rfl, ⟨nd, rfl⟩⟩; refine ⟨_, rfl, ?_⟩) | ((with_reducible refine gate_callee (f := 36) rfl ?_); refine goesL_ (some 25) rfl rfl Tryz.func36 (by kernel_rfl) rfl #[.int .i64 a0, .int .i64 1632, .int .i64 1641] rfl zD ?_; (with_reducible refine (spec_l1In.calls a0 1632 1641 false _ A15.out).mono ?_); rintro e w' ⟨rfl, ⟨nd, rfl⟩⟩; refine ⟨_, rfl, ?_⟩) | ((with_reducible refine gate_callee (f := 144) rfl ?_); refine goesL_ (some 27) rfl rfl Tryz.func144 (by kernel_rfl) rfl #[.int .i64 a0] rfl zD ?_; (with_reducible refine (spec_l1Signs.calls kj1 a0 t135 _ A17.out).mono ?_); rintro e w18 ⟨rfl, hb⟩; refine ⟨_, rfl, ?_⟩; have n0_ := az (below_step (zA HB.out) hb); clear HB; have HB := n0_; clear n0_; (try clear hb); (try clear hb2); (try clear hk); (try clear hi))); go_ret; exact ⟨zF, zA HB.out⟩
def spec_l2Flag.f (a0 : Int) : Option (Bool) := (spec_l1In.f a0 127462 127487).bind fun t136 => (some t136)
theorem spec_l2Flag.calls (a0 : Int) (r : Bool) (w : World) (h : spec_l2Flag.f a0 = some r) :
  Calls Tryz.prog 138 #[.int .i64 a0] w fun e w' => e = .returned (.bool r) ∧ Drawn0 w w' := by
 have H : ((spec_l1In.f a0 127462 127487).bind fun t136 => (some t136)) = some r := h
 clear h
 replace H := Option.bind_eq_some_iff.mp H
 obtain ⟨t136, A20, H⟩ := H
 replace H : (some t136) = some r := H
 have A2 := az A20
 clear A20
 obtain rfl := Option.some.inj H
 go_enter Tryz.func138, Tryz.ntmps138
 go_wp2_with (first | ((with_reducible refine gate_callee (f := 36) rfl ?_); refine goesL_ (some 4) rfl rfl Tryz.func36 (by kernel_rfl) rfl #[.int .i64 a0, .int .i64 127462, .int .i64 127487] rfl (by (try simp only [List.map_toArray, List.map_cons, List.map_nil]); first | done | rfl | (simp only [List.length_drop, List.length_take]; rfl)) ?_; (with_reducible refine (spec_l1In.calls a0 127462 127487 t136 _ A2.out).mono ?_); rintro e w' ⟨rfl, ⟨nd, rfl⟩⟩; refine ⟨_, rfl, ?_⟩))
 go_ret
 exact ⟨zB, zE⟩
mutual
def spec_l2Joins.j0 : Nat → List Int → Int → Int → Bool → Option (Bool)
 | 0, _, _, _, _ => none
 | k + 1, x0, x1, x5, x21 => if x21 = true then (if 0 ≤ (wrap64 (x1 - 1)) then (if (wrap64 (x1 - 1)) < (x0.length : Int) then (if (rd x0 (wrap64 (x1 - 1))) = 13 then (some (x5 == 10)) else (some false)) else (none)) else (none)) else ((spec_RuneBidi.f k x5).bind fun t140 => (if t140 = 9 then (spec_l2Joins.j1 k x0 x1 x5 true) else (spec_l2Joins.j1 k x0 x1 x5 (x5 == 8205))))
def spec_l2Joins.j1 : Nat → List Int → Int → Int → Bool → Option (Bool)
 | 0, _, _, _, _ => none
 | k + 1, x0, x1, x5, x38 => if x38 = true then (some true) else (spec_l2Joins.l0 k x0 x5 0 (wrap64 (x1 - 1)))
def spec_l2Joins.l0 : Nat → List Int → Int → Int → Int → Option (Bool)
 | 0, _, _, _, _ => none
 | k + 1, x0, x5, x6, x7 => if x7 ≥ 0 then (if 0 ≤ x7 then (if x7 < (x0.length : Int) then ((spec_l2Flag.f (rd x0 x7)).bind fun t142 => (if t142 = true then (spec_l2Joins.l0 k x0 x5 (wrap64 (x6 + 1)) (wrap64 (x7 - 1))) else ((spec_l2Flag.f x5).bind fun t143 => (if t143 = true then (some ((Int.tmod x6 2) == 1)) else (some false))))) else (none)) else (none)) else ((spec_l2Flag.f x5).bind fun t144 => (if t144 = true then (some ((Int.tmod x6 2) == 1)) else (some false)))
end
def spec_l2Joins.f (k : Nat) (l0 : List Int) (a1 : Int) : Option (Bool) := if 0 ≤ a1 then (if a1 < (l0.length : Int) then (if (rd l0 a1) = 10 then (spec_l2Joins.j0 k l0 a1 (rd l0 a1) true) else (if 0 ≤ (wrap64 (a1 - 1)) then (if (wrap64 (a1 - 1)) < (l0.length : Int) then (spec_l2Joins.j0 k l0 a1 (rd l0 a1) ((rd l0 (wrap64 (a1 - 1))) == 10)) else (none)) else (none))) else (none)) else (none)
theorem spec_l2Joins.mono_l : ∀ k, (∀ y0 y1 y2 y3, LeO (spec_l2Joins.j0 k y0 y1 y2 y3) (spec_l2Joins.j0 (k + 1) y0 y1 y2 y3)) ∧ (∀ y0 y1 y2 y3, LeO (spec_l2Joins.j1 k y0 y1 y2 y3) (spec_l2Joins.j1 (k + 1) y0 y1 y2 y3)) ∧ (∀ y0 y1 y2 y3, LeO (spec_l2Joins.l0 k y0 y1 y2 y3) (spec_l2Joins.l0 (k + 1) y0 y1 y2 y3))
 | 0 => ⟨fun _ _ _ _ r h => by simp [spec_l2Joins.j0] at h, fun _ _ _ _ r h => by simp [spec_l2Joins.j1] at h, fun _ _ _ _ r h => by simp [spec_l2Joins.l0] at h⟩
 | k + 1 => by
  obtain ⟨ih0, ih1, ih2⟩ := spec_l2Joins.mono_l k; refine ⟨?_, ?_, ?_⟩
  ·
   intro y0 y1 y2 y3; unfold spec_l2Joins.j0
   repeat' first
   | (with_reducible exact ih0 _ _ _ _)
   | (with_reducible exact ih1 _ _ _ _)
   | (with_reducible exact ih2 _ _ _ _)
   | (with_reducible exact spec_RuneBidi.mono _ _)
   | (with_reducible exact LeO.refl _)
   | (with_reducible exact LeO.none _)
   | (with_reducible refine LeO.ite ?_ ?_)
   | (with_reducible refine LeO.bind ?_ (fun _ => ?_))
   | exact ih0 _ _ _ _
   | exact ih1 _ _ _ _
   | exact ih2 _ _ _ _
   | exact spec_RuneBidi.mono _ _
   | exact LeO.none _
   | refine LeO.ite ?_ ?_
   | refine LeO.bind ?_ (fun _ => ?_)
  ·
   intro y0 y1 y2 y3; unfold spec_l2Joins.j1
   repeat' first
   | (with_reducible exact ih0 _ _ _ _)
   | (with_reducible exact ih1 _ _ _ _)
   | (with_reducible exact ih2 _ _ _ _)
   | (with_reducible exact spec_RuneBidi.mono _ _)
   | (with_reducible exact LeO.refl _)
   | (with_reducible exact LeO.none _)
   | (with_reducible refine LeO.ite ?_ ?_)
   | (with_reducible refine LeO.bind ?_ (fun _ => ?_))
   | exact ih0 _ _ _ _
   | exact ih1 _ _ _ _
   | exact ih2 _ _ _ _
   | exact spec_RuneBidi.mono _ _
   | exact LeO.none _
   | refine LeO.ite ?_ ?_
   | refine LeO.bind ?_ (fun _ => ?_)
  ·
   intro y0 y1 y2 y3; unfold spec_l2Joins.l0
   repeat' first
   | (with_reducible exact ih0 _ _ _ _)
   | (with_reducible exact ih1 _ _ _ _)
   | (with_reducible exact ih2 _ _ _ _)
   | (with_reducible exact spec_RuneBidi.mono _ _)
   | (with_reducible exact LeO.refl _)
   | (with_reducible exact LeO.none _)
   | (with_reducible refine LeO.ite ?_ ?_)
   | (with_reducible refine LeO.bind ?_ (fun _ => ?_))
   | exact ih0 _ _ _ _
   | exact ih1 _ _ _ _
   | exact ih2 _ _ _ _
   | exact spec_RuneBidi.mono _ _
   | exact LeO.none _
   | refine LeO.ite ?_ ?_
   | refine LeO.bind ?_ (fun _ => ?_)
theorem spec_l2Joins.mono : ∀ a0 a1 k, LeO (spec_l2Joins.f k a0 a1) (spec_l2Joins.f (k + 1) a0 a1) := by
 intro a0 a1 k; obtain ⟨ih0, ih1, ih2⟩ := spec_l2Joins.mono_l k; unfold spec_l2Joins.f
 repeat' first
   | (with_reducible exact ih0 _ _ _ _)
   | (with_reducible exact ih1 _ _ _ _)
   | (with_reducible exact ih2 _ _ _ _)
   | (with_reducible exact spec_RuneBidi.mono _ _)
   | (with_reducible exact LeO.refl _)
   | (with_reducible exact LeO.none _)
   | (with_reducible refine LeO.ite ?_ ?_)
   | (with_reducible refine LeO.bind ?_ (fun _ => ?_))
   | exact ih0 _ _ _ _
   | exact ih1 _ _ _ _
   | exact ih2 _ _ _ _
   | exact spec_RuneBidi.mono _ _
   | exact LeO.none _
   | refine LeO.ite ?_ ?_
   | refine LeO.bind ?_ (fun _ => ?_)
theorem spec_l2Joins.calls (k : Nat) (A0 : Option Addr) (c0 : Nat) (l0 : List Int) (a1 : Int) (r : Bool) (w : World) (hr0 : Kd.C (Kd.int .i64) w A0 l0.length l0) (hc0 : l0.length ≤ c0) (h : spec_l2Joins.f k l0 a1 = some r) :
  Calls Tryz.prog 124 #[.slice A0 l0.length c0, .int .i64 a1] w fun e w' => e = .returned (.bool r) ∧ Below w.heap.size w w' := by
 have HR0 := az hr0; have HC0 := az hc0; clear hr0 hc0; have HB := az (Below.refl w.heap.size w); have H : (if 0 ≤ a1 then (if a1 < (l0.length : Int) then (if (rd l0 a1) = 10 then (spec_l2Joins.j0 k l0 a1 (rd l0 a1) true) else (if 0 ≤ (wrap64 (a1 - 1)) then (if (wrap64 (a1 - 1)) < (l0.length : Int) then (spec_l2Joins.j0 k l0 a1 (rd l0 a1) ((rd l0 (wrap64 (a1 - 1))) == 10)) else (none)) else (none))) else (none)) else (none)) = some r := h; clear h; by_cases c3 : 0 ≤ a1
 ·
  rw [if_pos c3] at H; have c3b0 : decide (0 ≤ a1) = true := decide_eq_true c3; clear c3; by_cases c4 : a1 < (l0.length : Int)
  ·
   rw [if_pos c4] at H; have c4b0 : decide (a1 < (l0.length : Int)) = true := decide_eq_true c4; clear c4; have HC5 := az H; clear H; have p137 : 0 ≤ (a1 : Int) := of_decide_eq_true (by assumption); have q137 : a1 < (l0.length : Int) := of_decide_eq_true (by assumption); obtain ⟨ad137, e137, hx137_0⟩ := Kd.at_int HR0.out a1 p137 q137
   cases e137
   replace p137 := eq_true p137; replace q137 := eq_true q137; go_enter Tryz.func124, Tryz.ntmps124; go_upto_region 2 with (fail)
   go_cut [21] (fun v21 wc => ∃ (kq : Nat) (x21_4 : Bool), v21 = .bool x21_4 ∧ Aside0 (spec_l2Joins.j0 kq l0 a1 (rd l0 a1) x21_4 = some r) ∧ Aside0 (kq ≤ k) ∧ Aside0 (Below w.heap.size w wc))
   case first =>
    have H := HC5.out; clear HC5; by_cases c6 : (rd l0 a1) = 10
    ·
     rw [if_pos c6] at H; have c6b0 : ((rd l0 a1) == 10) = true := beq_iff_eq.mpr c6; have c6b1 : ((rd l0 a1) != 10) = false := bne_eq_false_iff_eq.mpr c6; clear c6; (first | rw [c6b0] | (simp only [i64_w, i32_w]; rw [c6b0]) | skip); have H' := az H; clear H; go_wp2; go_meet
     case rel => exact ⟨_, (true), zB, H', ⟨zK⟩, ⟨zA HB.out⟩⟩
    ·
     rw [if_neg c6] at H; have c6b0 : ((rd l0 a1) == 10) = false := beq_eq_false_iff_ne.mpr c6; have c6b1 : ((rd l0 a1) != 10) = true := bne_iff_ne.mpr c6; (first | rw [c6b0] | (simp only [i64_w, i32_w]; rw [c6b0]) | skip); obtain ⟨ji7, hji7⟩ : ∃ j_ : Int, (wrap64 (a1 - 1)) = j_ := ⟨_, rfl⟩; replace H : (if 0 ≤ (ji7) then (if (ji7) < (l0.length : Int) then (spec_l2Joins.j0 k l0 a1 (rd l0 a1) ((rd l0 (ji7)) == 10)) else (none)) else (none)) = some r := by first | (rw [hji7] at H; exact H) | (simp only [hji7] at H ⊢; exact H)
     have hji7w : (IntKind.i64.wrap (a1 - 1)) = ji7 := (i64_w _).trans hji7; by_cases c8 : 0 ≤ (ji7)
     ·
      rw [if_pos c8] at H; have c8b0 : decide (0 ≤ (ji7)) = true := decide_eq_true c8; clear c8; by_cases c9 : (ji7) < (l0.length : Int)
      ·
       rw [if_pos c9] at H; have c9b0 : decide ((ji7) < (l0.length : Int)) = true := decide_eq_true c9; clear c9; have H' := az H; clear H; have p138 : 0 ≤ ((ji7) : Int) := of_decide_eq_true (by assumption); have q138 : (ji7) < (l0.length : Int) := of_decide_eq_true (by assumption); obtain ⟨ad138, e138, hx138_0⟩ := Kd.at_int HR0.out (ji7) p138 q138; obtain rfl : ad137 = ad138 := (by injection e138); replace hx138_0 := (HB.out.cell (World.block_lt_of_cell? w _ hx138_0)).trans hx138_0; replace p138 := eq_true p138; replace q138 := eq_true q138; go_wp2; go_meet
       case rel => exact ⟨_, (((rd l0 (ji7)) == 10)), (by first | rfl | (simp; done) | (simp only [← hji7] <;> (first | rfl | simp)) | (simp [*]; done)), H', ⟨zK⟩, ⟨zA HB.out⟩⟩
      ·
       rw [if_neg c9] at H; exact absurd H (by simp)
     ·
      rw [if_neg c8] at H; exact absurd H (by simp)
   case rest =>
    clear HC5; (try clear c1); (try clear p1); (try clear q1); (try clear hx1); (try clear p2); (try clear c3); (try clear c3b0); (try clear c4); (try clear c4b0); (try clear c6); (try clear c6b0); (try clear c6b1); (try clear p6); (try clear c8); (try clear c8b0); (try clear c9); (try clear c9b0); (try clear hx137_0); (try clear hx138_0); (try clear p137); (try clear p138); (try clear q137); (try clear q138); obtain ⟨kq, x21_4, rfl, HA, HJ4, HB⟩ := hcut
    cases kq with
    | zero => exact absurd HA.out (by simp [spec_l2Joins.j0])
    | succ kj4 =>
     have H := HA.out; clear HA; simp only [spec_l2Joins.j0] at H; by_cases c10 : x21_4 = true
     ·
      subst c10; have H1 : (if 0 ≤ (wrap64 (a1 - 1)) then (if (wrap64 (a1 - 1)) < (l0.length : Int) then (if (rd l0 (wrap64 (a1 - 1))) = 13 then (some ((rd l0 a1) == 10)) else (some false)) else (none)) else (none)) = some r := by rw [if_pos rfl] at H; exact H
      clear H; have H := H1; clear H1; obtain ⟨ji11, hji11⟩ : ∃ j_ : Int, (wrap64 (a1 - 1)) = j_ := ⟨_, rfl⟩; replace H : (if 0 ≤ (ji11) then (if (ji11) < (l0.length : Int) then (if (rd l0 (ji11)) = 13 then (some ((rd l0 a1) == 10)) else (some false)) else (none)) else (none)) = some r := by first | (rw [hji11] at H; exact H) | (simp only [hji11] at H ⊢; exact H)
      have hji11w : (IntKind.i64.wrap (a1 - 1)) = ji11 := (i64_w _).trans hji11; by_cases c12 : 0 ≤ (ji11)
      ·
       rw [if_pos c12] at H; have c12b0 : decide (0 ≤ (ji11)) = true := decide_eq_true c12; clear c12; by_cases c13 : (ji11) < (l0.length : Int)
       ·
        rw [if_pos c13] at H; have c13b0 : decide ((ji11) < (l0.length : Int)) = true := decide_eq_true c13; clear c13; by_cases c14 : (rd l0 (ji11)) = 13
        ·
         rw [if_pos c14] at H; have c14b0 : ((rd l0 (ji11)) == 13) = true := beq_iff_eq.mpr c14; have c14b1 : ((rd l0 (ji11)) != 13) = false := bne_eq_false_iff_eq.mpr c14; clear c14; obtain rfl := Option.some.inj H; have p139 : 0 ≤ ((ji11) : Int) := of_decide_eq_true (by assumption); have q139 : (ji11) < (l0.length : Int) := of_decide_eq_true (by assumption); obtain ⟨ad139, e139, hx139_0⟩ := Kd.at_int HR0.out (ji11) p139 q139; obtain rfl : ad137 = ad139 := (by injection e139); replace hx139_0 := (HB.out.cell (World.block_lt_of_cell? w _ hx139_0)).trans hx139_0; replace p139 := eq_true p139; replace q139 := eq_true q139; go_wp2; go_ret; exact ⟨by first | rfl | (simp [errW_none, errW_some] <;> rfl) | (simp only [← hji11]; first | rfl | (simp [errW_none, errW_some] <;> rfl)) | (simp [*, errW_none, errW_some] <;> rfl), zA HB.out⟩
        ·
         rw [if_neg c14] at H; have c14b0 : ((rd l0 (ji11)) == 13) = false := beq_eq_false_iff_ne.mpr c14; have c14b1 : ((rd l0 (ji11)) != 13) = true := bne_iff_ne.mpr c14; obtain rfl := Option.some.inj H; have p139 : 0 ≤ ((ji11) : Int) := of_decide_eq_true (by assumption); have q139 : (ji11) < (l0.length : Int) := of_decide_eq_true (by assumption); obtain ⟨ad139, e139, hx139_0⟩ := Kd.at_int HR0.out (ji11) p139 q139; obtain rfl : ad137 = ad139 := (by injection e139); replace hx139_0 := (HB.out.cell (World.block_lt_of_cell? w _ hx139_0)).trans hx139_0; replace p139 := eq_true p139; replace q139 := eq_true q139; go_wp2; go_ret; exact ⟨by first | rfl | (simp [errW_none, errW_some] <;> rfl) | (simp only [← hji11]; first | rfl | (simp [errW_none, errW_some] <;> rfl)) | (simp [*, errW_none, errW_some] <;> rfl), zA HB.out⟩
       ·
        rw [if_neg c13] at H; exact absurd H (by simp)
      ·
       rw [if_neg c12] at H; exact absurd H (by simp)
     ·
      replace c10 := Bool.eq_false_iff.mpr c10; subst c10; have H1 : ((spec_RuneBidi.f kj4 (rd l0 a1)).bind fun t140 => (if t140 = 9 then (spec_l2Joins.j1 kj4 l0 a1 (rd l0 a1) true) else (spec_l2Joins.j1 kj4 l0 a1 (rd l0 a1) ((rd l0 a1) == 8205)))) = some r := by rw [if_neg (show ¬ (false = true) by decide)] at H; exact H
      clear H; have H := H1; clear H1; have HC15 := az H; clear H; go_upto_region 4 with (fail)
      go_cut [38] (fun v38 wc => ∃ (kq : Nat) (x38_14 : Bool), v38 = .bool x38_14 ∧ Aside0 (spec_l2Joins.j1 kq l0 a1 (rd l0 a1) x38_14 = some r) ∧ Aside0 (kq ≤ kj4) ∧ Aside0 (Below w.heap.size w wc))
      case first =>
       have H := HC15.out; clear HC15; replace H := Option.bind_eq_some_iff.mp H; obtain ⟨t140, A160, H⟩ := H; replace H : (if t140 = 9 then (spec_l2Joins.j1 kj4 l0 a1 (rd l0 a1) true) else (spec_l2Joins.j1 kj4 l0 a1 (rd l0 a1) ((rd l0 a1) == 8205))) = some r := H; have A16 := az A160; clear A160; by_cases c17 : t140 = 9
       ·
        rw [if_pos c17] at H; have c17b0 : (t140 == 9) = true := beq_iff_eq.mpr c17; have c17b1 : (t140 != 9) = false := bne_eq_false_iff_eq.mpr c17; clear c17; (first | rw [c17b0] | (simp only [i64_w, i32_w]; rw [c17b0]) | skip); have H' := az H; clear H; go_wp2_with (first | ((with_reducible refine gate_callee (f := 137) rfl ?_); refine goesL_ (some 33) rfl rfl Tryz.func137 (by kernel_rfl) rfl #[.int .i64 (rd l0 a1)] rfl zD ?_; (with_reducible refine (spec_RuneBidi.calls kj4 (rd l0 a1) t140 _ A16.out).mono ?_); rintro e w18 ⟨rfl, hb⟩; refine ⟨_, rfl, ?_⟩; have n0_ := az (below_step (zA HB.out) hb); clear HB; have HB := n0_; clear n0_; (try clear hb); (try clear hb2); (try clear hk); (try clear hi))); go_meet
        case rel => exact ⟨_, (true), zB, H', ⟨zL HJ4.out⟩, ⟨zA HB.out⟩⟩
       ·
        rw [if_neg c17] at H; have c17b0 : (t140 == 9) = false := beq_eq_false_iff_ne.mpr c17; have c17b1 : (t140 != 9) = true := bne_iff_ne.mpr c17; (first | rw [c17b0] | (simp only [i64_w, i32_w]; rw [c17b0]) | skip); have H' := az H; clear H; go_wp2_with (first | ((with_reducible refine gate_callee (f := 137) rfl ?_); refine goesL_ (some 33) rfl rfl Tryz.func137 (by kernel_rfl) rfl #[.int .i64 (rd l0 a1)] rfl zD ?_; (with_reducible refine (spec_RuneBidi.calls kj4 (rd l0 a1) t140 _ A16.out).mono ?_); rintro e w19 ⟨rfl, hb⟩; refine ⟨_, rfl, ?_⟩; have n0_ := az (below_step (zA HB.out) hb); clear HB; have HB := n0_; clear n0_; (try clear hb); (try clear hb2); (try clear hk); (try clear hi))); go_meet
        case rel => exact ⟨_, (((rd l0 a1) == 8205)), zB, H', ⟨zL HJ4.out⟩, ⟨zA HB.out⟩⟩
      case rest =>
       clear HC15; (try clear c1); (try clear p1); (try clear q1); (try clear hx1); (try clear p2); (try clear c3); (try clear c3b0); (try clear c4); (try clear c4b0); (try clear c6); (try clear c6b0); (try clear c6b1); (try clear p6); (try clear c8); (try clear c8b0); (try clear c9); (try clear c9b0); (try clear c10); (try clear c12); (try clear c12b0); (try clear c13); (try clear c13b0); (try clear p13); (try clear q13); (try clear hx13); (try clear c14); (try clear c14b0); (try clear c14b1); (try clear c17); (try clear c17b0); (try clear c17b1); (try clear hx137_0); (try clear hx138_0); (try clear hx139_0); (try clear p1); (try clear p137); (try clear p138); (try clear p139); (try clear p2); (try clear p6); (try clear q1); (try clear q137); (try clear q138); (try clear q139); obtain ⟨kq, x38_14, rfl, HA, HJ14, HB⟩ := hcut
       cases kq with
       | zero => exact absurd HA.out (by simp [spec_l2Joins.j1])
       | succ kj14 =>
        have H := HA.out; clear HA; simp only [spec_l2Joins.j1] at H; by_cases c20 : x38_14 = true
        ·
         subst c20; have H1 : (some true) = some r := by rw [if_pos rfl] at H; exact H
         clear H; have H := H1; clear H1; obtain rfl := Option.some.inj H; go_wp2; go_ret; exact ⟨zF, zA HB.out⟩
        ·
         replace c20 := Bool.eq_false_iff.mpr c20; subst c20; have H1 : (spec_l2Joins.l0 kj14 l0 (rd l0 a1) 0 (wrap64 (a1 - 1))) = some r := by rw [if_neg (show ¬ (false = true) by decide)] at H; exact H
         clear H; have H := H1; clear H1; have H' := az H; clear H; go_wp2; go_loopg [6, 7] kj14 (fun kq v6 v7 w' => ∃ (x6_3 : Int) (x7_3 : Int), v6 = .int .i64 x6_3 ∧ v7 = .int .i64 x7_3 ∧ Aside0 (spec_l2Joins.l0 kq l0 (rd l0 a1) x6_3 x7_3 = some r) ∧ Aside0 (kq ≤ kj14) ∧ Aside0 (Below w.heap.size w w'))
         case atStart => exact ⟨(0), (wrap64 (a1 - 1)), zB, zB, H', ⟨Nat.le_refl _⟩, ⟨zA HB.out⟩⟩
         case round =>
          clear H'; (try clear c1); (try clear p1); (try clear q1); (try clear hx1); (try clear c2); (try clear p2); (try clear c3); (try clear c3b0); (try clear c4); (try clear c4b0); (try clear c6); (try clear c6b0); (try clear c6b1); (try clear p6); (try clear c8); (try clear c8b0); (try clear c9); (try clear c9b0); (try clear c10); (try clear c12); (try clear c12b0); (try clear c13); (try clear c13b0); (try clear p13); (try clear q13); (try clear hx13); (try clear c14); (try clear c14b0); (try clear c14b1); (try clear c17); (try clear c17b0); (try clear c17b1); (try clear c20); (try clear hx137_0); (try clear hx138_0); (try clear hx139_0); (try clear p1); (try clear p13); (try clear p137); (try clear p138); (try clear p139); (try clear p2); (try clear p6); (try clear q1); (try clear q13); (try clear q137); (try clear q138); (try clear q139); obtain ⟨x6_3, x7_3, rfl, rfl, HA, HK3, HB⟩ := hrel
          cases gk with
          | zero => exact absurd HA.out (by simp [spec_l2Joins.l0])
          | succ k3 =>
           have H := HA.out; clear HA; simp only [spec_l2Joins.l0] at H; by_cases c21 : x7_3 ≥ 0
           ·
            rw [if_pos c21] at H; have c21b0 : decide (0 ≤ x7_3) = true := decide_eq_true c21; clear c21; by_cases c22 : 0 ≤ x7_3
            ·
             rw [if_pos c22] at H; have c22b0 : decide (0 ≤ x7_3) = true := decide_eq_true c22; clear c22; by_cases c23 : x7_3 < (l0.length : Int)
             ·
              rw [if_pos c23] at H; have c23b0 : decide (x7_3 < (l0.length : Int)) = true := decide_eq_true c23; clear c23; replace H := Option.bind_eq_some_iff.mp H; obtain ⟨t142, A240, H⟩ := H; replace H : (if t142 = true then (spec_l2Joins.l0 k3 l0 (rd l0 a1) (wrap64 (x6_3 + 1)) (wrap64 (x7_3 - 1))) else ((spec_l2Flag.f (rd l0 a1)).bind fun t143 => (if t143 = true then (some ((Int.tmod x6_3 2) == 1)) else (some false)))) = some r := H; have A24 := az A240; clear A240; by_cases c25 : t142 = true
              ·
               subst c25; have H1 : (spec_l2Joins.l0 k3 l0 (rd l0 a1) (wrap64 (x6_3 + 1)) (wrap64 (x7_3 - 1))) = some r := by rw [if_pos rfl] at H; exact H
               clear H; have H := H1; clear H1; have H' := az H; clear H; have p141 : 0 ≤ (x7_3 : Int) := of_decide_eq_true (by assumption); have q141 : x7_3 < (l0.length : Int) := of_decide_eq_true (by assumption); obtain ⟨ad141, e141, hx141_0⟩ := Kd.at_int HR0.out x7_3 p141 q141; obtain rfl : ad137 = ad141 := (by injection e141); replace hx141_0 := (HB.out.cell (World.block_lt_of_cell? w _ hx141_0)).trans hx141_0; replace p141 := eq_true p141; replace q141 := eq_true q141; go_wp2_with (first | (go_at_call 138; (with_reducible refine (spec_l2Flag.calls (rd l0 x7_3) true _ A24.out).mono ?_); rintro e w' ⟨rfl, ⟨nd, rfl⟩⟩)); go_roundg k3
               case measure => have := HJ4.out; have := HJ14.out; have := HK3.out; omega
               case rel => exact ⟨(wrap64 (x6_3 + 1)), (wrap64 (x7_3 - 1)), zB, zB, H', ⟨by have := HJ4.out; have := HJ14.out; have := HK3.out; omega⟩, ⟨zA HB.out⟩⟩
              ·
               replace c25 := Bool.eq_false_iff.mpr c25; subst c25; have H1 : ((spec_l2Flag.f (rd l0 a1)).bind fun t143 => (if t143 = true then (some ((Int.tmod x6_3 2) == 1)) else (some false))) = some r := by rw [if_neg (show ¬ (false = true) by decide)] at H; exact H
               clear H; have H := H1; clear H1; replace H := Option.bind_eq_some_iff.mp H; obtain ⟨t143, A260, H⟩ := H; replace H : (if t143 = true then (some ((Int.tmod x6_3 2) == 1)) else (some false)) = some r := H; have A26 := az A260; clear A260; by_cases c27 : t143 = true
               ·
                subst c27; have H1 : (some ((Int.tmod x6_3 2) == 1)) = some r := by rw [if_pos rfl] at H; exact H
                clear H; have H := H1; clear H1; obtain rfl := Option.some.inj H; have p141 : 0 ≤ (x7_3 : Int) := of_decide_eq_true (by assumption); have q141 : x7_3 < (l0.length : Int) := of_decide_eq_true (by assumption); obtain ⟨ad141, e141, hx141_0⟩ := Kd.at_int HR0.out x7_3 p141 q141; obtain rfl : ad137 = ad141 := (by injection e141); replace hx141_0 := (HB.out.cell (World.block_lt_of_cell? w _ hx141_0)).trans hx141_0; replace p141 := eq_true p141; replace q141 := eq_true q141; go_wp2_with (first | (go_at_call 138; (with_reducible refine (spec_l2Flag.calls (rd l0 x7_3) false _ A24.out).mono ?_); rintro e w' ⟨rfl, ⟨nd, rfl⟩⟩) | ((with_reducible refine gate_callee (f := 138) rfl ?_); refine goesL_ (some 55) rfl rfl Tryz.func138 (by kernel_rfl) rfl #[.int .i64 (rd l0 a1)] rfl zD ?_; (with_reducible refine (spec_l2Flag.calls (rd l0 a1) true _ A26.out).mono ?_); rintro e w' ⟨rfl, ⟨nd, rfl⟩⟩; refine ⟨_, rfl, ?_⟩)); go_ret; exact ⟨zF, zA HB.out⟩
               ·
                replace c27 := Bool.eq_false_iff.mpr c27; subst c27; have H1 : (some false) = some r := by rw [if_neg (show ¬ (false = true) by decide)] at H; exact H
                clear H; have H := H1; clear H1; obtain rfl := Option.some.inj H; have p141 : 0 ≤ (x7_3 : Int) := of_decide_eq_true (by assumption); have q141 : x7_3 < (l0.length : Int) := of_decide_eq_true (by assumption); obtain ⟨ad141, e141, hx141_0⟩ := Kd.at_int HR0.out x7_3 p141 q141; obtain rfl : ad137 = ad141 := (by injection e141); replace hx141_0 := (HB.out.cell (World.block_lt_of_cell? w _ hx141_0)).trans hx141_0; replace p141 := eq_true p141; replace q141 := eq_true q141; go_wp2_with (first | (go_at_call 138; (with_reducible refine (spec_l2Flag.calls (rd l0 x7_3) false _ A24.out).mono ?_); rintro e w' ⟨rfl, ⟨nd, rfl⟩⟩) | ((with_reducible refine gate_callee (f := 138) rfl ?_); refine goesL_ (some 55) rfl rfl Tryz.func138 (by kernel_rfl) rfl #[.int .i64 (rd l0 a1)] rfl zD ?_; (with_reducible refine (spec_l2Flag.calls (rd l0 a1) false _ A26.out).mono ?_); rintro e w' ⟨rfl, ⟨nd, rfl⟩⟩; refine ⟨_, rfl, ?_⟩)); go_ret; exact ⟨zF, zA HB.out⟩
             ·
              rw [if_neg c23] at H; exact absurd H (by simp)
            ·
             rw [if_neg c22] at H; exact absurd H (by simp)
           ·
            rw [if_neg c21] at H; have c21b0 : decide (0 ≤ x7_3) = false := decide_eq_false c21; clear c21; replace H := Option.bind_eq_some_iff.mp H; obtain ⟨t144, A280, H⟩ := H; replace H : (if t144 = true then (some ((Int.tmod x6_3 2) == 1)) else (some false)) = some r := H; have A28 := az A280; clear A280; by_cases c29 : t144 = true
            ·
             subst c29; have H1 : (some ((Int.tmod x6_3 2) == 1)) = some r := by rw [if_pos rfl] at H; exact H
             clear H; have H := H1; clear H1; obtain rfl := Option.some.inj H; go_wp2_with (first | ((with_reducible refine gate_callee (f := 138) rfl ?_); refine goesL_ (some 55) rfl rfl Tryz.func138 (by kernel_rfl) rfl #[.int .i64 (rd l0 a1)] rfl zD ?_; (with_reducible refine (spec_l2Flag.calls (rd l0 a1) true _ A28.out).mono ?_); rintro e w' ⟨rfl, ⟨nd, rfl⟩⟩; refine ⟨_, rfl, ?_⟩)); go_ret; exact ⟨zF, zA HB.out⟩
            ·
             replace c29 := Bool.eq_false_iff.mpr c29; subst c29; have H1 : (some false) = some r := by rw [if_neg (show ¬ (false = true) by decide)] at H; exact H
             clear H; have H := H1; clear H1; obtain rfl := Option.some.inj H; go_wp2_with (first | ((with_reducible refine gate_callee (f := 138) rfl ?_); refine goesL_ (some 55) rfl rfl Tryz.func138 (by kernel_rfl) rfl #[.int .i64 (rd l0 a1)] rfl zD ?_; (with_reducible refine (spec_l2Flag.calls (rd l0 a1) false _ A28.out).mono ?_); rintro e w' ⟨rfl, ⟨nd, rfl⟩⟩; refine ⟨_, rfl, ?_⟩)); go_ret; exact ⟨zF, zA HB.out⟩
  ·
   rw [if_neg c4] at H; exact absurd H (by simp)
 ·
  rw [if_neg c3] at H; exact absurd H (by simp)
def spec_l2At.l0 : Nat → List Int → Int → Option (Int)
 | 0, _, _ => none
 | k + 1, x0, x1 => if x1 > 0 then ((spec_l2Joins.f k x0 x1).bind fun t145 => (if t145 = true then (spec_l2At.l0 k x0 (wrap64 (x1 - 1))) else (some x1))) else (some x1)
def spec_l2At.f (k : Nat) (l0 : List Int) (a1 : Int) : Option (Int) := spec_l2At.l0 k l0 a1
theorem spec_l2At.mono_l : ∀ k, (∀ y0 y1, LeO (spec_l2At.l0 k y0 y1) (spec_l2At.l0 (k + 1) y0 y1))
 | 0 => fun _ _ r h => by simp [spec_l2At.l0] at h
 | k + 1 => by
  have ih0 := spec_l2At.mono_l k
  ·
   intro y0 y1; unfold spec_l2At.l0
   repeat' first
   | (with_reducible exact ih0 _ _)
   | (with_reducible exact spec_l2Joins.mono _ _ _)
   | (with_reducible exact LeO.refl _)
   | (with_reducible exact LeO.none _)
   | (with_reducible refine LeO.ite ?_ ?_)
   | (with_reducible refine LeO.bind ?_ (fun _ => ?_))
   | exact ih0 _ _
   | exact spec_l2Joins.mono _ _ _
   | exact LeO.none _
   | refine LeO.ite ?_ ?_
   | refine LeO.bind ?_ (fun _ => ?_)
theorem spec_l2At.mono : ∀ a0 a1 k, LeO (spec_l2At.f k a0 a1) (spec_l2At.f (k + 1) a0 a1) := by
 intro a0 a1 k; have ih0 := spec_l2At.mono_l k; unfold spec_l2At.f
 repeat' first
   | (with_reducible exact ih0 _ _)
   | (with_reducible exact spec_l2Joins.mono _ _ _)
   | (with_reducible exact LeO.refl _)
   | (with_reducible exact LeO.none _)
   | (with_reducible refine LeO.ite ?_ ?_)
   | (with_reducible refine LeO.bind ?_ (fun _ => ?_))
   | exact ih0 _ _
   | exact spec_l2Joins.mono _ _ _
   | exact LeO.none _
   | refine LeO.ite ?_ ?_
   | refine LeO.bind ?_ (fun _ => ?_)
theorem spec_l2At.calls (k : Nat) (A0 : Option Addr) (c0 : Nat) (l0 : List Int) (a1 : Int) (r : Int) (w : World) (hr0 : Kd.C (Kd.int .i64) w A0 l0.length l0) (hc0 : l0.length ≤ c0) (h : spec_l2At.f k l0 a1 = some r) :
  Calls Tryz.prog 120 #[.slice A0 l0.length c0, .int .i64 a1] w fun e w' => e = .returned (.int .i64 r) ∧ Below w.heap.size w w' := by
 have HR0 := az hr0; have HC0 := az hc0; clear hr0 hc0; have HB := az (Below.refl w.heap.size w); have H : (spec_l2At.l0 k l0 a1) = some r := h; clear h; have H' := az H; clear H; go_enter Tryz.func120, Tryz.ntmps120; go_wp2; go_loopg [1] k (fun kq v1 w' => ∃ (x1_1 : Int), v1 = .int .i64 x1_1 ∧ Aside0 (spec_l2At.l0 kq l0 x1_1 = some r) ∧ Aside0 (kq ≤ k) ∧ Aside0 (Below w.heap.size w w'))
 case atStart => exact ⟨(a1), zB, H', ⟨Nat.le_refl _⟩, ⟨zA HB.out⟩⟩
 case round =>
  clear H'; (try clear c1); (try clear p2); obtain ⟨x1_1, rfl, HA, HK1, HB⟩ := hrel
  cases gk with
  | zero => exact absurd HA.out (by simp [spec_l2At.l0])
  | succ k1 =>
   have H := HA.out; clear HA; simp only [spec_l2At.l0] at H; by_cases c3 : x1_1 > 0
   ·
    rw [if_pos c3] at H; have c3b0 : decide (0 < x1_1) = true := decide_eq_true c3; clear c3; replace H := Option.bind_eq_some_iff.mp H; obtain ⟨t145, A40, H⟩ := H; replace H : (if t145 = true then (spec_l2At.l0 k1 l0 (wrap64 (x1_1 - 1))) else (some x1_1)) = some r := H; have A4 := az A40; clear A40; by_cases c5 : t145 = true
    ·
     subst c5; have H1 : (spec_l2At.l0 k1 l0 (wrap64 (x1_1 - 1))) = some r := by rw [if_pos rfl] at H; exact H
     clear H; have H := H1; clear H1; have H' := az H; clear H; go_wp2_with (first | (go_at_call 124; (with_reducible refine (spec_l2Joins.calls k1 _ _ l0 x1_1 true _ ?side1 ?side2 A4.out).mono ?_); (case side1 => exact (zN HR0.out HB.out)); (case side2 => exact HC0.out); rintro e w6 ⟨rfl, hb⟩; have n0_ := az (below_step (zA HB.out) hb); clear HB; have HB := n0_; clear n0_; (try clear hb); (try clear hb2); (try clear hk); (try clear hi))); go_roundg k1
     case measure => have := HK1.out; omega
     case rel => exact ⟨(wrap64 (x1_1 - 1)), zB, H', ⟨zG HK1.out⟩, ⟨zA HB.out⟩⟩
    ·
     replace c5 := Bool.eq_false_iff.mpr c5; subst c5; have H1 : (some x1_1) = some r := by rw [if_neg (show ¬ (false = true) by decide)] at H; exact H
     clear H; have H := H1; clear H1; obtain rfl := Option.some.inj H; go_wp2_with (first | (go_at_call 124; (with_reducible refine (spec_l2Joins.calls k1 _ _ l0 x1_1 false _ ?side1 ?side2 A4.out).mono ?_); (case side1 => exact (zN HR0.out HB.out)); (case side2 => exact HC0.out); rintro e w7 ⟨rfl, hb⟩; have n0_ := az (below_step (zA HB.out) hb); clear HB; have HB := n0_; clear n0_; (try clear hb); (try clear hb2); (try clear hk); (try clear hi))); go_ret; exact ⟨zF, zA HB.out⟩
   ·
    rw [if_neg c3] at H; have c3b0 : decide (0 < x1_1) = false := decide_eq_false c3; clear c3; obtain rfl := Option.some.inj H; go_wp2; go_ret; exact ⟨zF, zA HB.out⟩
def atV (at_ : Int) : List S50 → Int × Int
 | [] => (10, 0)
 | x :: r => if x.f0 ≤ at_ ∧ at_ ≤ wrap64 (x.f1 - 1) then (x.f2, x.f3) else atV at_ r
def spec_l6At.f (l0 : List S50) (a1 : Int) : Option (Int × Int) := some (atV a1 l0)
theorem atV_in (a b c : Int) : spec_l1In.f a b c = some (decide (b ≤ a ∧ a ≤ c)) := by
 unfold spec_l1In.f
 by_cases h : a ≥ b
 · simp [h]
 · simp [h]
theorem in_quiet {a b c : Int} {r : Bool} (h : spec_l1In.f a b c = some r) (w : World) (n : Nat) : Calls Tryz.prog 36 #[.int .i64 a, .int .i64 b, .int .i64 c] (w.drewN n) fun e w'' => e = .returned (.bool r) ∧ ∃ m, w'' = w.drewN m :=
 Calls.quiet_of ((spec_l1In.calls a b c r (w.drewN n) h).mono fun _ _ ⟨he, hd⟩ => ⟨he, hd.out⟩)
theorem spec_l6At.calls (A0 : Option Addr) (c0 : Nat) (l0 : List S50) (a1 : Int) (r1 r2 : Int) (w : World) (hr0 : Kd.C k50 w A0 l0.length l0) (hc0 : l0.length ≤ c0) (h : spec_l6At.f l0 a1 = some (r1, r2)) :
  Calls Tryz.prog 121 #[.slice A0 l0.length c0, .int .i64 a1] w fun e w' => e = .returned (.tuple #[.int .i64 r1, .int .i64 r2]) ∧ Drawn0 w w' := by
 have HR := az hr0
 have hmx := hr0.2.1
 have HMX := az hmx
 clear hr0 hc0 hmx
 have HF := az (Option.some.inj h)
 clear h
 go_enter Tryz.func121, Tryz.ntmps121
 go_wp2
 go_loopg [6] l0.length (fun gg s6 wr => ∃ i : Nat, s6 = .int .i64 i ∧ i ≤ l0.length ∧ l0.length - i ≤ gg ∧ Aside0 (atV a1 (l0.drop i) = (r1, r2)) ∧ Aside0 (Drawn0 w wr))
 case atStart => exact ⟨0, rfl, Nat.zero_le _, by omega, HF, ⟨Drawn0.refl _⟩⟩
 case round =>
  clear HF
  obtain ⟨i, rfl, hi, hg, HF, hdr⟩ := hrel
  have HDR := hdr
  clear hdr
  by_cases hlt : i < l0.length
  ·
   have hltz : (i : Int) < (l0.length : Int) := by omega
   have hi0 : (0 : Int) ≤ (i : Int) := by omega
   obtain ⟨ad, rfl, h0, h1, h2, h3⟩ := at_T50 (Kd.C_below HR.out HDR.out.below) (i : Int) hi0 hltz
   obtain ⟨x, hx⟩ : ∃ x, rd_T50 l0 (i : Int) = x := ⟨_, rfl⟩
   have hd : l0.drop i = x :: l0.drop (i + 1) := by
    rw [List.drop_eq_getElem_cons hlt, ← hx]
    simp [rd_T50, List.getD_eq_getElem?_getD, hlt]
   rw [hx] at h0 h1 h2 h3
   rw [Int.toNat_natCast] at h0 h1 h2 h3
   have hq := HF.out
   rw [hd, atV] at hq
   have hw1 : IntKind.i64.wrap (x.f1 - 1) = wrap64 (x.f1 - 1) := i64_w _
   obtain ⟨t, ht⟩ : ∃ t, wrap64 (x.f1 - 1) = t := ⟨_, rfl⟩
   rw [ht] at hq hw1
   have hw64 : IntKind.i64.wrap ((i : Int) + 1) = (i : Int) + 1 := by rw [i64_w]; unfold wrap64; have := HMX.out; omega
   have hw65 : wrap64 ((i : Int) + 1) = (i : Int) + 1 := by unfold wrap64; have := HMX.out; omega
   clear hx hd HF
   by_cases hc : x.f0 ≤ a1 ∧ a1 ≤ t
   ·
    rw [if_pos hc] at hq
    obtain ⟨rfl, rfl⟩ := Prod.mk.inj hq
    have HIN := az (show spec_l1In.f a1 x.f0 t = some true by rw [atV_in, decide_eq_true hc])
    clear hc hq
    go_upto_region 4 with fail
    go_quiet ((go_at_call 36; exact in_quiet HIN.out _ _))
    go_upto_region 5 with fail
    go_quiet (fail)
    go_wp2
    go_ret2
    exact ⟨rfl, by obtain ⟨⟨n0, e0⟩⟩ := HDR.out; subst e0; repeat (first | exact Drawn0.refl _ | apply Drawn0.step | exact ⟨⟨_, rfl⟩⟩)⟩
   ·
    rw [if_neg hc] at hq
    have HQ := az hq
    have HIN := az (show spec_l1In.f a1 x.f0 t = some false by rw [atV_in, decide_eq_false hc])
    clear hc hq
    go_upto_region 4 with fail
    go_quiet ((go_at_call 36; exact in_quiet HIN.out _ _))
    go_wp2
    go_roundg (l0.length - (i + 1))
    case measure => omega
    case rel => exact ⟨i + 1, by first | rfl | go_num, by omega, by omega, HQ, ⟨by obtain ⟨⟨n0, e0⟩⟩ := HDR.out; subst e0; repeat (first | exact Drawn0.refl _ | apply Drawn0.step | exact ⟨⟨_, rfl⟩⟩)⟩⟩
  ·
   have hltz : ¬ (i : Int) < (l0.length : Int) := by omega
   obtain rfl : i = l0.length := by omega
   have hq := HF.out
   rw [List.drop_length, atV] at hq
   obtain ⟨rfl, rfl⟩ := Prod.mk.inj hq
   clear hq HF
   go_wp2
   go_ret2
   exact ⟨rfl, HDR.out⟩
def spec_l1Has.l0 : Nat → List Int → Int → Int → Option (Bool)
 | 0, _, _, _ => none
 | k + 1, x0, x1, x5 => if x5 < (x0.length : Int) then (if 0 ≤ x5 then (if (rd x0 x5) = x1 then (some true) else (spec_l1Has.l0 k x0 x1 (wrap64 (x5 + 1)))) else (none)) else (some false)
def spec_l1Has.f (k : Nat) (l0 : List Int) (a1 : Int) : Option (Bool) := spec_l1Has.l0 k l0 a1 0
theorem spec_l1Has.mono_l : ∀ k, (∀ y0 y1 y2, LeO (spec_l1Has.l0 k y0 y1 y2) (spec_l1Has.l0 (k + 1) y0 y1 y2))
 | 0 => fun _ _ _ r h => by simp [spec_l1Has.l0] at h
 | k + 1 => by
  have ih0 := spec_l1Has.mono_l k
  ·
   intro y0 y1 y2; unfold spec_l1Has.l0
   repeat' first
   | (with_reducible exact ih0 _ _ _)
   | (with_reducible exact LeO.refl _)
   | (with_reducible exact LeO.none _)
   | (with_reducible refine LeO.ite ?_ ?_)
   | (with_reducible refine LeO.bind ?_ (fun _ => ?_))
   | exact ih0 _ _ _
   | exact LeO.none _
   | refine LeO.ite ?_ ?_
   | refine LeO.bind ?_ (fun _ => ?_)
theorem spec_l1Has.mono : ∀ a0 a1 k, LeO (spec_l1Has.f k a0 a1) (spec_l1Has.f (k + 1) a0 a1) := by
 intro a0 a1 k; have ih0 := spec_l1Has.mono_l k; unfold spec_l1Has.f
 repeat' first
   | (with_reducible exact ih0 _ _ _)
   | (with_reducible exact LeO.refl _)
   | (with_reducible exact LeO.none _)
   | (with_reducible refine LeO.ite ?_ ?_)
   | (with_reducible refine LeO.bind ?_ (fun _ => ?_))
   | exact ih0 _ _ _
   | exact LeO.none _
   | refine LeO.ite ?_ ?_
   | refine LeO.bind ?_ (fun _ => ?_)
theorem spec_l1Has.calls (k : Nat) (A0 : Option Addr) (c0 : Nat) (l0 : List Int) (a1 : Int) (r : Bool) (w : World) (hr0 : Kd.C (Kd.int .i64) w A0 l0.length l0) (hc0 : l0.length ≤ c0) (h : spec_l1Has.f k l0 a1 = some r) :
  Calls Tryz.prog 143 #[.slice A0 l0.length c0, .int .i64 a1] w fun e w' => e = .returned (.bool r) ∧ Drawn0 w w' := by
 have HR0 := az hr0; have HC0 := az hc0; clear hr0 hc0; have H : (spec_l1Has.l0 k l0 a1 0) = some r := h; clear h; have H' := az H; clear H; go_enter Tryz.func143, Tryz.ntmps143; go_wp2; go_loopg [5] k (fun kq v5 w' => ∃ (x5_1 : Int), v5 = .int .i64 x5_1 ∧ Aside0 (spec_l1Has.l0 kq l0 a1 x5_1 = some r) ∧ Aside0 (kq ≤ k) ∧ Drawn0 w w')
 case atStart => exact ⟨(0), zB, H', ⟨Nat.le_refl _⟩, zE⟩
 case round =>
  clear H'; (try clear c1); (try clear p2); obtain ⟨x5_1, rfl, HA, HK1, ⟨m1, rfl⟩⟩ := hrel
  cases gk with
  | zero => exact absurd HA.out (by simp [spec_l1Has.l0])
  | succ k1 =>
   have H := HA.out; clear HA; simp only [spec_l1Has.l0] at H; by_cases c3 : x5_1 < (l0.length : Int)
   ·
    rw [if_pos c3] at H; have c3b0 : decide (x5_1 < (l0.length : Int)) = true := decide_eq_true c3; clear c3; by_cases c4 : 0 ≤ x5_1
    ·
     rw [if_pos c4] at H; have c4b0 : decide (0 ≤ x5_1) = true := decide_eq_true c4; clear c4; by_cases c5 : (rd l0 x5_1) = a1
     ·
      rw [if_pos c5] at H; have c5b0 : ((rd l0 x5_1) == a1) = true := beq_iff_eq.mpr c5; have c5b1 : ((rd l0 x5_1) != a1) = false := bne_eq_false_iff_eq.mpr c5; clear c5; obtain rfl := Option.some.inj H; have p146 : 0 ≤ (x5_1 : Int) := of_decide_eq_true (by assumption); have q146 : x5_1 < (l0.length : Int) := of_decide_eq_true (by assumption); obtain ⟨ad146, e146, hx146_0⟩ := Kd.at_int HR0.out x5_1 p146 q146
      cases e146
      replace p146 := eq_true p146; replace q146 := eq_true q146; go_wp2; go_ret; exact ⟨zB, zE⟩
     ·
      rw [if_neg c5] at H; have c5b0 : ((rd l0 x5_1) == a1) = false := beq_eq_false_iff_ne.mpr c5; have c5b1 : ((rd l0 x5_1) != a1) = true := bne_iff_ne.mpr c5; have H' := az H; clear H; have p146 : 0 ≤ (x5_1 : Int) := of_decide_eq_true (by assumption); have q146 : x5_1 < (l0.length : Int) := of_decide_eq_true (by assumption); obtain ⟨ad146, e146, hx146_0⟩ := Kd.at_int HR0.out x5_1 p146 q146
      cases e146
      replace p146 := eq_true p146; replace q146 := eq_true q146; go_wp2; go_roundg k1
      case measure => have := HK1.out; omega
      case rel => exact ⟨(wrap64 (x5_1 + 1)), zB, H', ⟨zG HK1.out⟩, zE⟩
    ·
     rw [if_neg c4] at H; exact absurd H (by simp)
   ·
    rw [if_neg c3] at H; have c3b0 : decide (x5_1 < (l0.length : Int)) = false := decide_eq_false c3; clear c3; obtain rfl := Option.some.inj H; go_wp2; go_ret; exact ⟨zB, zE⟩
mutual
def spec_RuneWide.j0 : Nat → Int → Int → Bool → Option (Int)
 | 0, _, _, _ => none
 | k + 1, x0, x3, x6 => if x6 = true then (some 0) else ((spec_l1Has.f k (([105, 106, 108, 102, 116] : List Int)) x0).bind fun t151 => (if t151 = true then (some 6) else (if x0 = 109 then (spec_RuneWide.j1 k x0 x3 true) else (spec_RuneWide.j1 k x0 x3 (x0 == 119)))))
def spec_RuneWide.j1 : Nat → Int → Int → Bool → Option (Int)
 | 0, _, _, _ => none
 | k + 1, x0, x3, x29 => if x29 = true then (some 16) else ((spec_l1In.f x0 19968 40959).bind fun t152 => (if t152 = true then (some 20) else (if x3 = 2 then (spec_RuneWide.j2 k x3 true) else (spec_RuneWide.j2 k x3 (x3 == 3)))))
def spec_RuneWide.j2 : Nat → Int → Bool → Option (Int)
 | 0, _, _ => none
 | k + 1, x3, x39 => if x39 = true then (some 12) else (if x3 = 11 then (some 40) else (if x3 = 12 then (some 6) else (if x3 = 8 then (some 6) else (some 10))))
end
def spec_RuneWide.f (k : Nat) (a0 : Int) : Option (Int) := (spec_RuneBidi.f k a0).bind fun t147 => (if t147 = 9 then (spec_RuneWide.j0 k a0 t147 true) else (if t147 = 10 then (spec_RuneWide.j0 k a0 t147 true) else (if t147 ≥ 14 then (spec_RuneWide.j0 k a0 t147 true) else (if a0 = 10 then (spec_RuneWide.j0 k a0 t147 true) else (spec_RuneWide.j0 k a0 t147 (a0 == 13))))))
theorem spec_RuneWide.mono_l : ∀ k, (∀ y0 y1 y2, LeO (spec_RuneWide.j0 k y0 y1 y2) (spec_RuneWide.j0 (k + 1) y0 y1 y2)) ∧ (∀ y0 y1 y2, LeO (spec_RuneWide.j1 k y0 y1 y2) (spec_RuneWide.j1 (k + 1) y0 y1 y2)) ∧ (∀ y0 y1, LeO (spec_RuneWide.j2 k y0 y1) (spec_RuneWide.j2 (k + 1) y0 y1))
 | 0 => ⟨fun _ _ _ r h => by simp [spec_RuneWide.j0] at h, fun _ _ _ r h => by simp [spec_RuneWide.j1] at h, fun _ _ r h => by simp [spec_RuneWide.j2] at h⟩
 | k + 1 => by
  obtain ⟨ih0, ih1, ih2⟩ := spec_RuneWide.mono_l k; refine ⟨?_, ?_, ?_⟩
  ·
   intro y0 y1 y2; unfold spec_RuneWide.j0
   repeat' first
   | (with_reducible exact ih0 _ _ _)
   | (with_reducible exact ih1 _ _ _)
   | (with_reducible exact ih2 _ _)
   | (with_reducible exact spec_RuneBidi.mono _ _)
   | (with_reducible exact spec_l1Has.mono _ _ _)
   | (with_reducible exact LeO.refl _)
   | (with_reducible exact LeO.none _)
   | (with_reducible refine LeO.ite ?_ ?_)
   | (with_reducible refine LeO.bind ?_ (fun _ => ?_))
   | exact ih0 _ _ _
   | exact ih1 _ _ _
   | exact ih2 _ _
   | exact spec_RuneBidi.mono _ _
   | exact spec_l1Has.mono _ _ _
   | exact LeO.none _
   | refine LeO.ite ?_ ?_
   | refine LeO.bind ?_ (fun _ => ?_)
  ·
   intro y0 y1 y2; unfold spec_RuneWide.j1
   repeat' first
   | (with_reducible exact ih0 _ _ _)
   | (with_reducible exact ih1 _ _ _)
   | (with_reducible exact ih2 _ _)
   | (with_reducible exact spec_RuneBidi.mono _ _)
   | (with_reducible exact spec_l1Has.mono _ _ _)
   | (with_reducible exact LeO.refl _)
   | (with_reducible exact LeO.none _)
   | (with_reducible refine LeO.ite ?_ ?_)
   | (with_reducible refine LeO.bind ?_ (fun _ => ?_))
   | exact ih0 _ _ _
   | exact ih1 _ _ _
   | exact ih2 _ _
   | exact spec_RuneBidi.mono _ _
   | exact spec_l1Has.mono _ _ _
   | exact LeO.none _
   | refine LeO.ite ?_ ?_
   | refine LeO.bind ?_ (fun _ => ?_)
  ·
   intro y0 y1; unfold spec_RuneWide.j2
   repeat' first
   | (with_reducible exact ih0 _ _ _)
   | (with_reducible exact ih1 _ _ _)
   | (with_reducible exact ih2 _ _)
   | (with_reducible exact spec_RuneBidi.mono _ _)
   | (with_reducible exact spec_l1Has.mono _ _ _)
   | (with_reducible exact LeO.refl _)
   | (with_reducible exact LeO.none _)
   | (with_reducible refine LeO.ite ?_ ?_)
   | (with_reducible refine LeO.bind ?_ (fun _ => ?_))
   | exact ih0 _ _ _
   | exact ih1 _ _ _
   | exact ih2 _ _
   | exact spec_RuneBidi.mono _ _
   | exact spec_l1Has.mono _ _ _
   | exact LeO.none _
   | refine LeO.ite ?_ ?_
   | refine LeO.bind ?_ (fun _ => ?_)
theorem spec_RuneWide.mono : ∀ a0 k, LeO (spec_RuneWide.f k a0) (spec_RuneWide.f (k + 1) a0) := by
 intro a0 k; obtain ⟨ih0, ih1, ih2⟩ := spec_RuneWide.mono_l k; unfold spec_RuneWide.f
 repeat' first
   | (with_reducible exact ih0 _ _ _)
   | (with_reducible exact ih1 _ _ _)
   | (with_reducible exact ih2 _ _)
   | (with_reducible exact spec_RuneBidi.mono _ _)
   | (with_reducible exact spec_l1Has.mono _ _ _)
   | (with_reducible exact LeO.refl _)
   | (with_reducible exact LeO.none _)
   | (with_reducible refine LeO.ite ?_ ?_)
   | (with_reducible refine LeO.bind ?_ (fun _ => ?_))
   | exact ih0 _ _ _
   | exact ih1 _ _ _
   | exact ih2 _ _
   | exact spec_RuneBidi.mono _ _
   | exact spec_l1Has.mono _ _ _
   | exact LeO.none _
   | refine LeO.ite ?_ ?_
   | refine LeO.bind ?_ (fun _ => ?_)
theorem spec_RuneWide.calls (k : Nat) (a0 : Int) (r : Int) (w : World) (h : spec_RuneWide.f k a0 = some r) :
  Calls Tryz.prog 136 #[.int .i64 a0] w fun e w' => e = .returned (.int .i64 r) ∧ Below w.heap.size w w' := by
 have HB := az (Below.refl w.heap.size w); have H : ((spec_RuneBidi.f k a0).bind fun t147 => (if t147 = 9 then (spec_RuneWide.j0 k a0 t147 true) else (if t147 = 10 then (spec_RuneWide.j0 k a0 t147 true) else (if t147 ≥ 14 then (spec_RuneWide.j0 k a0 t147 true) else (if a0 = 10 then (spec_RuneWide.j0 k a0 t147 true) else (spec_RuneWide.j0 k a0 t147 (a0 == 13))))))) = some r := h; clear h; replace H := Option.bind_eq_some_iff.mp H; obtain ⟨t147, A20, H⟩ := H; replace H : (if t147 = 9 then (spec_RuneWide.j0 k a0 t147 true) else (if t147 = 10 then (spec_RuneWide.j0 k a0 t147 true) else (if t147 ≥ 14 then (spec_RuneWide.j0 k a0 t147 true) else (if a0 = 10 then (spec_RuneWide.j0 k a0 t147 true) else (spec_RuneWide.j0 k a0 t147 (a0 == 13)))))) = some r := H; have A2 := az A20; clear A20; have HC3 := az H; clear H; go_enter Tryz.func136, Tryz.ntmps136; go_upto_region 2 with (first | ((with_reducible refine gate_callee (f := 137) rfl ?_); refine goesL_ (some 5) rfl rfl Tryz.func137 (by kernel_rfl) rfl #[.int .i64 a0] rfl zD ?_; (with_reducible refine (spec_RuneBidi.calls k a0 t147 _ A2.out).mono ?_); rintro e w4 ⟨rfl, hb⟩; refine ⟨_, rfl, ?_⟩; have n0_ := az (below_step (zA HB.out) hb); clear HB; have HB := n0_; clear n0_; (try clear hb); (try clear hb2); (try clear hk); (try clear hi)))
 (try simp only [Act.put, List.setIfInBounds_toArray, List.set_cons_zero, List.set_cons_succ]); go_cut [6] (fun v6 wc => ∃ (kq : Nat) (x6_2 : Bool), v6 = .bool x6_2 ∧ Aside0 (spec_RuneWide.j0 kq a0 t147 x6_2 = some r) ∧ Aside0 (kq ≤ k) ∧ Aside0 (Below w.heap.size w wc))
 case first =>
  have H := HC3.out; clear HC3; by_cases c5 : t147 = 9
  ·
   rw [if_pos c5] at H; have c5b0 : (t147 == 9) = true := beq_iff_eq.mpr c5; have c5b1 : (t147 != 9) = false := bne_eq_false_iff_eq.mpr c5; clear c5; (first | rw [c5b0] | (simp only [i64_w, i32_w]; rw [c5b0]) | skip); have H' := az H; clear H; go_wp2; go_meet
   case rel => exact ⟨_, (true), zB, H', ⟨zK⟩, ⟨zA HB.out⟩⟩
  ·
   rw [if_neg c5] at H; have c5b0 : (t147 == 9) = false := beq_eq_false_iff_ne.mpr c5; have c5b1 : (t147 != 9) = true := bne_iff_ne.mpr c5; (first | rw [c5b0] | (simp only [i64_w, i32_w]; rw [c5b0]) | skip); by_cases c6 : t147 = 10
   ·
    rw [if_pos c6] at H; have c6b0 : (t147 == 10) = true := beq_iff_eq.mpr c6; have c6b1 : (t147 != 10) = false := bne_eq_false_iff_eq.mpr c6; clear c6; have H' := az H; clear H; go_wp2; go_meet
    case rel => exact ⟨_, (true), zB, H', ⟨zK⟩, ⟨zA HB.out⟩⟩
   ·
    rw [if_neg c6] at H; have c6b0 : (t147 == 10) = false := beq_eq_false_iff_ne.mpr c6; have c6b1 : (t147 != 10) = true := bne_iff_ne.mpr c6; by_cases c7 : t147 ≥ 14
    ·
     rw [if_pos c7] at H; have c7b0 : decide (14 ≤ t147) = true := decide_eq_true c7; clear c7; have H' := az H; clear H; go_wp2; go_meet
     case rel => exact ⟨_, (true), zB, H', ⟨zK⟩, ⟨zA HB.out⟩⟩
    ·
     rw [if_neg c7] at H; have c7b0 : decide (14 ≤ t147) = false := decide_eq_false c7; clear c7; by_cases c8 : a0 = 10
     ·
      rw [if_pos c8] at H; have c8b0 : (a0 == 10) = true := beq_iff_eq.mpr c8; have c8b1 : (a0 != 10) = false := bne_eq_false_iff_eq.mpr c8; clear c8; have H' := az H; clear H; go_wp2; go_meet
      case rel => exact ⟨_, (true), zB, H', ⟨zK⟩, ⟨zA HB.out⟩⟩
     ·
      rw [if_neg c8] at H; have c8b0 : (a0 == 10) = false := beq_eq_false_iff_ne.mpr c8; have c8b1 : (a0 != 10) = true := bne_iff_ne.mpr c8; have H' := az H; clear H; go_wp2; go_meet
      case rel => exact ⟨_, ((a0 == 13)), zB, H', ⟨zK⟩, ⟨zA HB.out⟩⟩
 case rest =>
  clear HC3; (try clear c1); (try clear p2); (try clear c5); (try clear c5b0); (try clear c5b1); (try clear c6); (try clear c6b0); (try clear c6b1); (try clear c7); (try clear c7b0); (try clear c8); (try clear c8b0); (try clear c8b1); obtain ⟨kq, x6_2, rfl, HA, HJ2, HB⟩ := hcut
  cases kq with
  | zero => exact absurd HA.out (by simp [spec_RuneWide.j0])
  | succ kj2 =>
   have H := HA.out; clear HA; simp only [spec_RuneWide.j0] at H; by_cases c9 : x6_2 = true
   ·
    subst c9; have H1 : (some 0) = some r := by rw [if_pos rfl] at H; exact H
    clear H; have H := H1; clear H1; obtain rfl := Option.some.inj H; go_wp2; go_ret; exact ⟨zF, zA HB.out⟩
   ·
    replace c9 := Bool.eq_false_iff.mpr c9; subst c9; have H1 : ((spec_l1Has.f kj2 (([105, 106, 108, 102, 116] : List Int)) a0).bind fun t151 => (if t151 = true then (some 6) else (if a0 = 109 then (spec_RuneWide.j1 kj2 a0 t147 true) else (spec_RuneWide.j1 kj2 a0 t147 (a0 == 119))))) = some r := by rw [if_neg (show ¬ (false = true) by decide)] at H; exact H
    clear H; have H := H1; clear H1; obtain ⟨y148, hy148⟩ : ∃ y_ : List Int, y_ = (([105, 106, 108, 102, 116] : List Int)) := ⟨_, rfl⟩; replace H : ((spec_l1Has.f kj2 y148 a0).bind fun t151 => (if t151 = true then (some 6) else (if a0 = 109 then (spec_RuneWide.j1 kj2 a0 t147 true) else (spec_RuneWide.j1 kj2 a0 t147 (a0 == 119))))) = some r := by first | (rw [hy148]; with_reducible exact H) | (have H2_ := (Option.bind_some _ _).symm.trans H; rw [hy148]; with_reducible exact H2_) | (have H2_ := (Option.bind_some _ _).symm.trans H; with_reducible exact H2_) | with_reducible exact H | (rw [hy148]; exact H) | exact H
    have Ny148 := az hy148; clear hy148; replace H := Option.bind_eq_some_iff.mp H; obtain ⟨t151, A100, H⟩ := H; replace H : (if t151 = true then (some 6) else (if a0 = 109 then (spec_RuneWide.j1 kj2 a0 t147 true) else (spec_RuneWide.j1 kj2 a0 t147 (a0 == 119)))) = some r := H; have A10 := az A100; clear A100; by_cases c11 : t151 = true
    ·
     subst c11; have H1 : (some 6) = some r := by rw [if_pos rfl] at H; exact H
     clear H; have H := H1; clear H1; obtain rfl := Option.some.inj H; go_wp2_with (first | ((with_reducible refine gate_dst (N := 26) rfl ?_); refine Kd.R_lit (Kd.int .i64) _ 3 ?hg (N := 26) ?hd (xs := ([105, 106, 108, 102, 116] : List Int)) (inner := [.int .i64 105, .int .i64 106, .int .i64 108, .int .i64 102, .int .i64 116]) (ok := fun _ => True) (okp := fun _ => True) ?hr ?hp (fun _ hk => hk) trivial (Below.refl _ _) (Nat.le_refl _) (by simp) ?_; (case hd => rfl); (case hg => rfl); (case hr => first | (go_simp; done) | (go_simp; rfl)); (case hp => exact (Reps.one (show Kd.M (Kd.int .i64) _ _ _ 105 [.int .i64 105] from rfl) (Reps.one (show Kd.M (Kd.int .i64) _ _ _ 106 [.int .i64 106] from rfl) (Reps.one (show Kd.M (Kd.int .i64) _ _ _ 108 [.int .i64 108] from rfl) (Reps.one (show Kd.M (Kd.int .i64) _ _ _ 102 [.int .i64 102] from rfl) (Reps.one (show Kd.M (Kd.int .i64) _ _ _ 116 [.int .i64 116] from rfl) (Reps.none _ _))))))); intro v149 w12 ho13 hb hg_ hnew_; clear hg_ hnew_; (first | rw [← Ny148.out] at ho13 | (simp only [Int.reduceToNat] at ho13; rw [← Ny148.out] at ho13)); have n0_ := az (Kd.R_lower ho13 (below_size (zA HB.out))); have n1_ := az (below_step (zA HB.out) hb); clear HB; have HO150 := n0_; have HB := n1_; clear n0_ n1_; clear hb ho13; obtain ⟨Ao14, co14, eo14⟩ := Kd.R_slice HO150.out; subst eo14) | ((with_reducible refine gate_callee (f := 143) rfl ?_); refine goesL_ (some 28) rfl rfl Tryz.func143 (by kernel_rfl) rfl #[.slice Ao14 y148.length co14, .int .i64 a0] rfl zD ?_; (with_reducible refine (spec_l1Has.calls kj2 _ _ y148 a0 true _ ?side1 ?side2 A10.out).mono ?_); (case side1 => exact (zM HO150.out)); (case side2 => exact (Kd.R_reads' HO150.out).2.1); rintro e w' ⟨rfl, ⟨nd, rfl⟩⟩; refine ⟨_, rfl, ?_⟩)); go_ret; exact ⟨zF, zA HB.out⟩
    ·
     replace c11 := Bool.eq_false_iff.mpr c11; subst c11; have H1 : (if a0 = 109 then (spec_RuneWide.j1 kj2 a0 t147 true) else (spec_RuneWide.j1 kj2 a0 t147 (a0 == 119))) = some r := by rw [if_neg (show ¬ (false = true) by decide)] at H; exact H
     clear H; have H := H1; clear H1; have HC15 := az H; clear H; go_upto_region 6 with (first | ((with_reducible refine gate_dst (N := 26) rfl ?_); refine Kd.R_lit (Kd.int .i64) _ 3 ?hg (N := 26) ?hd (xs := ([105, 106, 108, 102, 116] : List Int)) (inner := [.int .i64 105, .int .i64 106, .int .i64 108, .int .i64 102, .int .i64 116]) (ok := fun _ => True) (okp := fun _ => True) ?hr ?hp (fun _ hk => hk) trivial (Below.refl _ _) (Nat.le_refl _) (by simp) ?_; (case hd => rfl); (case hg => rfl); (case hr => first | (go_simp; done) | (go_simp; rfl)); (case hp => exact (Reps.one (show Kd.M (Kd.int .i64) _ _ _ 105 [.int .i64 105] from rfl) (Reps.one (show Kd.M (Kd.int .i64) _ _ _ 106 [.int .i64 106] from rfl) (Reps.one (show Kd.M (Kd.int .i64) _ _ _ 108 [.int .i64 108] from rfl) (Reps.one (show Kd.M (Kd.int .i64) _ _ _ 102 [.int .i64 102] from rfl) (Reps.one (show Kd.M (Kd.int .i64) _ _ _ 116 [.int .i64 116] from rfl) (Reps.none _ _))))))); intro v149 w16 ho17 hb hg_ hnew_; clear hg_ hnew_; (first | rw [← Ny148.out] at ho17 | (simp only [Int.reduceToNat] at ho17; rw [← Ny148.out] at ho17)); have n0_ := az (Kd.R_lower ho17 (below_size (zA HB.out))); have n1_ := az (below_step (zA HB.out) hb); clear HB; have HO150 := n0_; have HB := n1_; clear n0_ n1_; clear hb ho17; obtain ⟨Ao18, co18, eo18⟩ := Kd.R_slice HO150.out; subst eo18) | ((with_reducible refine gate_callee (f := 143) rfl ?_); refine goesL_ (some 28) rfl rfl Tryz.func143 (by kernel_rfl) rfl #[.slice Ao18 y148.length co18, .int .i64 a0] rfl zD ?_; (with_reducible refine (spec_l1Has.calls kj2 _ _ y148 a0 false _ ?side1 ?side2 A10.out).mono ?_); (case side1 => exact (zM HO150.out)); (case side2 => exact (Kd.R_reads' HO150.out).2.1); rintro e w' ⟨rfl, ⟨nd, rfl⟩⟩; refine ⟨_, rfl, ?_⟩))
     (try simp only [Act.put, List.setIfInBounds_toArray, List.set_cons_zero, List.set_cons_succ]); go_cut [29] (fun v29 wc => ∃ (kq : Nat) (x29_14 : Bool), v29 = .bool x29_14 ∧ Aside0 (spec_RuneWide.j1 kq a0 t147 x29_14 = some r) ∧ Aside0 (kq ≤ kj2) ∧ Aside0 (Below w.heap.size w wc))
     case first =>
      have H := HC15.out; clear HC15; by_cases c19 : a0 = 109
      ·
       rw [if_pos c19] at H; have c19b0 : (a0 == 109) = true := beq_iff_eq.mpr c19; have c19b1 : (a0 != 109) = false := bne_eq_false_iff_eq.mpr c19; clear c19; (first | rw [c19b0] | (simp only [i64_w, i32_w]; rw [c19b0]) | skip); have H' := az H; clear H; go_wp2; go_meet
       case rel => exact ⟨_, (true), zB, H', ⟨zL HJ2.out⟩, ⟨zA HB.out⟩⟩
      ·
       rw [if_neg c19] at H; have c19b0 : (a0 == 109) = false := beq_eq_false_iff_ne.mpr c19; have c19b1 : (a0 != 109) = true := bne_iff_ne.mpr c19; (first | rw [c19b0] | (simp only [i64_w, i32_w]; rw [c19b0]) | skip); have H' := az H; clear H; go_wp2; go_meet
       case rel => exact ⟨_, ((a0 == 119)), zB, H', ⟨zL HJ2.out⟩, ⟨zA HB.out⟩⟩
     case rest =>
      clear HC15; (try clear c1); (try clear p2); (try clear c5); (try clear c5b0); (try clear c5b1); (try clear c6); (try clear c6b0); (try clear c6b1); (try clear c7); (try clear c7b0); (try clear c8); (try clear c8b0); (try clear c8b1); (try clear c9); (try clear c11); (try clear c13); (try clear c14); (try clear c19); (try clear c19b0); (try clear c19b1); (try clear p2); obtain ⟨kq, x29_14, rfl, HA, HJ14, HB⟩ := hcut
      cases kq with
      | zero => exact absurd HA.out (by simp [spec_RuneWide.j1])
      | succ kj14 =>
       have H := HA.out; clear HA; simp only [spec_RuneWide.j1] at H; by_cases c20 : x29_14 = true
       ·
        subst c20; have H1 : (some 16) = some r := by rw [if_pos rfl] at H; exact H
        clear H; have H := H1; clear H1; obtain rfl := Option.some.inj H; go_wp2; go_ret; exact ⟨zF, zA HB.out⟩
       ·
        replace c20 := Bool.eq_false_iff.mpr c20; subst c20; have H1 : ((spec_l1In.f a0 19968 40959).bind fun t152 => (if t152 = true then (some 20) else (if t147 = 2 then (spec_RuneWide.j2 kj14 t147 true) else (spec_RuneWide.j2 kj14 t147 (t147 == 3))))) = some r := by rw [if_neg (show ¬ (false = true) by decide)] at H; exact H
        clear H; have H := H1; clear H1; replace H := Option.bind_eq_some_iff.mp H; obtain ⟨t152, A210, H⟩ := H; replace H : (if t152 = true then (some 20) else (if t147 = 2 then (spec_RuneWide.j2 kj14 t147 true) else (spec_RuneWide.j2 kj14 t147 (t147 == 3)))) = some r := H; have A21 := az A210; clear A210; by_cases c22 : t152 = true
        ·
         subst c22; have H1 : (some 20) = some r := by rw [if_pos rfl] at H; exact H
         clear H; have H := H1; clear H1; obtain rfl := Option.some.inj H; go_wp2_with (first | ((with_reducible refine gate_callee (f := 36) rfl ?_); refine goesL_ (some 38) rfl rfl Tryz.func36 (by kernel_rfl) rfl #[.int .i64 a0, .int .i64 19968, .int .i64 40959] rfl zD ?_; (with_reducible refine (spec_l1In.calls a0 19968 40959 true _ A21.out).mono ?_); rintro e w' ⟨rfl, ⟨nd, rfl⟩⟩; refine ⟨_, rfl, ?_⟩)); go_ret; exact ⟨zF, zA HB.out⟩
        ·
         replace c22 := Bool.eq_false_iff.mpr c22; subst c22; have H1 : (if t147 = 2 then (spec_RuneWide.j2 kj14 t147 true) else (spec_RuneWide.j2 kj14 t147 (t147 == 3))) = some r := by rw [if_neg (show ¬ (false = true) by decide)] at H; exact H
         clear H; have H := H1; clear H1; have HC23 := az H; clear H; go_upto_region 10 with (first | ((with_reducible refine gate_callee (f := 36) rfl ?_); refine goesL_ (some 38) rfl rfl Tryz.func36 (by kernel_rfl) rfl #[.int .i64 a0, .int .i64 19968, .int .i64 40959] rfl zD ?_; (with_reducible refine (spec_l1In.calls a0 19968 40959 false _ A21.out).mono ?_); rintro e w' ⟨rfl, ⟨nd, rfl⟩⟩; refine ⟨_, rfl, ?_⟩))
         (try simp only [Act.put, List.setIfInBounds_toArray, List.set_cons_zero, List.set_cons_succ]); go_cut [39] (fun v39 wc => ∃ (kq : Nat) (x39_22 : Bool), v39 = .bool x39_22 ∧ Aside0 (spec_RuneWide.j2 kq t147 x39_22 = some r) ∧ Aside0 (kq ≤ kj14) ∧ Aside0 (Below w.heap.size w wc))
         case first =>
          have H := HC23.out; clear HC23; by_cases c24 : t147 = 2
          ·
           rw [if_pos c24] at H; have c24b0 : (t147 == 2) = true := beq_iff_eq.mpr c24; have c24b1 : (t147 != 2) = false := bne_eq_false_iff_eq.mpr c24; clear c24; (first | rw [c24b0] | (simp only [i64_w, i32_w]; rw [c24b0]) | skip); have H' := az H; clear H; go_wp2; go_meet
           case rel => exact ⟨_, (true), zB, H', ⟨zO HJ2.out HJ14.out⟩, ⟨zA HB.out⟩⟩
          ·
           rw [if_neg c24] at H; have c24b0 : (t147 == 2) = false := beq_eq_false_iff_ne.mpr c24; have c24b1 : (t147 != 2) = true := bne_iff_ne.mpr c24; (first | rw [c24b0] | (simp only [i64_w, i32_w]; rw [c24b0]) | skip); have H' := az H; clear H; go_wp2; go_meet
           case rel => exact ⟨_, ((t147 == 3)), zB, H', ⟨zO HJ2.out HJ14.out⟩, ⟨zA HB.out⟩⟩
         case rest =>
          clear HC23; (try clear c1); (try clear c2); (try clear p2); (try clear c3); (try clear c5); (try clear c5b0); (try clear c5b1); (try clear c6); (try clear c6b0); (try clear c6b1); (try clear c7); (try clear c7b0); (try clear c8); (try clear c8b0); (try clear c8b1); (try clear c9); (try clear c11); (try clear c13); (try clear c14); (try clear c19); (try clear c19b0); (try clear c19b1); (try clear c20); (try clear c22); (try clear c24); (try clear c24b0); (try clear c24b1); (try clear p2); obtain ⟨kq, x39_22, rfl, HA, HJ22, HB⟩ := hcut
          cases kq with
          | zero => exact absurd HA.out (by simp [spec_RuneWide.j2])
          | succ kj22 =>
           have H := HA.out; clear HA; simp only [spec_RuneWide.j2] at H; by_cases c25 : x39_22 = true
           ·
            subst c25; have H1 : (some 12) = some r := by rw [if_pos rfl] at H; exact H
            clear H; have H := H1; clear H1; obtain rfl := Option.some.inj H; go_wp2; go_ret; exact ⟨zF, zA HB.out⟩
           ·
            replace c25 := Bool.eq_false_iff.mpr c25; subst c25; have H1 : (if t147 = 11 then (some 40) else (if t147 = 12 then (some 6) else (if t147 = 8 then (some 6) else (some 10)))) = some r := by rw [if_neg (show ¬ (false = true) by decide)] at H; exact H
            clear H; have H := H1; clear H1; by_cases c26 : t147 = 11
            ·
             rw [if_pos c26] at H; have c26b0 : (t147 == 11) = true := beq_iff_eq.mpr c26; have c26b1 : (t147 != 11) = false := bne_eq_false_iff_eq.mpr c26; clear c26; obtain rfl := Option.some.inj H; go_wp2; go_ret; exact ⟨zF, zA HB.out⟩
            ·
             rw [if_neg c26] at H; have c26b0 : (t147 == 11) = false := beq_eq_false_iff_ne.mpr c26; have c26b1 : (t147 != 11) = true := bne_iff_ne.mpr c26; by_cases c27 : t147 = 12
             ·
              rw [if_pos c27] at H; have c27b0 : (t147 == 12) = true := beq_iff_eq.mpr c27; have c27b1 : (t147 != 12) = false := bne_eq_false_iff_eq.mpr c27; clear c27; obtain rfl := Option.some.inj H; go_wp2; go_ret; exact ⟨zF, zA HB.out⟩
             ·
              rw [if_neg c27] at H; have c27b0 : (t147 == 12) = false := beq_eq_false_iff_ne.mpr c27; have c27b1 : (t147 != 12) = true := bne_iff_ne.mpr c27; by_cases c28 : t147 = 8
              ·
               rw [if_pos c28] at H; have c28b0 : (t147 == 8) = true := beq_iff_eq.mpr c28; have c28b1 : (t147 != 8) = false := bne_eq_false_iff_eq.mpr c28; clear c28; obtain rfl := Option.some.inj H; go_wp2; go_ret; exact ⟨zF, zA HB.out⟩
              ·
               rw [if_neg c28] at H; have c28b0 : (t147 == 8) = false := beq_eq_false_iff_ne.mpr c28; have c28b1 : (t147 != 8) = true := bne_iff_ne.mpr c28; obtain rfl := Option.some.inj H; go_wp2; go_ret; exact ⟨zF, zA HB.out⟩
end Go.Proofs.YtmcdcogedcbndaaGreat.S
