/- Of drawn letters, spans, width and way: the lines that the program tells are in order, the last one ends at the end, and what they cost can be told; they are the reference's. No condition beyond the statement's own. (text 1 of 7 of this claim: functions of the program and of the reference as plain Lean functions, what a call of each comes to, and what follows.) -/
import Derived.Test.YtmcdcogedcbndaaGreatProg
import Derived.Test.YtmcdcogedcbndaaGreatZWWords
import Derived.Test.YtmcdcogedcbndaaGreatZWLast
import Derived.Test.YtmcdcogedcbndaaGreatZWTab
import Derived.Test.YtmcdcogedcbndaaGreatZWQPut
import Derived.Test.YtmcdcogedcbndaaGreatZWApart
import Derived.Test.YtmcdcogedcbndaaGreatZWArr
import Derived.Test.YtmcdcogedcbndaaGreatZWZeros
import Derived.Test.YtmcdcogedcbndaaGreatZWFoot
import Derived.Test.YtmcdcogedcbndaaGreatZWKept
import Derived.Test.YtmcdcogedcbndaaGreatZWShare
import Derived.Test.YtmcdcogedcbndaaGreatZWN
import Derived.Test.YtmcdcogedcbndaaGreatZWRepsOne
import Derived.Test.YtmcdcogedcbndaaGreatZWGuard
import Derived.Test.YtmcdcogedcbndaaGreatZWNEv
import Derived.Test.YtmcdcogedcbndaaGreatZWMore
import Derived.Below
import Derived.Deep.Draws
import Derived.Deep.AppendLies
import Derived.Maps.AppendAt
import Derived.OwnWalk
import Derived.Laws.BytesArg
import Derived.Laws.MakeOwn
import Derived.Laws.OwnMore
import Derived.Deep.OwnRows
import Derived.Tactics
import Derived.Lib.ConvBytes
import Derived.Laws.Slices
import Derived.WalkKit
import Derived.KernelRfl
import Derived.RowKit3
import Derived.Deep.LoopGhost
import Derived.Deep.QuietTactic
import Derived.BigQuiet
import Derived.WideLaws
import Derived.Deep.DeepCutAuto
import Derived.Deep.CutBlock
import Derived.Deep.RegionHeld3
import Derived.Laws.Rows
import Derived.Lib.AppendStr
import Derived.ArgAppend
import Derived.Laws.IdiomCopy
import Derived.OrdersHeld
import Derived.Laws.BitsLemmas
import Derived.RowKit
import Derived.Maps.Own
import Derived.Maps.OwnOps
import Derived.Maps.Views
import Derived.Shelf.Abstract
import Derived.BigRegion
import Derived.Deep.CutRange
import Derived.Deep.DeepMust
import Derived.Deep.RegionLaw
import Derived.LoopIn
import Derived.LoopNIn
import Derived.OwnWalkIn
import Derived.RangeFuncBound
import Derived.RangeFuncBox
import Derived.RangeFuncCalls
import Derived.RangeFuncFrom
import Derived.RangeFuncLeaves
import Derived.RangeFuncNested
import Derived.RegionTactic
import Derived.Shelf.RegionOpen
import Derived.TacticsInMore
import Derived.WalkArith
set_option maxHeartbeats 16000000
set_option maxRecDepth 100000
set_option linter.unusedVariables false
set_option linter.unusedSimpArgs false
namespace Go.Proofs.YtmcdcogedcbndaaGreat
set_option linter.unusedVariables false
theorem zB {p : Prop} (h : p := by first | rfl | (simp; done) | (simp [*]; done)) : p := h
theorem zD {p : Prop} (h : p := by repeat (first | exact Drawn0.refl _ | apply Drawn0.step)) : p := h
theorem zE {p q0 : Prop} (h0 : q0) (h : q0 → p := by intro zq0_; have := zq0_; omega) : p := h h0
theorem zA {p q0 : Prop} (h0 : q0) (h : q0 → p := by intro zq0_; repeat (first | (with_reducible first | exact zq0_ | apply below_alloc | apply pw_below_drewN | apply below_drew1) | exact zq0_)) : p := h h0
theorem zG {p : Prop} (h : p := by first | rfl | (simp [errW_none, errW_some] <;> rfl) | (simp [*, errW_none, errW_some] <;> rfl)) : p := h
theorem zI {p q0 q1 : Prop} (h0 : q0) (h1 : q1) (h : q0 → q1 → p := by intro zq0_ zq1_; repeat (first | (with_reducible first | exact zq0_ | apply below_alloc | apply pw_below_drewN | apply below_drew1 | refine below_set ?_ zq1_) | exact zq0_)) : p := h h0 h1
theorem zC {p : Prop} (h : p := by (try simp only [List.map_toArray, List.map_cons, List.map_nil]); first | done | rfl) : p := h
theorem zN {p q0 : Prop} (h0 : q0) (h : q0 → p := by intro zq0_; (with_reducible repeat (first | refine blk_drewN ?_ _ | refine blk_drew ?_ | refine blk_alloc ?_ _)); exact zq0_) : p := h h0
theorem zP {p q0 : Prop} (h0 : q0) (h : q0 → p := by intro zq0_; repeat (first | exact zq0_ | (with_reducible refine Kd.C_alloc ?_ _) | (with_reducible refine Kd.C_drewN ?_ _) | (with_reducible refine Kd.C_drew ?_))) : p := h h0
theorem zO {p q0 q1 : Prop} (h0 : q0) (h1 : q1) (h : q0 → q1 → p := by intro zq0_ zq1_; repeat (first | exact (Kd.C_below zq0_ zq1_) | (with_reducible refine Kd.C_alloc ?_ _) | (with_reducible refine Kd.C_drewN ?_ _) | (with_reducible refine Kd.C_drew ?_))) : p := h h0 h1
theorem zF {p q0 : Prop} (h0 : q0) (h : q0 → p := by intro zq0_; (with_reducible repeat (first | apply Kd.R_alloc | apply Kd.R_drewN | apply Kd.R_drew)); exact zq0_) : p := h h0
theorem zR {p q0 : Prop} (h0 : q0) (h : q0 → p := by intro zq0_; repeat (first | exact (Kd.R_reads' zq0_).2.2 | (with_reducible refine Kd.C_alloc ?_ _) | (with_reducible refine Kd.C_drewN ?_ _) | (with_reducible refine Kd.C_drew ?_))) : p := h h0
theorem zJ {p : Prop} (h : p := by first | omega | exact Nat.le_refl _) : p := h
theorem zW {p : Prop} (h : p := by first | exact Kd.R_nil _ _ _ _ _ | exact Kd.N_nil _ _ _ _ _ | exact Kd.V_nil _ _ _ _ _ | exact Kd.Q_nil _ _ _ _ _ | exact Kd.S_nil _ _ _ _ _) : p := h
theorem zK {p q0 : Prop} (h0 : q0) (h : q0 → p := by intro zq0_; have := zq0_; first | omega | exact Nat.le_refl _) : p := h h0
theorem zM {p q0 q1 : Prop} (h0 : q0) (h1 : q1) (h : q0 → q1 → p := by intro zq0_ zq1_; have := zq0_; have := zq1_; first | omega | exact Nat.le_refl _) : p := h h0 h1
theorem zS {p q0 q1 q2 : Prop} (h0 : q0) (h1 : q1) (h2 : q2) (h : q0 → q1 → q2 → p := by intro zq0_ zq1_ zq2_; have := zq0_; have := zq1_; have := zq2_; first | omega | exact Nat.le_refl _) : p := h h0 h1 h2
theorem zX {p q0 q1 q2 : Prop} (h0 : q0) (h1 : q1) (h2 : q2) (h : q0 → q1 → q2 → p := by intro zq0_ zq1_ zq2_; repeat (first | (with_reducible first | exact zq0_ | apply below_alloc | apply pw_below_drewN | apply below_drew1 | refine below_set ?_ zq1_ | refine below_set ?_ zq2_) | exact zq0_)) : p := h h0 h1 h2
theorem zQ {p q0 : Prop} (h0 : q0) (h : q0 → p := by intro zq0_; (with_reducible repeat (first | apply Kd.R_alloc | apply Kd.R_drewN | apply Kd.R_drew)); exact Kd.R_mono zq0_ (fun _ hk => hk.2)) : p := h h0
theorem zU {p q0 : Prop} (h0 : q0) (h : q0 → p := by intro zq0_; (with_reducible repeat (first | apply Kd.R_alloc | apply Kd.R_drewN | apply Kd.R_drew)); exact Kd.R_mono zq0_ (fun _ hk => ⟨trivial, hk⟩)) : p := h h0
theorem zH {p : Prop} (h : p := by with_reducible assumption) : p := h
theorem zL {p q0 q1 : Prop} (h0 : q0) (h1 : q1) (h : q0 → q1 → p := by intro zq0_ zq1_; have := zq0_; have := zq1_; omega) : p := h h0 h1
theorem zV {p q0 : Prop} (h0 : q0) (h : q0 → p := by intro zq0_; repeat (first | (with_reducible first | exact zq0_ | apply Kept.alloc | apply Kept.drewN | apply Kept.drew) | exact zq0_)) : p := h h0
theorem zT {p q0 q1 : Prop} (h0 : q0) (h1 : q1) (h : q0 → q1 → p := by intro zq0_ zq1_; repeat (first | (with_reducible first | exact zq0_ | apply below_alloc | apply pw_below_drewN | apply below_drew1 | refine below_set ?_ (IsS86.ge zq1_)) | exact zq0_)) : p := h h0 h1
end Go.Proofs.YtmcdcogedcbndaaGreat
namespace Go.Proofs.YtmcdcogedcbndaaGreat.S
open Go.RowKit Go.Proofs.YtmcdcogedcbndaaGreatW.PrintWords Go.Proofs.YtmcdcogedcbndaaGreatW.PrintLast
theorem az {p : Prop} (h : p) : Aside0 p := ⟨h⟩
set_option linter.unusedVariables false
set_option linter.unusedSimpArgs false
def errW : Option Int → Value
 | none => .nilIface
 | some c => .iface 0 (.int .i64 c)
theorem errW_none : errW none = .nilIface := rfl
theorem errW_some (c : Int) : errW (some c) = .iface 0 (.int .i64 c) := rfl
theorem info3 : (Tryz.prog.info? 3).map (fun i => (i.zero, i.size, i.bytes)) = some (some (.int .i64 0), 1, 8) := by kernel_rfl
theorem info4 : (Tryz.prog.info? 4).map (fun i => (i.zero, i.size, i.bytes)) = some (some (.bool false), 1, 1) := by kernel_rfl
theorem info5 : (Tryz.prog.info? 5).map (fun i => (i.zero, i.size, i.bytes)) = some (some (.int .u8 0), 1, 1) := by kernel_rfl
theorem info50 : (Tryz.prog.info? 50).map (fun i => (i.zero, i.size, i.bytes)) = some (some (.agg #[(.int .i64 0), (.int .i64 0), (.int .i64 0), (.int .i64 0)]), 4, 32) := by kernel_rfl
structure S52 where
 f0 : Int
 f1 : Int
 f2 : Int
 f3 : Int
structure S50 where
 f0 : Int
 f1 : Int
 f2 : Int
 f3 : Int
def z50 : S50 := ⟨(0 : Int), (0 : Int), (0 : Int), (0 : Int)⟩
def k50 : Kd S50 := Kd.iso (Kd.pair (Kd.int .i64) (Kd.pair (Kd.int .i64) (Kd.pair (Kd.int .i64) (Kd.int .i64)))) (fun x : S50 => (x.f0, x.f1, x.f2, x.f3))
theorem k50_open {w : World} {x : S50} {cs : List Value} (h : k50.K w x cs) : cs = [.int .i64 x.f0, .int .i64 x.f1, .int .i64 x.f2, .int .i64 x.f3] := by
 obtain ⟨_, _, rfl, rfl, ⟨_, _, rfl, rfl, ⟨_, _, rfl, rfl, rfl⟩⟩⟩ := h
 exact rfl
theorem k50_openM {w : World} {base : Nat} {ok : Nat → Prop} {x : S50} {cs : List Value} (h : k50.M w base ok x cs) : cs = [.int .i64 x.f0, .int .i64 x.f1, .int .i64 x.f2, .int .i64 x.f3] := by
 obtain ⟨_, _, rfl, rfl, ⟨_, _, rfl, rfl, ⟨_, _, rfl, rfl, rfl⟩⟩⟩ := h
 exact rfl
theorem k50_mkM (w : World) (base : Nat) (ok : Nat → Prop) (x : S50)  : k50.M w base ok x [.int .i64 x.f0, .int .i64 x.f1, .int .i64 x.f2, .int .i64 x.f3] := ⟨[.int .i64 x.f0], [.int .i64 x.f1, .int .i64 x.f2, .int .i64 x.f3], rfl, rfl, ⟨[.int .i64 x.f1], [.int .i64 x.f2, .int .i64 x.f3], rfl, rfl, ⟨[.int .i64 x.f2], [.int .i64 x.f3], rfl, rfl, rfl⟩⟩⟩
def rd_T50 (xs : List S50) (i : Int) : S50 := xs.getD i.toNat z50
theorem at_T50 {w : World} {A : Option Addr} {n : Nat} {xs : List S50} (h : Kd.C k50 w A n xs) (i : Int) (h0 : 0 ≤ i) (h1 : i < n) : ∃ ad , A = some ad ∧ w.cell? (ad.add (i.toNat * 4)) = some (.int .i64 (rd_T50 xs i).f0) ∧ w.cell? ⟨(ad.add (i.toNat * 4)).block, (ad.add (i.toNat * 4)).off + 1, none⟩ = some (.int .i64 (rd_T50 xs i).f1) ∧ w.cell? ⟨(ad.add (i.toNat * 4)).block, (ad.add (i.toNat * 4)).off + 2, none⟩ = some (.int .i64 (rd_T50 xs i).f2) ∧ w.cell? ⟨(ad.add (i.toNat * 4)).block, (ad.add (i.toNat * 4)).off + 3, none⟩ = some (.int .i64 (rd_T50 xs i).f3) := by
 obtain ⟨ad, c, e, _, hK, hc0⟩ := Kd.C_get h z50 i h0 h1
 have hc : ∀ j u, c[j]? = some u → w.cell? (ad.add (i.toNat * 4 + j)) = some u := hc0
 obtain rfl := k50_open hK
 exact ⟨ad, e, hc 0 _ rfl, by rw [← add_field _ _ 1 (by omega)]; exact hc 1 _ rfl, by rw [← add_field _ _ 2 (by omega)]; exact hc 2 _ rfl, by rw [← add_field _ _ 3 (by omega)]; exact hc 3 _ rfl⟩
structure S105 where
 f0 : Int
 f1 : Int
structure S120 where
 f0 : Int
 f1 : Int
 f2 : Int
def z120 : S120 := ⟨(0 : Int), (0 : Int), (0 : Int)⟩
def k120 : Kd S120 := Kd.iso (Kd.pair (Kd.int .i64) (Kd.pair (Kd.int .i64) (Kd.int .i64))) (fun x : S120 => (x.f0, x.f1, x.f2))
theorem k120_open {w : World} {x : S120} {cs : List Value} (h : k120.K w x cs) : cs = [.int .i64 x.f0, .int .i64 x.f1, .int .i64 x.f2] := by
 obtain ⟨_, _, rfl, rfl, ⟨_, _, rfl, rfl, rfl⟩⟩ := h
 exact rfl
theorem k120_mkM (w : World) (base : Nat) (ok : Nat → Prop) (x : S120)  : k120.M w base ok x [.int .i64 x.f0, .int .i64 x.f1, .int .i64 x.f2] := ⟨[.int .i64 x.f0], [.int .i64 x.f1, .int .i64 x.f2], rfl, rfl, ⟨[.int .i64 x.f1], [.int .i64 x.f2], rfl, rfl, rfl⟩⟩
def rd_T120 (xs : List S120) (i : Int) : S120 := xs.getD i.toNat z120
theorem at_T120 {w : World} {A : Option Addr} {n : Nat} {xs : List S120} (h : Kd.C k120 w A n xs) (i : Int) (h0 : 0 ≤ i) (h1 : i < n) : ∃ ad , A = some ad ∧ w.cell? (ad.add (i.toNat * 3)) = some (.int .i64 (rd_T120 xs i).f0) ∧ w.cell? ⟨(ad.add (i.toNat * 3)).block, (ad.add (i.toNat * 3)).off + 1, none⟩ = some (.int .i64 (rd_T120 xs i).f1) ∧ w.cell? ⟨(ad.add (i.toNat * 3)).block, (ad.add (i.toNat * 3)).off + 2, none⟩ = some (.int .i64 (rd_T120 xs i).f2) := by
 obtain ⟨ad, c, e, _, hK, hc0⟩ := Kd.C_get h z120 i h0 h1
 have hc : ∀ j u, c[j]? = some u → w.cell? (ad.add (i.toNat * 3 + j)) = some u := hc0
 obtain rfl := k120_open hK
 exact ⟨ad, e, hc 0 _ rfl, by rw [← add_field _ _ 1 (by omega)]; exact hc 1 _ rfl, by rw [← add_field _ _ 2 (by omega)]; exact hc 2 _ rfl⟩
def FlO (t : Nat) (gb : Nat) (A0 : Option Addr) (c0 : Nat) (rs : List Int) (A1 : Option Addr) (c1 : Nat) (ws : List Int) (A2 : Option Addr) (c2 : Nat) (bs : List Int) (wide : Int) (W : World) : Prop :=
 W.heap[gb]? = some (.cells #[.slice A0 rs.length c0, .slice A1 ws.length c1, .slice A2 bs.length c2, .int .i64 wide] t (0, 0)) ∧ Kd.C (Kd.int .i64) W A0 rs.length rs ∧ rs.length ≤ c0 ∧ Kd.C (Kd.int .i64) W A1 ws.length ws ∧ ws.length ≤ c1 ∧ Kd.C (Kd.int .i64) W A2 bs.length bs ∧ bs.length ≤ c2
theorem FlO.below {t gb : Nat} {A0 : Option Addr} {c0 : Nat} {rs : List Int} {A1 : Option Addr} {c1 : Nat} {ws : List Int} {A2 : Option Addr} {c2 : Nat} {bs : List Int} {wide : Int} {W W' : World} (h : FlO t gb A0 c0 rs A1 c1 ws A2 c2 bs wide W) (hb : Below W.heap.size W W') : FlO t gb A0 c0 rs A1 c1 ws A2 c2 bs wide W' :=
 ⟨blk_below h.1 hb, Kd.C_below h.2.1 hb, h.2.2.1, Kd.C_below h.2.2.2.1 hb, h.2.2.2.2.1, Kd.C_below h.2.2.2.2.2.1 hb, h.2.2.2.2.2.2⟩
abbrev FlI (t : Nat) (gb : Nat) (A0 : Option Addr) (c0 : Nat) (rs : List Int) (A1 : Option Addr) (c1 : Nat) (ws : List Int) (A2 : Option Addr) (c2 : Nat) (bs : List Int) (wide : Int) (w0 W : World) : Prop :=
 W.cell? ⟨gb, 0, none⟩ = some (.slice A0 rs.length c0) ∧ W.cell? ⟨gb, 1, none⟩ = some (.slice A1 ws.length c1) ∧ W.cell? ⟨gb, 2, none⟩ = some (.slice A2 bs.length c2) ∧ W.cell? ⟨gb, 3, none⟩ = some (.int .i64 wide) ∧ Aside0 (FlO t gb A0 c0 rs A1 c1 ws A2 c2 bs wide W ∧ Below w0.heap.size w0 W)
theorem FlI.of {t gb : Nat} {A0 : Option Addr} {c0 : Nat} {rs : List Int} {A1 : Option Addr} {c1 : Nat} {ws : List Int} {A2 : Option Addr} {c2 : Nat} {bs : List Int} {wide : Int} {w0 W : World} (h : FlO t gb A0 c0 rs A1 c1 ws A2 c2 bs wide W) (hb : Below w0.heap.size w0 W) : FlI t gb A0 c0 rs A1 c1 ws A2 c2 bs wide w0 W :=
 ⟨(blk_cell h.1 0).trans rfl, (blk_cell h.1 1).trans rfl, (blk_cell h.1 2).trans rfl, (blk_cell h.1 3).trans rfl, ⟨h, hb⟩⟩
theorem FlI.below {t gb : Nat} {A0 : Option Addr} {c0 : Nat} {rs : List Int} {A1 : Option Addr} {c1 : Nat} {ws : List Int} {A2 : Option Addr} {c2 : Nat} {bs : List Int} {wide : Int} {w0 W W' : World} (h : FlI t gb A0 c0 rs A1 c1 ws A2 c2 bs wide w0 W) (hb : Below W.heap.size W W') : FlI t gb A0 c0 rs A1 c1 ws A2 c2 bs wide w0 W' :=
 FlI.of (h.2.2.2.2.out.1.below hb) (below_then h.2.2.2.2.out.2 h.2.2.2.2.out.2.size hb)
theorem FlI.drew {t gb : Nat} {A0 : Option Addr} {c0 : Nat} {rs : List Int} {A1 : Option Addr} {c1 : Nat} {ws : List Int} {A2 : Option Addr} {c2 : Nat} {bs : List Int} {wide : Int} {w0 W : World} (h : FlI t gb A0 c0 rs A1 c1 ws A2 c2 bs wide w0 W) : FlI t gb A0 c0 rs A1 c1 ws A2 c2 bs wide w0 W.drew := h.below (below_drew (Below.refl _ _))
def mustN (bs : List Int) (n : Nat) : Nat → Nat → Nat
 | 0, _ => n
 | g + 1, i => if bs.getD i 0 = 2 then i + 1 else mustN bs n g (i + 1)
theorem mustN_le (bs : List Int) (n : Nat) : ∀ (g i : Nat), i + g ≤ n → mustN bs n g i ≤ n
 | 0, _, _ => Nat.le_refl _
 | g + 1, i, h => by
  rw [mustN]
  split
  · omega
  · exact mustN_le bs n g (i + 1) (by omega)
def mustV (bs : List Int) (n : Nat) (i : Nat) : Nat := mustN bs n (bs.length - i) i
def FlK (t : Nat) (gb : Nat) (A0 : Option Addr) (c0 : Nat) (rs : List Int) (A1 : Option Addr) (c1 : Nat) (ws : List Int) (A2 : Option Addr) (c2 : Nat) (bs : List Int) (wide : Int) (p : Addr) (e : Int) (q : Addr) (y : Int) (w0 W : World) : Prop := FlO t gb A0 c0 rs A1 c1 ws A2 c2 bs wide W ∧ Below w0.heap.size w0 W ∧ w0.cell? p = some (.int .i64 e) ∧ w0.cell? q = some (.int .i64 y)
abbrev FlJ (t : Nat) (gb : Nat) (A0 : Option Addr) (c0 : Nat) (rs : List Int) (A1 : Option Addr) (c1 : Nat) (ws : List Int) (A2 : Option Addr) (c2 : Nat) (bs : List Int) (wide : Int) (p : Addr) (e : Int) (q : Addr) (y : Int) (w0 W : World) : Prop :=
 W.cell? ⟨gb, 0, none⟩ = some (.slice A0 rs.length c0) ∧ W.cell? ⟨gb, 1, none⟩ = some (.slice A1 ws.length c1) ∧ W.cell? ⟨gb, 2, none⟩ = some (.slice A2 bs.length c2) ∧ W.cell? ⟨gb, 3, none⟩ = some (.int .i64 wide) ∧ W.cell? p = some (.int .i64 e) ∧ W.cell? q = some (.int .i64 y) ∧ Aside0 (FlK t gb A0 c0 rs A1 c1 ws A2 c2 bs wide p e q y w0 W)
theorem FlJ.of {t gb : Nat} {A0 : Option Addr} {c0 : Nat} {rs : List Int} {A1 : Option Addr} {c1 : Nat} {ws : List Int} {A2 : Option Addr} {c2 : Nat} {bs : List Int} {wide : Int} {p : Addr} {e : Int} {q : Addr} {y : Int} {w0 W : World} (h : FlK t gb A0 c0 rs A1 c1 ws A2 c2 bs wide p e q y w0 W) : FlJ t gb A0 c0 rs A1 c1 ws A2 c2 bs wide p e q y w0 W :=
 ⟨(blk_cell h.1.1 0).trans rfl, (blk_cell h.1.1 1).trans rfl, (blk_cell h.1.1 2).trans rfl, (blk_cell h.1.1 3).trans rfl, (h.2.1.cell (World.block_lt_of_cell? _ _ h.2.2.1)).trans h.2.2.1, (h.2.1.cell (World.block_lt_of_cell? _ _ h.2.2.2)).trans h.2.2.2, ⟨h⟩⟩
theorem FlJ.below {t gb : Nat} {A0 : Option Addr} {c0 : Nat} {rs : List Int} {A1 : Option Addr} {c1 : Nat} {ws : List Int} {A2 : Option Addr} {c2 : Nat} {bs : List Int} {wide : Int} {p : Addr} {e : Int} {q : Addr} {y : Int} {w0 W W' : World} (h : FlJ t gb A0 c0 rs A1 c1 ws A2 c2 bs wide p e q y w0 W) (hb : Below W.heap.size W W') : FlJ t gb A0 c0 rs A1 c1 ws A2 c2 bs wide p e q y w0 W' :=
 FlJ.of ⟨h.2.2.2.2.2.2.out.1.below hb, below_then h.2.2.2.2.2.2.out.2.1 h.2.2.2.2.2.2.out.2.1.size hb, h.2.2.2.2.2.2.out.2.2⟩
theorem FlJ.drew {t gb : Nat} {A0 : Option Addr} {c0 : Nat} {rs : List Int} {A1 : Option Addr} {c1 : Nat} {ws : List Int} {A2 : Option Addr} {c2 : Nat} {bs : List Int} {wide : Int} {p : Addr} {e : Int} {q : Addr} {y : Int} {w0 W : World} (h : FlJ t gb A0 c0 rs A1 c1 ws A2 c2 bs wide p e q y w0 W) : FlJ t gb A0 c0 rs A1 c1 ws A2 c2 bs wide p e q y w0 W.drew := h.below (below_drew (Below.refl _ _))
def costV (bs : List Int) (W : Nat → Nat → Int) (wide : Int) (i j : Nat) : Int := if bs.getD (j - 1) 0 = 2 then 0 else (wide - W i j) * (wide - W i j)
def fitV (W : Nat → Nat → Int) (wide : Int) (i j : Nat) : Bool := decide (W i j ≤ wide)
def forcedN (F : Nat → Nat → Bool) (J : Nat → Bool) (n fr : Nat) : Nat → Nat → Nat → Nat
 | 0, _, tq => tq
 | g + 1, i, tq => if i < n ∧ J i = true then forcedN F J n fr g (i + 1) tq else if fr < tq ∧ F fr i = false then tq else forcedN F J n fr g (i + 1) i
def nextN (bs : List Int) (F : Nat → Nat → Bool) (fr : Nat) : Nat → Nat → Int → Int
 | 0, _, b => b
 | g + 1, i, b => nextN bs F fr g (i + 1) (if ¬ bs.getD (i - 1) 0 = 0 ∧ F fr i = true then (i : Int) else b)
def nextV (bs : List Int) (F : Nat → Nat → Bool) (J : Nat → Bool) (n fr : Nat) : Int :=
 if 0 < nextN bs F fr (mustV bs n fr - fr) (fr + 1) (-1) then nextN bs F fr (mustV bs n fr - fr) (fr + 1) (-1)
 else if (forcedN F J n fr (n - fr) (fr + 1) fr : Int) < (mustV bs n fr : Int) then (forcedN F J n fr (n - fr) (fr + 1) fr : Int) else (mustV bs n fr : Int)
def greedyN (N : Nat → Int) (n : Nat) : Nat → Nat → Option (List Int)
 | 0, at_ => if at_ < n then none else some []
 | g + 1, at_ => if at_ < n then (if 0 ≤ N at_ ∧ N at_ ≤ (n : Int) then (greedyN N n g (N at_).toNat).bind fun l => some (N at_ :: l) else none) else some []
theorem sq_fit (d : Int) (h : d.natAbs ≤ 1000000000) : 0 ≤ d * d ∧ d * d ≤ 1000000000000000000 := by
 have e := Int.natAbs_mul_self (a := d)
 have h2 := Nat.mul_le_mul h h
 omega
def impl_isLetter.f (a0 : Int) : Option (Bool) := if a0 ≥ 0 then (if a0 ≤ 1114111 then (if a0 < 55296 then (some true) else (some (decide (a0 > 57343)))) else (some false)) else (some false)
theorem impl_isLetter.calls (a0 : Int) (r : Bool) (w : World) (h : impl_isLetter.f a0 = some r) :
  Calls Tryz.prog 77 #[.int .i64 a0] w fun e w' => e = .returned (.bool r) ∧ Drawn0 w w' := by
 have H : (if a0 ≥ 0 then (if a0 ≤ 1114111 then (if a0 < 55296 then (some true) else (some (decide (a0 > 57343)))) else (some false)) else (some false)) = some r := h
 clear h
 by_cases c2 : a0 ≥ 0
 ·
  rw [if_pos c2] at H
  have c2b0 : decide (0 ≤ a0) = true := decide_eq_true c2
  clear c2
  by_cases c3 : a0 ≤ 1114111
  ·
   rw [if_pos c3] at H
   have c3b0 : decide (a0 ≤ 1114111) = true := decide_eq_true c3
   clear c3
   by_cases c4 : a0 < 55296
   ·
    rw [if_pos c4] at H
    have c4b0 : decide (a0 < 55296) = true := decide_eq_true c4
    clear c4
    obtain rfl := Option.some.inj H
    go_enter Tryz.func77, Tryz.ntmps77
    go_wp2
    go_ret
    exact ⟨zB, zD⟩
   ·
    rw [if_neg c4] at H
    have c4b0 : decide (a0 < 55296) = false := decide_eq_false c4
    clear c4
    obtain rfl := Option.some.inj H
    go_enter Tryz.func77, Tryz.ntmps77
    go_wp2
    go_ret
    exact ⟨zB, zD⟩
  ·
   rw [if_neg c3] at H
   have c3b0 : decide (a0 ≤ 1114111) = false := decide_eq_false c3
   clear c3
   obtain rfl := Option.some.inj H
   go_enter Tryz.func77, Tryz.ntmps77
   go_wp2
   go_ret
   exact ⟨zB, zD⟩
 ·
  rw [if_neg c2] at H
  have c2b0 : decide (0 ≤ a0) = false := decide_eq_false c2
  clear c2
  obtain rfl := Option.some.inj H
  go_enter Tryz.func77, Tryz.ntmps77
  go_wp2
  go_ret
  exact ⟨zB, zD⟩
def idxI (p : Int → Bool) (l : List Int) : Int := if l.any p then (l.findIdx p : Int) else -1
theorem idxI_hit {p : Int → Bool} {l : List Int} {k : Nat} (hk : k < l.length) (hp : p (l.getD k 0) = true) (hb : ∀ j, j < k → p (l.getD j 0) = false) : idxI p l = k := by
 have hm : l.getD k 0 = l[k] := by simp [List.getD_eq_getElem?_getD, hk]
 have ha : l.any p = true := List.any_eq_true.2 ⟨l[k], List.getElem_mem hk, by rw [← hm]; exact hp⟩
 have hf : l.findIdx p = k := by
  rw [List.findIdx_eq hk]
  refine ⟨by rw [← hm]; exact hp, fun j hj => ?_⟩
  have := hb j hj
  simpa [List.getD_eq_getElem?_getD, show j < l.length by omega] using this
 rw [idxI, if_pos ha, hf]
theorem idxI_miss {p : Int → Bool} {l : List Int} (hb : ∀ j, j < l.length → p (l.getD j 0) = false) : idxI p l = -1 := by
 have ha : ¬ l.any p = true := by
  rw [List.any_eq_true]
  rintro ⟨x, hx, hp⟩
  obtain ⟨j, hj, rfl⟩ := List.getElem_of_mem hx
  have := hb j hj
  simp [List.getD_eq_getElem?_getD, hj] at this
  rw [this] at hp
  cases hp
 rw [idxI, if_neg ha]
theorem idxI_nonneg (p : Int → Bool) (l : List Int) : decide (0 ≤ idxI p l) = l.any p := by
 unfold idxI
 cases l.any p <;> simp <;> omega
theorem idxI_calls (p : Int → Bool) (g : Nat) (lb : Array Value) (eg : ∀ args w, (callFunc g args).run Tryz.prog w = .ok (.enter g args) w) (A0 : Option Addr) (c0 : Nat) (l0 : List Int) (w : World) (hr0 : Kd.C (Kd.int .i64) w A0 l0.length l0)
  (hn : l0.length ≤ 9223372036854775806) (hp : ∀ W, Below w.heap.size w W → ∀ j, j < l0.length → Calls Tryz.prog g (#[.int .i64 (l0.getD j 0)] ++ lb) W fun e w' => e = .returned (.bool (p (l0.getD j 0))) ∧ Below w.heap.size w w') :
  Calls Tryz.prog 88 #[.slice A0 l0.length c0, .func (.func g) #[] lb] w fun e w' => e = .returned (.int .i64 (idxI p l0)) ∧ Below w.heap.size w w' := by
 have HR0 := az hr0
 have HP := az hp
 clear hr0 hp
 go_enter Tryz.func88, Tryz.ntmps88
 go_wp2
 go_loopg [5, 8] l0.length (fun gg _ s8 wr => ∃ kk : Nat, kk ≤ l0.length ∧ l0.length - kk ≤ gg ∧ s8 = .int .i64 kk ∧ Aside0 (Below w.heap.size w wr) ∧ Aside0 (∀ j, j < kk → p (l0.getD j 0) = false))
 case atStart => exact ⟨0, Nat.zero_le _, by omega, rfl, ⟨Below.refl _ w⟩, ⟨fun j hj => absurd hj (Nat.not_lt_zero _)⟩⟩
 case round =>
  obtain ⟨kk, hkk, hg, rfl, HB, HA⟩ := hrel
  by_cases hlt : kk < l0.length
  ·
   have hltz : (kk : Int) < (l0.length : Int) := by omega
   obtain ⟨ad, rfl, hx⟩ := Kd.at_int HR0.out (kk : Int) (by omega) hltz
   replace hx := (HB.out.cell (World.block_lt_of_cell? w _ hx)).trans hx
   have hcall := HP.out wr HB.out kk hlt
   simp only [rd, Int.toNat_natCast] at hx
   generalize hy : l0.getD kk 0 = y at hx hcall
   have HY := az hy
   clear hy
   cases hq : p y with
   | true =>
    have HQ := az hq
    rw [hq] at hcall
    clear hq
    go_wp2_with (go_at_fn g; refine hcall.mono ?_; rintro e w' ⟨rfl, hb'⟩)
    go_ret
    refine ⟨?_, hb'⟩
    rw [idxI_hit hlt (by rw [HY.out]; exact HQ.out) HA.out]
    rfl
   | false =>
    have HQ := az hq
    rw [hq] at hcall
    clear hq
    go_wp2_with (go_at_fn g; refine hcall.mono ?_; rintro e w' ⟨rfl, hb'⟩)
    go_roundg (l0.length - (kk + 1))
    case measure => omega
    case rel =>
     refine ⟨kk + 1, by omega, by omega, by go_num, ⟨hb'⟩, ⟨fun j hj => ?_⟩⟩
     by_cases e : j = kk
     ·
      subst e
      rw [HY.out]; exact HQ.out
     · exact HA.out j (by omega)
  ·
   have hltz : ¬ (kk : Int) < (l0.length : Int) := by omega
   have hk : kk = l0.length := by omega
   subst hk
   go_wp2
   go_ret
   refine ⟨?_, HB.out⟩
   rw [idxI_miss HA.out]
   rfl
def isLetV (r : Int) : Bool := decide (0 ≤ r) && decide (r ≤ 1114111) && (decide (r < 55296) || decide (57343 < r))
theorem isLet_f (r : Int) : impl_isLetter.f r = some (isLetV r) := by
 unfold impl_isLetter.f isLetV
 by_cases h0 : 0 ≤ r
 ·
  by_cases h1 : r ≤ 1114111
  ·
   by_cases h2 : r < 55296
   · simp [h0, h1, h2]
   · simp [h0, h1, h2]
  · simp [h0, h1]
 · simp [h0]
theorem hasI_calls (p : Int → Bool) (g : Nat) (lb : Array Value) (eg : ∀ args w, (callFunc g args).run Tryz.prog w = .ok (.enter g args) w) (A0 : Option Addr) (c0 : Nat) (l0 : List Int) (w : World) (hr0 : Kd.C (Kd.int .i64) w A0 l0.length l0)
  (hn : l0.length ≤ 9223372036854775806) (hp : ∀ W, Below w.heap.size w W → ∀ j, j < l0.length → Calls Tryz.prog g (#[.int .i64 (l0.getD j 0)] ++ lb) W fun e w' => e = .returned (.bool (p (l0.getD j 0))) ∧ Below w.heap.size w w') :
  Calls Tryz.prog 56 #[.slice A0 l0.length c0, .func (.func g) #[] lb] w fun e w' => e = .returned (.bool (l0.any p)) ∧ Below w.heap.size w w' := by
 rw [← idxI_nonneg]
 go_enter Tryz.func56, Tryz.ntmps56
 go_wp2_with (go_at_call 88; refine (idxI_calls p g lb eg A0 c0 l0 _ hr0 hn hp).mono ?_; rintro e w' ⟨rfl, hb'⟩)
 go_ret
 exact ⟨rfl, hb'⟩
def okV (l : List Int) : Bool := decide (l.length ≤ 80) && l.all isLetV
def impl_lettersOk.f (l0 : List Int) : Option Bool := some (okV l0)
theorem lettersOk_1_calls (x : Int) (W : World) : Calls Tryz.prog 76 #[.int .i64 x] W fun e w' => e = .returned (.bool (!isLetV x)) ∧ Drawn0 W w' := by
 go_enter Tryz.func76, Tryz.ntmps76
 go_wp2_with (go_at_call 77; refine (impl_isLetter.calls x (isLetV x) _ (isLet_f x)).mono ?_; rintro e w' ⟨rfl, ⟨nd, rfl⟩⟩)
 go_ret
 exact ⟨rfl, Drawn0.step (Drawn0.refl _) _⟩
theorem impl_lettersOk.calls (A0 : Option Addr) (c0 : Nat) (l0 : List Int) (r : Bool) (w : World) (hr0 : Kd.C (Kd.int .i64) w A0 l0.length l0) (hc0 : l0.length ≤ c0) (h : impl_lettersOk.f l0 = some r) :
  Calls Tryz.prog 48 #[.slice A0 l0.length c0] w fun e w' => e = .returned (.bool r) ∧ Below w.heap.size w w' := by
 obtain rfl := Option.some.inj h
 clear h
 by_cases hl : l0.length ≤ 80
 ·
  have hd : decide ((l0.length : Int) ≤ 80) = true := decide_eq_true (by omega)
  have e : okV l0 = !(l0.any fun x => !isLetV x) := by simp [okV, hl, List.all_eq_not_any_not]
  have HE := az e
  have HL := az hl
  clear e hl
  go_enter Tryz.func48, Tryz.ntmps48
  go_wp2_with (go_at_call 56; refine (hasI_calls (fun x => !isLetV x) 76 #[] (fun _ _ => by first | rfl | (go_simp; done)) A0 c0 l0 _ hr0 (zE HL.out) (fun W hb j hj => ((lettersOk_1_calls _ W).mono fun _ _ ⟨he, hd⟩ => ⟨he, hb.trans (hd.below.mono hb.size)⟩))).mono ?_; rintro e w' ⟨rfl, hb'⟩)
  go_ret
  exact ⟨by rw [HE.out]; rfl, hb'⟩
 ·
  have hd : decide ((l0.length : Int) ≤ 80) = false := decide_eq_false (by omega)
  have e : okV l0 = false := by simp [okV, hl]
  have HE := az e
  clear e hl
  go_enter Tryz.func48, Tryz.ntmps48
  go_wp2
  go_ret
  exact ⟨by rw [HE.out]; rfl, Below.refl _ _⟩
def impl_spanOk.f (a0_0 : Int) (a0_1 : Int) (a0_2 : Int) (a0_3 : Int) (a1 : Int) : Option (Bool) := if a0_0 ≥ 0 then (if a0_0 < a1 then (if a0_1 > a0_0 then (if a0_1 ≤ a1 then (if a0_2 ≥ 1 then (if a0_2 ≤ 40 then (if a0_3 ≥ 0 then (some (decide (a0_3 ≤ 9))) else (some false)) else (some false)) else (some false)) else (some false)) else (some false)) else (some false)) else (some false)
theorem impl_spanOk.calls (a0_0 : Int) (a0_1 : Int) (a0_2 : Int) (a0_3 : Int) (a1 : Int) (r : Bool) (w : World) (h : impl_spanOk.f a0_0 a0_1 a0_2 a0_3 a1 = some r) :
  Calls Tryz.prog 84 #[.agg #[.int .i64 a0_0, .int .i64 a0_1, .int .i64 a0_2, .int .i64 a0_3], .int .i64 a1] w fun e w' => e = .returned (.bool r) ∧ Below w.heap.size w w' := by
 have hu50 := Tryz.underlying50; have HB := az (Below.refl w.heap.size w); have H : (if a0_0 ≥ 0 then (if a0_0 < a1 then (if a0_1 > a0_0 then (if a0_1 ≤ a1 then (if a0_2 ≥ 1 then (if a0_2 ≤ 40 then (if a0_3 ≥ 0 then (some (decide (a0_3 ≤ 9))) else (some false)) else (some false)) else (some false)) else (some false)) else (some false)) else (some false)) else (some false)) = some r := h; clear h; by_cases c3 : a0_0 ≥ 0
 ·
  rw [if_pos c3] at H; have c3b0 : decide (0 ≤ a0_0) = true := decide_eq_true c3; clear c3; by_cases c4 : a0_0 < a1
  ·
   rw [if_pos c4] at H; have c4b0 : decide (a0_0 < a1) = true := decide_eq_true c4; clear c4; by_cases c5 : a0_1 > a0_0
   ·
    rw [if_pos c5] at H; have c5b0 : decide (a0_0 < a0_1) = true := decide_eq_true c5; clear c5; by_cases c6 : a0_1 ≤ a1
    ·
     rw [if_pos c6] at H; have c6b0 : decide (a0_1 ≤ a1) = true := decide_eq_true c6; clear c6; by_cases c7 : a0_2 ≥ 1
     ·
      rw [if_pos c7] at H; have c7b0 : decide (1 ≤ a0_2) = true := decide_eq_true c7; clear c7; by_cases c8 : a0_2 ≤ 40
      ·
       rw [if_pos c8] at H; have c8b0 : decide (a0_2 ≤ 40) = true := decide_eq_true c8; clear c8; by_cases c9 : a0_3 ≥ 0
       ·
        rw [if_pos c9] at H; have c9b0 : decide (0 ≤ a0_3) = true := decide_eq_true c9; clear c9; obtain rfl := Option.some.inj H; go_enter Tryz.func84, Tryz.ntmps84; go_wp2_with (first | ((with_reducible refine gate_dst (N := 2) rfl ?_); refine box_event ?hg (N := 2) ?hd (cs := #[.int .i64 a0_0, .int .i64 a0_1, .int .i64 a0_2, .int .i64 a0_3]) (t := 50) ?hr ?_; (case hd => rfl); (case hg => rfl); (case hr => first | (go_simp; done) | (go_simp; rfl)); intro gb269 hg w10 hbox hb; have n0_ := az (below_step (zA HB.out) hb); have n1_ := az (hbox); have n2_ := az ((by rw [hg]; exact (below_size (zA HB.out)) : w.heap.size ≤ gb269)); have n3_ := az ((by rw [hg]; exact (below_size (zA HB.out)) : w.heap.size ≤ gb269)); clear HB; have HB := n0_; have BK269 := n1_; have GW269 := n2_; have GE269 := n3_; clear n0_ n1_ n2_ n3_; clear hb hbox hg; have hcz11_0 : w10.cell? ⟨gb269, 0, none⟩ = some (.int .i64 a0_0) := (blk_cell BK269.out 0).trans rfl; have hcz11_1 : w10.cell? ⟨gb269, 1, none⟩ = some (.int .i64 a0_1) := (blk_cell BK269.out 1).trans rfl; have hcz11_2 : w10.cell? ⟨gb269, 2, none⟩ = some (.int .i64 a0_2) := (blk_cell BK269.out 2).trans rfl; have hcz11_3 : w10.cell? ⟨gb269, 3, none⟩ = some (.int .i64 a0_3) := (blk_cell BK269.out 3).trans rfl; have hfz11_0 := blk_frozen BK269.out 0; have hfz11_1 := blk_frozen BK269.out 1; have hfz11_2 := blk_frozen BK269.out 2; have hfz11_3 := blk_frozen BK269.out 3)); go_ret; exact ⟨zG, zI HB.out GE269.out⟩
       ·
        rw [if_neg c9] at H; have c9b0 : decide (0 ≤ a0_3) = false := decide_eq_false c9; clear c9; obtain rfl := Option.some.inj H; go_enter Tryz.func84, Tryz.ntmps84; go_wp2_with (first | ((with_reducible refine gate_dst (N := 2) rfl ?_); refine box_event ?hg (N := 2) ?hd (cs := #[.int .i64 a0_0, .int .i64 a0_1, .int .i64 a0_2, .int .i64 a0_3]) (t := 50) ?hr ?_; (case hd => rfl); (case hg => rfl); (case hr => first | (go_simp; done) | (go_simp; rfl)); intro gb269 hg w12 hbox hb; have n0_ := az (below_step (zA HB.out) hb); have n1_ := az (hbox); have n2_ := az ((by rw [hg]; exact (below_size (zA HB.out)) : w.heap.size ≤ gb269)); have n3_ := az ((by rw [hg]; exact (below_size (zA HB.out)) : w.heap.size ≤ gb269)); clear HB; have HB := n0_; have BK269 := n1_; have GW269 := n2_; have GE269 := n3_; clear n0_ n1_ n2_ n3_; clear hb hbox hg; have hcz13_0 : w12.cell? ⟨gb269, 0, none⟩ = some (.int .i64 a0_0) := (blk_cell BK269.out 0).trans rfl; have hcz13_1 : w12.cell? ⟨gb269, 1, none⟩ = some (.int .i64 a0_1) := (blk_cell BK269.out 1).trans rfl; have hcz13_2 : w12.cell? ⟨gb269, 2, none⟩ = some (.int .i64 a0_2) := (blk_cell BK269.out 2).trans rfl; have hcz13_3 : w12.cell? ⟨gb269, 3, none⟩ = some (.int .i64 a0_3) := (blk_cell BK269.out 3).trans rfl; have hfz13_0 := blk_frozen BK269.out 0; have hfz13_1 := blk_frozen BK269.out 1; have hfz13_2 := blk_frozen BK269.out 2; have hfz13_3 := blk_frozen BK269.out 3)); go_ret; exact ⟨zG, zI HB.out GE269.out⟩
      ·
       rw [if_neg c8] at H; have c8b0 : decide (a0_2 ≤ 40) = false := decide_eq_false c8; clear c8; obtain rfl := Option.some.inj H; go_enter Tryz.func84, Tryz.ntmps84; go_wp2_with (first | ((with_reducible refine gate_dst (N := 2) rfl ?_); refine box_event ?hg (N := 2) ?hd (cs := #[.int .i64 a0_0, .int .i64 a0_1, .int .i64 a0_2, .int .i64 a0_3]) (t := 50) ?hr ?_; (case hd => rfl); (case hg => rfl); (case hr => first | (go_simp; done) | (go_simp; rfl)); intro gb269 hg w14 hbox hb; have n0_ := az (below_step (zA HB.out) hb); have n1_ := az (hbox); have n2_ := az ((by rw [hg]; exact (below_size (zA HB.out)) : w.heap.size ≤ gb269)); have n3_ := az ((by rw [hg]; exact (below_size (zA HB.out)) : w.heap.size ≤ gb269)); clear HB; have HB := n0_; have BK269 := n1_; have GW269 := n2_; have GE269 := n3_; clear n0_ n1_ n2_ n3_; clear hb hbox hg; have hcz15_0 : w14.cell? ⟨gb269, 0, none⟩ = some (.int .i64 a0_0) := (blk_cell BK269.out 0).trans rfl; have hcz15_1 : w14.cell? ⟨gb269, 1, none⟩ = some (.int .i64 a0_1) := (blk_cell BK269.out 1).trans rfl; have hcz15_2 : w14.cell? ⟨gb269, 2, none⟩ = some (.int .i64 a0_2) := (blk_cell BK269.out 2).trans rfl; have hcz15_3 : w14.cell? ⟨gb269, 3, none⟩ = some (.int .i64 a0_3) := (blk_cell BK269.out 3).trans rfl; have hfz15_0 := blk_frozen BK269.out 0; have hfz15_1 := blk_frozen BK269.out 1; have hfz15_2 := blk_frozen BK269.out 2; have hfz15_3 := blk_frozen BK269.out 3)); go_ret; exact ⟨zG, zI HB.out GE269.out⟩
     ·
      rw [if_neg c7] at H; have c7b0 : decide (1 ≤ a0_2) = false := decide_eq_false c7; clear c7; obtain rfl := Option.some.inj H; go_enter Tryz.func84, Tryz.ntmps84; go_wp2_with (first | ((with_reducible refine gate_dst (N := 2) rfl ?_); refine box_event ?hg (N := 2) ?hd (cs := #[.int .i64 a0_0, .int .i64 a0_1, .int .i64 a0_2, .int .i64 a0_3]) (t := 50) ?hr ?_; (case hd => rfl); (case hg => rfl); (case hr => first | (go_simp; done) | (go_simp; rfl)); intro gb269 hg w16 hbox hb; have n0_ := az (below_step (zA HB.out) hb); have n1_ := az (hbox); have n2_ := az ((by rw [hg]; exact (below_size (zA HB.out)) : w.heap.size ≤ gb269)); have n3_ := az ((by rw [hg]; exact (below_size (zA HB.out)) : w.heap.size ≤ gb269)); clear HB; have HB := n0_; have BK269 := n1_; have GW269 := n2_; have GE269 := n3_; clear n0_ n1_ n2_ n3_; clear hb hbox hg; have hcz17_0 : w16.cell? ⟨gb269, 0, none⟩ = some (.int .i64 a0_0) := (blk_cell BK269.out 0).trans rfl; have hcz17_1 : w16.cell? ⟨gb269, 1, none⟩ = some (.int .i64 a0_1) := (blk_cell BK269.out 1).trans rfl; have hcz17_2 : w16.cell? ⟨gb269, 2, none⟩ = some (.int .i64 a0_2) := (blk_cell BK269.out 2).trans rfl; have hcz17_3 : w16.cell? ⟨gb269, 3, none⟩ = some (.int .i64 a0_3) := (blk_cell BK269.out 3).trans rfl; have hfz17_0 := blk_frozen BK269.out 0; have hfz17_1 := blk_frozen BK269.out 1; have hfz17_2 := blk_frozen BK269.out 2; have hfz17_3 := blk_frozen BK269.out 3)); go_ret; exact ⟨zG, zI HB.out GE269.out⟩
    ·
     rw [if_neg c6] at H; have c6b0 : decide (a0_1 ≤ a1) = false := decide_eq_false c6; clear c6; obtain rfl := Option.some.inj H; go_enter Tryz.func84, Tryz.ntmps84; go_wp2_with (first | ((with_reducible refine gate_dst (N := 2) rfl ?_); refine box_event ?hg (N := 2) ?hd (cs := #[.int .i64 a0_0, .int .i64 a0_1, .int .i64 a0_2, .int .i64 a0_3]) (t := 50) ?hr ?_; (case hd => rfl); (case hg => rfl); (case hr => first | (go_simp; done) | (go_simp; rfl)); intro gb269 hg w18 hbox hb; have n0_ := az (below_step (zA HB.out) hb); have n1_ := az (hbox); have n2_ := az ((by rw [hg]; exact (below_size (zA HB.out)) : w.heap.size ≤ gb269)); have n3_ := az ((by rw [hg]; exact (below_size (zA HB.out)) : w.heap.size ≤ gb269)); clear HB; have HB := n0_; have BK269 := n1_; have GW269 := n2_; have GE269 := n3_; clear n0_ n1_ n2_ n3_; clear hb hbox hg; have hcz19_0 : w18.cell? ⟨gb269, 0, none⟩ = some (.int .i64 a0_0) := (blk_cell BK269.out 0).trans rfl; have hcz19_1 : w18.cell? ⟨gb269, 1, none⟩ = some (.int .i64 a0_1) := (blk_cell BK269.out 1).trans rfl; have hcz19_2 : w18.cell? ⟨gb269, 2, none⟩ = some (.int .i64 a0_2) := (blk_cell BK269.out 2).trans rfl; have hcz19_3 : w18.cell? ⟨gb269, 3, none⟩ = some (.int .i64 a0_3) := (blk_cell BK269.out 3).trans rfl; have hfz19_0 := blk_frozen BK269.out 0; have hfz19_1 := blk_frozen BK269.out 1; have hfz19_2 := blk_frozen BK269.out 2; have hfz19_3 := blk_frozen BK269.out 3)); go_ret; exact ⟨zG, zI HB.out GE269.out⟩
   ·
    rw [if_neg c5] at H; have c5b0 : decide (a0_0 < a0_1) = false := decide_eq_false c5; clear c5; obtain rfl := Option.some.inj H; go_enter Tryz.func84, Tryz.ntmps84; go_wp2_with (first | ((with_reducible refine gate_dst (N := 2) rfl ?_); refine box_event ?hg (N := 2) ?hd (cs := #[.int .i64 a0_0, .int .i64 a0_1, .int .i64 a0_2, .int .i64 a0_3]) (t := 50) ?hr ?_; (case hd => rfl); (case hg => rfl); (case hr => first | (go_simp; done) | (go_simp; rfl)); intro gb269 hg w20 hbox hb; have n0_ := az (below_step (zA HB.out) hb); have n1_ := az (hbox); have n2_ := az ((by rw [hg]; exact (below_size (zA HB.out)) : w.heap.size ≤ gb269)); have n3_ := az ((by rw [hg]; exact (below_size (zA HB.out)) : w.heap.size ≤ gb269)); clear HB; have HB := n0_; have BK269 := n1_; have GW269 := n2_; have GE269 := n3_; clear n0_ n1_ n2_ n3_; clear hb hbox hg; have hcz21_0 : w20.cell? ⟨gb269, 0, none⟩ = some (.int .i64 a0_0) := (blk_cell BK269.out 0).trans rfl; have hcz21_1 : w20.cell? ⟨gb269, 1, none⟩ = some (.int .i64 a0_1) := (blk_cell BK269.out 1).trans rfl; have hcz21_2 : w20.cell? ⟨gb269, 2, none⟩ = some (.int .i64 a0_2) := (blk_cell BK269.out 2).trans rfl; have hcz21_3 : w20.cell? ⟨gb269, 3, none⟩ = some (.int .i64 a0_3) := (blk_cell BK269.out 3).trans rfl; have hfz21_0 := blk_frozen BK269.out 0; have hfz21_1 := blk_frozen BK269.out 1; have hfz21_2 := blk_frozen BK269.out 2; have hfz21_3 := blk_frozen BK269.out 3)); go_ret; exact ⟨zG, zI HB.out GE269.out⟩
  ·
   rw [if_neg c4] at H; have c4b0 : decide (a0_0 < a1) = false := decide_eq_false c4; clear c4; obtain rfl := Option.some.inj H; go_enter Tryz.func84, Tryz.ntmps84; go_wp2_with (first | ((with_reducible refine gate_dst (N := 2) rfl ?_); refine box_event ?hg (N := 2) ?hd (cs := #[.int .i64 a0_0, .int .i64 a0_1, .int .i64 a0_2, .int .i64 a0_3]) (t := 50) ?hr ?_; (case hd => rfl); (case hg => rfl); (case hr => first | (go_simp; done) | (go_simp; rfl)); intro gb269 hg w22 hbox hb; have n0_ := az (below_step (zA HB.out) hb); have n1_ := az (hbox); have n2_ := az ((by rw [hg]; exact (below_size (zA HB.out)) : w.heap.size ≤ gb269)); have n3_ := az ((by rw [hg]; exact (below_size (zA HB.out)) : w.heap.size ≤ gb269)); clear HB; have HB := n0_; have BK269 := n1_; have GW269 := n2_; have GE269 := n3_; clear n0_ n1_ n2_ n3_; clear hb hbox hg; have hcz23_0 : w22.cell? ⟨gb269, 0, none⟩ = some (.int .i64 a0_0) := (blk_cell BK269.out 0).trans rfl; have hcz23_1 : w22.cell? ⟨gb269, 1, none⟩ = some (.int .i64 a0_1) := (blk_cell BK269.out 1).trans rfl; have hcz23_2 : w22.cell? ⟨gb269, 2, none⟩ = some (.int .i64 a0_2) := (blk_cell BK269.out 2).trans rfl; have hcz23_3 : w22.cell? ⟨gb269, 3, none⟩ = some (.int .i64 a0_3) := (blk_cell BK269.out 3).trans rfl; have hfz23_0 := blk_frozen BK269.out 0; have hfz23_1 := blk_frozen BK269.out 1; have hfz23_2 := blk_frozen BK269.out 2; have hfz23_3 := blk_frozen BK269.out 3)); go_ret; exact ⟨zG, zI HB.out GE269.out⟩
 ·
  rw [if_neg c3] at H; have c3b0 : decide (0 ≤ a0_0) = false := decide_eq_false c3; clear c3; obtain rfl := Option.some.inj H; go_enter Tryz.func84, Tryz.ntmps84; go_wp2_with (first | ((with_reducible refine gate_dst (N := 2) rfl ?_); refine box_event ?hg (N := 2) ?hd (cs := #[.int .i64 a0_0, .int .i64 a0_1, .int .i64 a0_2, .int .i64 a0_3]) (t := 50) ?hr ?_; (case hd => rfl); (case hg => rfl); (case hr => first | (go_simp; done) | (go_simp; rfl)); intro gb269 hg w24 hbox hb; have n0_ := az (below_step (zA HB.out) hb); have n1_ := az (hbox); have n2_ := az ((by rw [hg]; exact (below_size (zA HB.out)) : w.heap.size ≤ gb269)); have n3_ := az ((by rw [hg]; exact (below_size (zA HB.out)) : w.heap.size ≤ gb269)); clear HB; have HB := n0_; have BK269 := n1_; have GW269 := n2_; have GE269 := n3_; clear n0_ n1_ n2_ n3_; clear hb hbox hg; have hcz25_0 : w24.cell? ⟨gb269, 0, none⟩ = some (.int .i64 a0_0) := (blk_cell BK269.out 0).trans rfl; have hcz25_1 : w24.cell? ⟨gb269, 1, none⟩ = some (.int .i64 a0_1) := (blk_cell BK269.out 1).trans rfl; have hcz25_2 : w24.cell? ⟨gb269, 2, none⟩ = some (.int .i64 a0_2) := (blk_cell BK269.out 2).trans rfl; have hcz25_3 : w24.cell? ⟨gb269, 3, none⟩ = some (.int .i64 a0_3) := (blk_cell BK269.out 3).trans rfl; have hfz25_0 := blk_frozen BK269.out 0; have hfz25_1 := blk_frozen BK269.out 1; have hfz25_2 := blk_frozen BK269.out 2; have hfz25_3 := blk_frozen BK269.out 3)); go_ret; exact ⟨zG, zI HB.out GE269.out⟩
abbrev q27M0 : Array Bool := #[false, false, false, false, false, false, false, false, false, false, false, false, false, false, false, false, false, false, false]
abbrev q27M1 : Array Bool := #[false, true, false, false, false, false, false, false, false, false, false, false, false, false, false, false, false, false, false]
abbrev q27M2 : Array Bool := #[true, true, false, false, false, false, false, false, false, false, false, false, false, false, false, false, false, false, false]
abbrev q27M3 : Array Bool := #[true, true, true, false, false, false, false, false, false, false, false, false, false, false, false, false, false, false, false]
abbrev q27M4 : Array Bool := #[true, true, true, true, false, false, false, false, false, false, false, false, false, false, false, false, false, false, false]
abbrev q27M5 : Array Bool := #[true, true, true, true, true, false, false, false, false, false, false, false, false, false, false, false, false, false, false]
abbrev q27M6 : Array Bool := #[true, true, true, true, true, true, false, false, false, false, false, false, false, false, false, false, false, false, false]
abbrev q27M7 : Array Bool := #[true, true, true, true, true, true, true, false, false, false, false, false, false, false, false, false, false, false, false]
abbrev q27M8 : Array Bool := #[true, true, true, true, true, true, true, true, false, false, false, false, false, false, false, false, false, false, false]
abbrev q27M9 : Array Bool := #[true, true, true, true, true, true, true, true, true, false, false, false, false, false, false, false, false, false, false]
abbrev q27M10 : Array Bool := #[true, true, true, true, true, true, true, true, true, true, false, false, false, false, false, false, false, false, false]
abbrev q27M11 : Array Bool := #[true, true, true, true, true, true, true, true, true, true, true, false, false, false, false, false, false, false, false]
abbrev q27M12 : Array Bool := #[true, true, true, true, true, true, true, true, true, true, true, true, false, false, false, false, false, false, false]
abbrev q27M13 : Array Bool := #[true, true, true, true, true, true, true, true, true, true, true, true, true, false, false, false, false, false, false]
abbrev q27M14 : Array Bool := #[true, true, true, true, true, true, true, true, true, true, true, true, true, false, true, false, false, false, false]
abbrev q27M15 : Array Bool := #[true, true, true, true, true, true, true, true, true, true, true, true, true, true, true, false, false, false, false]
abbrev q27M16 : Array Bool := #[true, true, true, true, true, true, true, true, true, true, true, true, true, true, true, true, false, false, false]
abbrev q27M17 : Array Bool := #[true, true, true, true, true, true, true, true, true, true, true, true, true, true, true, true, true, false, false]
abbrev q27M18 : Array Bool := #[true, true, true, true, true, true, true, true, true, true, true, true, true, true, true, true, true, true, false]
abbrev q27M19 : Array Bool := #[true, true, true, true, true, true, true, true, true, true, true, true, true, true, true, true, true, true, true]
abbrev q27M20 : Array Bool := #[true, true, true, true, true, true, true, true, true, true, true, true, true, true, false, false, false, false, false]
theorem q27s {α : Type} (l : List α) (i : Nat) (a : α) : l.toArray.setIfInBounds i a = (l.set i a).toArray := List.setIfInBounds_toArray ..
theorem q27z {α : Type} (a : α) (l : List α) (b : α) : (a :: l).set 0 b = b :: l := List.set_cons_zero ..
theorem q27n {α : Type} (a : α) (l : List α) (i : Nat) (b : α) : (a :: l).set (i + 1) b = a :: l.set i b := List.set_cons_succ ..
def impl_SpansOk.l0 : Nat → List (S50) → Int → List (S50) → Int → Int → Option (Bool)
 | 0, _, _, _, _, _ => none
 | k + 1, x0, x1, x7, x8, x9 => if x9 < x8 then (if 0 ≤ x9 then (if x9 < (x7.length : Int) then ((impl_spanOk.f ((rd_T50 x7 x9).f0) ((rd_T50 x7 x9).f1) ((rd_T50 x7 x9).f2) ((rd_T50 x7 x9).f3) x1).bind fun t272 => (if t272 = true then (if x9 > 0 then (if 0 ≤ (wrap64 (x9 - 1)) then (if (wrap64 (x9 - 1)) < (x0.length : Int) then (if ((rd_T50 x0 (wrap64 (x9 - 1))).f1) > ((rd_T50 x7 x9).f0) then (some false) else (impl_SpansOk.l0 k x0 x1 x7 x8 (wrap64 (x9 + 1)))) else (none)) else (none)) else (impl_SpansOk.l0 k x0 x1 x7 x8 (wrap64 (x9 + 1)))) else (some false))) else (none)) else (none)) else (if x1 ≥ 0 then (if x1 ≤ 80 then (some (decide ((x0.length : Int) ≤ 12))) else (some false)) else (some false))
def impl_SpansOk.f (k : Nat) (l0 : List (S50)) (a1 : Int) : Option (Bool) := impl_SpansOk.l0 k l0 a1 l0 (l0.length : Int) 0
theorem impl_SpansOk.mono_l : ∀ k, (∀ y0 y1 y2 y3 y4, LeO (impl_SpansOk.l0 k y0 y1 y2 y3 y4) (impl_SpansOk.l0 (k + 1) y0 y1 y2 y3 y4))
 | 0 => fun _ _ _ _ _ r h => by simp [impl_SpansOk.l0] at h
 | k + 1 => by
  have ih0 := impl_SpansOk.mono_l k
  ·
   intro y0 y1 y2 y3 y4; unfold impl_SpansOk.l0
   repeat' first
   | (with_reducible exact ih0 _ _ _ _ _)
   | (with_reducible exact LeO.refl _)
   | (with_reducible exact LeO.none _)
   | (with_reducible refine LeO.ite ?_ ?_)
   | (with_reducible refine LeO.bind ?_ (fun _ => ?_))
   | exact ih0 _ _ _ _ _
   | exact LeO.none _
   | refine LeO.ite ?_ ?_
   | refine LeO.bind ?_ (fun _ => ?_)
theorem impl_SpansOk.mono : ∀ a0 a1 k, LeO (impl_SpansOk.f k a0 a1) (impl_SpansOk.f (k + 1) a0 a1) := by
 intro a0 a1 k; have ih0 := impl_SpansOk.mono_l k; unfold impl_SpansOk.f
 repeat' first
   | (with_reducible exact ih0 _ _ _ _ _)
   | (with_reducible exact LeO.refl _)
   | (with_reducible exact LeO.none _)
   | (with_reducible refine LeO.ite ?_ ?_)
   | (with_reducible refine LeO.bind ?_ (fun _ => ?_))
   | exact ih0 _ _ _ _ _
   | exact LeO.none _
   | refine LeO.ite ?_ ?_
   | refine LeO.bind ?_ (fun _ => ?_)
def impl_SpansOk.T4 : Bool × List (List Nat × List Nat) := (true, [([], []), ([], []), ([0, 1], [0, 1]), ([2], [2]), ([3, 2], [3]), ([4], [4]), ([5, 4], [4, 5]), ([6, 4, 4], [4, 6]), ([7], [7]), ([7], [7]), ([9, 7], [7, 9]), ([8, 10, 7], [7, 8, 10]), ([11, 7], [7, 11]), ([12, 7], [7, 12]), ([7], [7]), ([14, 7], [7, 14]), ([13, 15, 7], [7, 13, 15]), ([7, 16, 4], [4, 7, 16]), ([4, 17], [4, 17])])
def impl_SpansOk.B4 : List Nat := [0, 0, 3, 7, 15, 31, 63, 127, 255, 255, 767, 2047, 4095, 8191, 255, 16639, 65535, 131071, 262143]
theorem impl_SpansOk.tab4 : rtab .any (opsOf Tryz.f54 4) = impl_SpansOk.T4 := by kernel_rfl
theorem impl_SpansOk.bits4 : waitsOk impl_SpansOk.T4.2 impl_SpansOk.B4 = true := by kernel_rfl
theorem impl_SpansOk.calls (k : Nat) (A0 : Option Addr) (c0 : Nat) (l0 : List (S50)) (a1 : Int) (r : Bool) (w : World) (hr0 : Kd.C k50 w A0 l0.length l0) (hc0 : l0.length ≤ c0) (h : impl_SpansOk.f k l0 a1 = some r) :
  Calls Tryz.prog 54 #[.slice A0 l0.length c0, .int .i64 a1] w fun e w' => e = .returned (.bool r) ∧ Below w.heap.size w w' := by
 have hu50 := Tryz.underlying50; have HR0 := az hr0; have HC0 := az hc0; clear hr0 hc0; have HB := az (Below.refl w.heap.size w); have H : (impl_SpansOk.l0 k l0 a1 l0 (l0.length : Int) 0) = some r := h; clear h; have H' := az H; clear H; go_enter Tryz.func54, Tryz.ntmps54; go_wp2; go_loopg [9] k (fun kq v9 w' => ∃ (x9_1 : Int), v9 = .int .i64 x9_1 ∧ Aside0 (impl_SpansOk.l0 kq l0 a1 l0 (l0.length : Int) x9_1 = some r) ∧ Aside0 (kq ≤ k) ∧ Aside0 (Below w.heap.size w w'))
 case atStart => exact ⟨(0), zB, H', ⟨Nat.le_refl _⟩, ⟨zA HB.out⟩⟩
 case round =>
  clear H'; (try clear p2); obtain ⟨x9_1, rfl, HA, HK1, HB⟩ := hrel
  cases gk with
  | zero => exact absurd HA.out (by simp [impl_SpansOk.l0])
  | succ k1 =>
   have H := HA.out; clear HA; simp only [impl_SpansOk.l0] at H; by_cases c3 : x9_1 < (l0.length : Int)
   ·
    rw [if_pos c3] at H; have c3b0 : decide (x9_1 < (l0.length : Int)) = true := decide_eq_true c3; clear c3; by_cases c4 : 0 ≤ x9_1
    ·
     rw [if_pos c4] at H; have c4b0 : decide (0 ≤ x9_1) = true := decide_eq_true c4; clear c4; by_cases c5 : x9_1 < (l0.length : Int)
     ·
      rw [if_pos c5] at H; have c5b0 : decide (x9_1 < (l0.length : Int)) = true := decide_eq_true c5; clear c5; replace H := Option.bind_eq_some_iff.mp H; obtain ⟨t272, A60, H⟩ := H; replace H : (if t272 = true then (if x9_1 > 0 then (if 0 ≤ (wrap64 (x9_1 - 1)) then (if (wrap64 (x9_1 - 1)) < (l0.length : Int) then (if ((rd_T50 l0 (wrap64 (x9_1 - 1))).f1) > ((rd_T50 l0 x9_1).f0) then (some false) else (impl_SpansOk.l0 k1 l0 a1 l0 (l0.length : Int) (wrap64 (x9_1 + 1)))) else (none)) else (none)) else (impl_SpansOk.l0 k1 l0 a1 l0 (l0.length : Int) (wrap64 (x9_1 + 1)))) else (some false)) = some r := H; have A6 := az A60; clear A60; by_cases c7 : t272 = true
      ·
       subst c7; have H1 : (if x9_1 > 0 then (if 0 ≤ (wrap64 (x9_1 - 1)) then (if (wrap64 (x9_1 - 1)) < (l0.length : Int) then (if ((rd_T50 l0 (wrap64 (x9_1 - 1))).f1) > ((rd_T50 l0 x9_1).f0) then (some false) else (impl_SpansOk.l0 k1 l0 a1 l0 (l0.length : Int) (wrap64 (x9_1 + 1)))) else (none)) else (none)) else (impl_SpansOk.l0 k1 l0 a1 l0 (l0.length : Int) (wrap64 (x9_1 + 1)))) = some r := by rw [if_pos rfl] at H; exact H
       clear H; have H := H1; clear H1; by_cases c8 : x9_1 > 0
       ·
        rw [if_pos c8] at H; have c8b0 : decide (0 < x9_1) = true := decide_eq_true c8; clear c8; obtain ⟨ji9, hji9⟩ : ∃ j_ : Int, (wrap64 (x9_1 - 1)) = j_ := ⟨_, rfl⟩; replace H : (if 0 ≤ (ji9) then (if (ji9) < (l0.length : Int) then (if ((rd_T50 l0 (ji9)).f1) > ((rd_T50 l0 x9_1).f0) then (some false) else (impl_SpansOk.l0 k1 l0 a1 l0 (l0.length : Int) (wrap64 (x9_1 + 1)))) else (none)) else (none)) = some r := by first | (rw [hji9] at H; exact H) | (simp only [hji9] at H ⊢; exact H)
        (try rw [hji9] at A6); have hji9w : (IntKind.i64.wrap (x9_1 - 1)) = ji9 := (i64_w _).trans hji9; by_cases c10 : 0 ≤ (ji9)
        ·
         rw [if_pos c10] at H; have c10b0 : decide (0 ≤ (ji9)) = true := decide_eq_true c10; clear c10; by_cases c11 : (ji9) < (l0.length : Int)
         ·
          rw [if_pos c11] at H; have c11b0 : decide ((ji9) < (l0.length : Int)) = true := decide_eq_true c11; clear c11; by_cases c12 : ((rd_T50 l0 (ji9)).f1) > ((rd_T50 l0 x9_1).f0)
          ·
           rw [if_pos c12] at H; have c12b0 : decide (((rd_T50 l0 x9_1).f0) < ((rd_T50 l0 (ji9)).f1)) = true := decide_eq_true c12; clear c12; obtain rfl := Option.some.inj H; have p270 : 0 ≤ (x9_1 : Int) := of_decide_eq_true (by assumption); have q270 : x9_1 < (l0.length : Int) := of_decide_eq_true (by assumption); obtain ⟨ad270, e270, hx270_0, hx270_1, hx270_2, hx270_3⟩ := at_T50 HR0.out x9_1 p270 q270
           cases e270
           replace hx270_0 := (HB.out.cell (World.block_lt_of_cell? w _ hx270_0)).trans hx270_0; replace hx270_1 := (HB.out.cell (World.block_lt_of_cell? w _ hx270_1)).trans hx270_1; replace hx270_2 := (HB.out.cell (World.block_lt_of_cell? w _ hx270_2)).trans hx270_2; replace hx270_3 := (HB.out.cell (World.block_lt_of_cell? w _ hx270_3)).trans hx270_3; replace p270 := eq_true p270; replace q270 := eq_true q270; (try go_wp2_with (first | ((with_reducible refine gate_dst (N := 6) rfl ?_); (try (refine gate_guard (by rfl) ?_; dsimp only)); refine box_event ?hg (N := 6) ?hd (cs := #[.int .i64 0, .int .i64 0, .int .i64 0, .int .i64 0]) (t := 50) ?hr ?_; (case hd => rfl); (case hg => rfl); (case hr => first | (go_simp; done) | (go_simp; rfl)); intro gb271 hg w13 hbox hb; have n0_ := az (below_step (zA HB.out) hb); have n1_ := az (hbox); have n2_ := az ((by rw [hg]; exact (below_size (zA HB.out)) : w.heap.size ≤ gb271)); have n3_ := az ((by rw [hg]; exact (below_size (zA HB.out)) : w.heap.size ≤ gb271)); clear HB; have HB := n0_; have BK271 := n1_; have GW271 := n2_; have GE271 := n3_; clear n0_ n1_ n2_ n3_; clear hb hbox hg; have hcz14_0 : w13.cell? ⟨gb271, 0, none⟩ = some (.int .i64 0) := (blk_cell BK271.out 0).trans rfl; have hcz14_1 : w13.cell? ⟨gb271, 1, none⟩ = some (.int .i64 0) := (blk_cell BK271.out 1).trans rfl; have hcz14_2 : w13.cell? ⟨gb271, 2, none⟩ = some (.int .i64 0) := (blk_cell BK271.out 2).trans rfl; have hcz14_3 : w13.cell? ⟨gb271, 3, none⟩ = some (.int .i64 0) := (blk_cell BK271.out 3).trans rfl; have hfz14_0 := blk_frozen BK271.out 0; have hfz14_1 := blk_frozen BK271.out 1; have hfz14_2 := blk_frozen BK271.out 2; have hfz14_3 := blk_frozen BK271.out 3))); have n0_ : Aside0 (((((w13.setCell ⟨gb271, 0, none⟩ (.int .i64 ((rd_T50 l0 x9_1).f0))).setCell ⟨gb271, 1, none⟩ (.int .i64 ((rd_T50 l0 x9_1).f1))).setCell ⟨gb271, 2, none⟩ (.int .i64 ((rd_T50 l0 x9_1).f2))).setCell ⟨gb271, 3, none⟩ (.int .i64 ((rd_T50 l0 x9_1).f3))).heap[gb271]? = some (.cells #[.int .i64 ((rd_T50 l0 x9_1).f0), .int .i64 ((rd_T50 l0 x9_1).f1), .int .i64 ((rd_T50 l0 x9_1).f2), .int .i64 ((rd_T50 l0 x9_1).f3)] 50 (0, 0))) := ⟨by (with_reducible repeat (first | refine blk_drewN ?_ _ | refine blk_drew ?_ | refine blk_alloc ?_ _)); refine blk_put (cs := #[.int .i64 ((rd_T50 l0 x9_1).f0), .int .i64 ((rd_T50 l0 x9_1).f1), .int .i64 ((rd_T50 l0 x9_1).f2), .int .i64 0]) ?_ 3 _ rfl; (with_reducible repeat (first | refine blk_drewN ?_ _ | refine blk_drew ?_ | refine blk_alloc ?_ _)); refine blk_put (cs := #[.int .i64 ((rd_T50 l0 x9_1).f0), .int .i64 ((rd_T50 l0 x9_1).f1), .int .i64 0, .int .i64 0]) ?_ 2 _ rfl; (with_reducible repeat (first | refine blk_drewN ?_ _ | refine blk_drew ?_ | refine blk_alloc ?_ _)); refine blk_put (cs := #[.int .i64 ((rd_T50 l0 x9_1).f0), .int .i64 0, .int .i64 0, .int .i64 0]) ?_ 1 _ rfl; (with_reducible repeat (first | refine blk_drewN ?_ _ | refine blk_drew ?_ | refine blk_alloc ?_ _)); refine blk_put (cs := #[.int .i64 0, .int .i64 0, .int .i64 0, .int .i64 0]) ?_ 0 _ rfl; (with_reducible repeat (first | refine blk_drewN ?_ _ | refine blk_drew ?_ | refine blk_alloc ?_ _)); exact BK271.out⟩; have n1_ : Aside0 (Below w.heap.size w ((((w13.setCell ⟨gb271, 0, none⟩ (.int .i64 ((rd_T50 l0 x9_1).f0))).setCell ⟨gb271, 1, none⟩ (.int .i64 ((rd_T50 l0 x9_1).f1))).setCell ⟨gb271, 2, none⟩ (.int .i64 ((rd_T50 l0 x9_1).f2))).setCell ⟨gb271, 3, none⟩ (.int .i64 ((rd_T50 l0 x9_1).f3)))) := ⟨zI HB.out GE271.out⟩
           (try clear BK271); (try clear HB); generalize ((((w13.setCell ⟨gb271, 0, none⟩ (.int .i64 ((rd_T50 l0 x9_1).f0))).setCell ⟨gb271, 1, none⟩ (.int .i64 ((rd_T50 l0 x9_1).f1))).setCell ⟨gb271, 2, none⟩ (.int .i64 ((rd_T50 l0 x9_1).f2))).setCell ⟨gb271, 3, none⟩ (.int .i64 ((rd_T50 l0 x9_1).f3))) = w15 at n0_ n1_ ⊢; have BK271 := n0_; have HB := n1_; clear n0_ n1_; have n0_ := az (blk_drew BK271.out); have n1_ := az (below_drew1 HB.out); clear BK271; clear HB; have BK271 := n0_; have HB := n1_; clear n0_ n1_; have p273 : 0 ≤ ((ji9) : Int) := of_decide_eq_true (by assumption); have q273 : (ji9) < (l0.length : Int) := of_decide_eq_true (by assumption); obtain ⟨ad273, e273, hx273_0, hx273_1, hx273_2, hx273_3⟩ := at_T50 HR0.out (ji9) p273 q273; have hw273_3 := hx273_3; have hw273_2 := hx273_2; have hw273_1 := hx273_1; have hw273_0 := hx273_0; obtain rfl : ad270 = ad273 := (by injection e273); replace hx273_0 := (HB.out.cell (World.block_lt_of_cell? w _ hx273_0)).trans hx273_0; replace hx273_1 := (HB.out.cell (World.block_lt_of_cell? w _ hx273_1)).trans hx273_1; replace hx273_2 := (HB.out.cell (World.block_lt_of_cell? w _ hx273_2)).trans hx273_2; replace hx273_3 := (HB.out.cell (World.block_lt_of_cell? w _ hx273_3)).trans hx273_3; replace p273 := eq_true p273; replace q273 := eq_true q273; refine start_ (n := 19) (S := fun w' => w'.cell? ⟨gb271, 0, none⟩ = some (.int .i64 ((rd_T50 l0 x9_1).f0)) ∧ w'.cell? ⟨gb271, 1, none⟩ = some (.int .i64 ((rd_T50 l0 x9_1).f1)) ∧ w'.cell? ⟨gb271, 2, none⟩ = some (.int .i64 ((rd_T50 l0 x9_1).f2)) ∧ w'.cell? ⟨gb271, 3, none⟩ = some (.int .i64 ((rd_T50 l0 x9_1).f3)) ∧ w'.cell? (ad270.add (((ji9)).toNat * 4)) = some (.int .i64 ((rd_T50 l0 (ji9)).f0)) ∧ w'.cell? ⟨(ad270.add (((ji9)).toNat * 4)).block, (ad270.add (((ji9)).toNat * 4)).off + 1, none⟩ = some (.int .i64 ((rd_T50 l0 (ji9)).f1)) ∧ w'.cell? ⟨(ad270.add (((ji9)).toNat * 4)).block, (ad270.add (((ji9)).toNat * 4)).off + 2, none⟩ = some (.int .i64 ((rd_T50 l0 (ji9)).f2)) ∧ w'.cell? ⟨(ad270.add (((ji9)).toNat * 4)).block, (ad270.add (((ji9)).toNat * 4)).off + 3, none⟩ = some (.int .i64 ((rd_T50 l0 (ji9)).f3))) (ds := []) q27M0 (by kernel_rfl) rfl rfl ⟨(blk_cell BK271.out 0).trans rfl, (blk_cell BK271.out 1).trans rfl, (blk_cell BK271.out 2).trans rfl, (blk_cell BK271.out 3).trans rfl, ((HB.out.cell (World.block_lt_of_cell? w _ hw273_0)).trans hw273_0), ((HB.out.cell (World.block_lt_of_cell? w _ hw273_1)).trans hw273_1), ((HB.out.cell (World.block_lt_of_cell? w _ hw273_2)).trans hw273_2), ((HB.out.cell (World.block_lt_of_cell? w _ hw273_3)).trans hw273_3)⟩ (fun hHeld => ?_); refine with_tabW impl_SpansOk.tab4 impl_SpansOk.bits4 (fun HT_ HW_ => ?_); generalize w15.drew = w16 at BK271 HB hx273_0 hx273_1 hx273_2 hx273_3 hHeld ⊢; refine pure_ (i := 1) (N := some 15) (v := ?_) (a' := ?_) q27M1 rfl rfl (any_of HT_.out (by kernel_rfl)) (fun _ _ _ => id) (Or.inl ⟨by rfl, ?_⟩) ?_ ?_; rotate_left; intro w'; go_simp; (with_reducible rfl); rotate_left; simp only [Act.put, q27s, q27z, q27n, i64_w, i32_w]; rfl; refine take_ (i := 0) (N := some 14) (v := ?_) (a' := ?_) q27M2 rfl rfl (take_ofW HT_.out HW_.out (by kernel_rfl)) (fun _ _ _ => id) (Or.inl ⟨by rfl, ?_⟩) hHeld ?_ ?_; rotate_left
           ·
            rintro w' ⟨s0, s1, s2, s3, s4, s5, s6, s7⟩; go_simp; with_reducible rfl
           rotate_left
           · simp only [Act.put, q27s, q27z, q27n, i64_w, i32_w]; rfl
           refine one_ (i := 2) (N := some 16) q27M3 rfl rfl (one_of HT_.out (by kernel_rfl)) (by decide) (fun K hK => ?_); refine goes_ Tryz.func84 (by kernel_rfl) rfl #[.agg #[.int .i64 ((rd_T50 l0 x9_1).f0), .int .i64 ((rd_T50 l0 x9_1).f1), .int .i64 ((rd_T50 l0 x9_1).f2), .int .i64 ((rd_T50 l0 x9_1).f3)], .int .i64 a1] (by rfl) rfl rfl zC ?_; with_reducible refine (impl_spanOk.calls ((rd_T50 l0 x9_1).f0) ((rd_T50 l0 x9_1).f1) ((rd_T50 l0 x9_1).f2) ((rd_T50 l0 x9_1).f3) a1 true _ A6.out).mono ?_
           rintro e w17 ⟨rfl, hb⟩; refine ⟨_, rfl, ?_⟩; have n0_ := az (blk_below (g := gb271) (o := .cells #[.int .i64 ((rd_T50 l0 x9_1).f0), .int .i64 ((rd_T50 l0 x9_1).f1), .int .i64 ((rd_T50 l0 x9_1).f2), .int .i64 ((rd_T50 l0 x9_1).f3)] 50 (0, 0)) (zN BK271.out) hb); have n1_ := az (below_step (zI HB.out GE271.out) hb); clear BK271; clear HB; have BK271 := n0_; have HB := n1_; clear n0_ n1_; (try clear hb); (try clear hb2); (try clear hk); (try clear hi); refine hK.out _ _ ⟨(blk_cell BK271.out 0).trans rfl, (blk_cell BK271.out 1).trans rfl, (blk_cell BK271.out 2).trans rfl, (blk_cell BK271.out 3).trans rfl, ((HB.out.cell (World.block_lt_of_cell? w _ hw273_0)).trans hw273_0), ((HB.out.cell (World.block_lt_of_cell? w _ hw273_1)).trans hw273_1), ((HB.out.cell (World.block_lt_of_cell? w _ hw273_2)).trans hw273_2), ((HB.out.cell (World.block_lt_of_cell? w _ hw273_3)).trans hw273_3)⟩ (fun hHeld => ?_); clear hK K; refine norm_ (a' := ?_) ?_ ?_; rotate_left
           ·
            show Act.put _ (some 16) _ = _; simp only [Act.put, q27s, q27z, q27n, i64_w, i32_w]; rfl
           refine pure_ (i := 3) (N := some 17) (v := ?_) (a' := ?_) q27M4 rfl rfl (any_of HT_.out (by kernel_rfl)) (fun _ _ _ => id) (Or.inl ⟨by rfl, ?_⟩) ?_ ?_; rotate_left; intro w'; go_simp; (with_reducible rfl); rotate_left; simp only [Act.put, q27s, q27z, q27n, i64_w, i32_w]; rfl; refine pure_ (i := 4) (N := some 18) (v := ?_) (a' := ?_) q27M5 rfl rfl (any_of HT_.out (by kernel_rfl)) (fun _ _ _ => id) (Or.inl ⟨by rfl, ?_⟩) ?_ ?_; rotate_left; intro w'; go_simp; (with_reducible rfl); rotate_left; simp only [Act.put, q27s, q27z, q27n, i64_w, i32_w]; rfl; refine pure_ (i := 5) (N := some 19) (v := ?_) (a' := ?_) q27M6 rfl rfl (any_of HT_.out (by kernel_rfl)) (fun _ _ _ => id) (Or.inl ⟨by rfl, ?_⟩) ?_ ?_; rotate_left; intro w'; go_simp; (with_reducible rfl); rotate_left; simp only [Act.put, q27s, q27z, q27n, i64_w, i32_w]; rfl; refine pure_ (i := 6) (N := some 20) (v := ?_) (a' := ?_) q27M7 rfl rfl (any_of HT_.out (by kernel_rfl)) (fun _ _ _ => id) (Or.inl ⟨by rfl, ?_⟩) ?_ ?_; rotate_left; intro w'; go_simp; (with_reducible rfl); rotate_left; simp only [Act.put, q27s, q27z, q27n, i64_w, i32_w]; rfl; refine pure_ (i := 7) (N := some 21) (v := ?_) (a' := ?_) q27M8 rfl rfl (any_of HT_.out (by kernel_rfl)) (fun _ _ _ => id) (Or.inl ⟨by rfl, ?_⟩) ?_ ?_; rotate_left; intro w'; go_simp; (with_reducible rfl); rotate_left; simp only [Act.put, q27s, q27z, q27n, i64_w, i32_w]; rfl; refine pure_ (i := 8) (N := some 22) (v := ?_) (a' := ?_) q27M9 rfl rfl (any_of HT_.out (by kernel_rfl)) (fun _ _ _ => id) (Or.inl ⟨by rfl, ?_⟩) ?_ ?_; rotate_left; intro w'; go_simp; (with_reducible rfl); rotate_left; simp only [Act.put, q27s, q27z, q27n, i64_w, i32_w]; rfl; refine pure_ (i := 9) (N := some 23) (v := ?_) (a' := ?_) q27M10 rfl rfl (any_of HT_.out (by kernel_rfl)) (fun _ _ _ => id) (Or.inl ⟨by rfl, ?_⟩) ?_ ?_; rotate_left; intro w'; go_simp; (with_reducible rfl); rotate_left; simp only [Act.put, q27s, q27z, q27n, i64_w, i32_w]; rfl; refine pure_ (i := 10) (N := some 24) (v := ?_) (a' := ?_) q27M11 rfl rfl (any_of HT_.out (by kernel_rfl)) (fun _ _ _ => id) (Or.inl ⟨by rfl, ?_⟩) ?_ ?_; rotate_left; intro w'; go_simp; (with_reducible rfl); rotate_left; simp only [Act.put, q27s, q27z, q27n, i64_w, i32_w]; rfl; refine pure_ (i := 11) (N := some 25) (v := ?_) (a' := ?_) q27M12 rfl rfl (any_of HT_.out (by kernel_rfl)) (fun _ _ _ => id) (Or.inl ⟨by rfl, ?_⟩) ?_ ?_; rotate_left; intro w'; go_simp; (with_reducible rfl); rotate_left; simp only [Act.put, q27s, q27z, q27n, i64_w, i32_w]; rfl; refine pure_ (i := 12) (N := some 26) (v := ?_) (a' := ?_) q27M13 rfl rfl (any_of HT_.out (by kernel_rfl)) (fun _ _ _ => id) (Or.inl ⟨by rfl, ?_⟩) ?_ ?_; rotate_left; intro w'; go_simp; (with_reducible rfl); rotate_left; simp only [Act.put, q27s, q27z, q27n, i64_w, i32_w]; rfl; refine pure_ (i := 14) (N := some 28) (v := ?_) (a' := ?_) q27M14 rfl rfl (any_of HT_.out (by kernel_rfl)) (fun _ _ _ => id) (Or.inl ⟨by rfl, ?_⟩) ?_ ?_; rotate_left; intro w'; go_simp; (with_reducible rfl); rotate_left; simp only [Act.put, q27s, q27z, q27n, i64_w, i32_w]; rfl; refine take_ (i := 13) (N := some 27) (v := ?_) (a' := ?_) q27M15 rfl rfl (take_ofW HT_.out HW_.out (by kernel_rfl)) (fun _ _ _ => id) (Or.inl ⟨by rfl, ?_⟩) hHeld ?_ ?_; rotate_left
           ·
            rintro w' ⟨s0, s1, s2, s3, s4, s5, s6, s7⟩; go_simp; with_reducible rfl
           rotate_left
           · simp only [Act.put, q27s, q27z, q27n, i64_w, i32_w]; rfl
           refine take_ (i := 15) (N := some 29) (v := ?_) (a' := ?_) q27M16 rfl rfl (take_ofW HT_.out HW_.out (by kernel_rfl)) (fun _ _ _ => id) (Or.inl ⟨by rfl, ?_⟩) hHeld ?_ ?_; rotate_left
           ·
            rintro w' ⟨s0, s1, s2, s3, s4, s5, s6, s7⟩; go_simp; with_reducible rfl
           rotate_left
           · simp only [Act.put, q27s, q27z, q27n, i64_w, i32_w]; rfl
           refine pure_ (i := 16) (N := some 30) (v := ?_) (a' := ?_) q27M17 rfl rfl (any_of HT_.out (by kernel_rfl)) (fun _ _ _ => id) (Or.inl ⟨by rfl, ?_⟩) ?_ ?_; rotate_left; intro w'; go_simp; (with_reducible rfl); rotate_left; simp only [Act.put, q27s, q27z, q27n, i64_w, i32_w]; rfl; refine pure_ (i := 17) (N := some 31) (v := ?_) (a' := ?_) q27M18 rfl rfl (any_of HT_.out (by kernel_rfl)) (fun _ _ _ => id) (Or.inl ⟨by rfl, ?_⟩) ?_ ?_; rotate_left; intro w'; go_simp; (with_reducible rfl); rotate_left; simp only [Act.put, q27s, q27z, q27n, i64_w, i32_w]; rfl; refine pure_ (i := 18) (N := some 32) (v := ?_) (a' := ?_) q27M19 rfl rfl (any_of HT_.out (by kernel_rfl)) (fun _ _ _ => id) (Or.inl ⟨by rfl, ?_⟩) ?_ ?_; rotate_left; intro w'; go_simp; (with_reducible rfl); rotate_left; simp only [Act.put, q27s, q27z, q27n, i64_w, i32_w]; rfl; refine done_ (done_of HT_.out (by kernel_rfl)) ?_; (try go_wp2); go_ret; exact ⟨by first | rfl | (simp [errW_none, errW_some] <;> rfl) | (simp only [← hji9]; first | rfl | (simp [errW_none, errW_some] <;> rfl)) | (simp [*, errW_none, errW_some] <;> rfl), zI HB.out GE271.out⟩
          ·
           rw [if_neg c12] at H; have c12b0 : decide (((rd_T50 l0 x9_1).f0) < ((rd_T50 l0 (ji9)).f1)) = false := decide_eq_false c12; clear c12; have H' := az H; clear H; have p270 : 0 ≤ (x9_1 : Int) := of_decide_eq_true (by assumption); have q270 : x9_1 < (l0.length : Int) := of_decide_eq_true (by assumption); obtain ⟨ad270, e270, hx270_0, hx270_1, hx270_2, hx270_3⟩ := at_T50 HR0.out x9_1 p270 q270
           cases e270
           replace hx270_0 := (HB.out.cell (World.block_lt_of_cell? w _ hx270_0)).trans hx270_0; replace hx270_1 := (HB.out.cell (World.block_lt_of_cell? w _ hx270_1)).trans hx270_1; replace hx270_2 := (HB.out.cell (World.block_lt_of_cell? w _ hx270_2)).trans hx270_2; replace hx270_3 := (HB.out.cell (World.block_lt_of_cell? w _ hx270_3)).trans hx270_3; replace p270 := eq_true p270; replace q270 := eq_true q270; (try go_wp2_with (first | ((with_reducible refine gate_dst (N := 6) rfl ?_); (try (refine gate_guard (by rfl) ?_; dsimp only)); refine box_event ?hg (N := 6) ?hd (cs := #[.int .i64 0, .int .i64 0, .int .i64 0, .int .i64 0]) (t := 50) ?hr ?_; (case hd => rfl); (case hg => rfl); (case hr => first | (go_simp; done) | (go_simp; rfl)); intro gb271 hg w18 hbox hb; have n0_ := az (below_step (zA HB.out) hb); have n1_ := az (hbox); have n2_ := az ((by rw [hg]; exact (below_size (zA HB.out)) : w.heap.size ≤ gb271)); have n3_ := az ((by rw [hg]; exact (below_size (zA HB.out)) : w.heap.size ≤ gb271)); clear HB; have HB := n0_; have BK271 := n1_; have GW271 := n2_; have GE271 := n3_; clear n0_ n1_ n2_ n3_; clear hb hbox hg; have hcz19_0 : w18.cell? ⟨gb271, 0, none⟩ = some (.int .i64 0) := (blk_cell BK271.out 0).trans rfl; have hcz19_1 : w18.cell? ⟨gb271, 1, none⟩ = some (.int .i64 0) := (blk_cell BK271.out 1).trans rfl; have hcz19_2 : w18.cell? ⟨gb271, 2, none⟩ = some (.int .i64 0) := (blk_cell BK271.out 2).trans rfl; have hcz19_3 : w18.cell? ⟨gb271, 3, none⟩ = some (.int .i64 0) := (blk_cell BK271.out 3).trans rfl; have hfz19_0 := blk_frozen BK271.out 0; have hfz19_1 := blk_frozen BK271.out 1; have hfz19_2 := blk_frozen BK271.out 2; have hfz19_3 := blk_frozen BK271.out 3))); have n0_ : Aside0 (((((w18.setCell ⟨gb271, 0, none⟩ (.int .i64 ((rd_T50 l0 x9_1).f0))).setCell ⟨gb271, 1, none⟩ (.int .i64 ((rd_T50 l0 x9_1).f1))).setCell ⟨gb271, 2, none⟩ (.int .i64 ((rd_T50 l0 x9_1).f2))).setCell ⟨gb271, 3, none⟩ (.int .i64 ((rd_T50 l0 x9_1).f3))).heap[gb271]? = some (.cells #[.int .i64 ((rd_T50 l0 x9_1).f0), .int .i64 ((rd_T50 l0 x9_1).f1), .int .i64 ((rd_T50 l0 x9_1).f2), .int .i64 ((rd_T50 l0 x9_1).f3)] 50 (0, 0))) := ⟨by (with_reducible repeat (first | refine blk_drewN ?_ _ | refine blk_drew ?_ | refine blk_alloc ?_ _)); refine blk_put (cs := #[.int .i64 ((rd_T50 l0 x9_1).f0), .int .i64 ((rd_T50 l0 x9_1).f1), .int .i64 ((rd_T50 l0 x9_1).f2), .int .i64 0]) ?_ 3 _ rfl; (with_reducible repeat (first | refine blk_drewN ?_ _ | refine blk_drew ?_ | refine blk_alloc ?_ _)); refine blk_put (cs := #[.int .i64 ((rd_T50 l0 x9_1).f0), .int .i64 ((rd_T50 l0 x9_1).f1), .int .i64 0, .int .i64 0]) ?_ 2 _ rfl; (with_reducible repeat (first | refine blk_drewN ?_ _ | refine blk_drew ?_ | refine blk_alloc ?_ _)); refine blk_put (cs := #[.int .i64 ((rd_T50 l0 x9_1).f0), .int .i64 0, .int .i64 0, .int .i64 0]) ?_ 1 _ rfl; (with_reducible repeat (first | refine blk_drewN ?_ _ | refine blk_drew ?_ | refine blk_alloc ?_ _)); refine blk_put (cs := #[.int .i64 0, .int .i64 0, .int .i64 0, .int .i64 0]) ?_ 0 _ rfl; (with_reducible repeat (first | refine blk_drewN ?_ _ | refine blk_drew ?_ | refine blk_alloc ?_ _)); exact BK271.out⟩; have n1_ : Aside0 (Below w.heap.size w ((((w18.setCell ⟨gb271, 0, none⟩ (.int .i64 ((rd_T50 l0 x9_1).f0))).setCell ⟨gb271, 1, none⟩ (.int .i64 ((rd_T50 l0 x9_1).f1))).setCell ⟨gb271, 2, none⟩ (.int .i64 ((rd_T50 l0 x9_1).f2))).setCell ⟨gb271, 3, none⟩ (.int .i64 ((rd_T50 l0 x9_1).f3)))) := ⟨zI HB.out GE271.out⟩
           (try clear BK271); (try clear HB); generalize ((((w18.setCell ⟨gb271, 0, none⟩ (.int .i64 ((rd_T50 l0 x9_1).f0))).setCell ⟨gb271, 1, none⟩ (.int .i64 ((rd_T50 l0 x9_1).f1))).setCell ⟨gb271, 2, none⟩ (.int .i64 ((rd_T50 l0 x9_1).f2))).setCell ⟨gb271, 3, none⟩ (.int .i64 ((rd_T50 l0 x9_1).f3))) = w20 at n0_ n1_ ⊢; have BK271 := n0_; have HB := n1_; clear n0_ n1_; have n0_ := az (blk_drew BK271.out); have n1_ := az (below_drew1 HB.out); clear BK271; clear HB; have BK271 := n0_; have HB := n1_; clear n0_ n1_; have p273 : 0 ≤ ((ji9) : Int) := of_decide_eq_true (by assumption); have q273 : (ji9) < (l0.length : Int) := of_decide_eq_true (by assumption); obtain ⟨ad273, e273, hx273_0, hx273_1, hx273_2, hx273_3⟩ := at_T50 HR0.out (ji9) p273 q273; have hw273_3 := hx273_3; have hw273_2 := hx273_2; have hw273_1 := hx273_1; have hw273_0 := hx273_0; obtain rfl : ad270 = ad273 := (by injection e273); replace hx273_0 := (HB.out.cell (World.block_lt_of_cell? w _ hx273_0)).trans hx273_0; replace hx273_1 := (HB.out.cell (World.block_lt_of_cell? w _ hx273_1)).trans hx273_1; replace hx273_2 := (HB.out.cell (World.block_lt_of_cell? w _ hx273_2)).trans hx273_2; replace hx273_3 := (HB.out.cell (World.block_lt_of_cell? w _ hx273_3)).trans hx273_3; replace p273 := eq_true p273; replace q273 := eq_true q273; refine start_ (n := 19) (S := fun w' => w'.cell? ⟨gb271, 0, none⟩ = some (.int .i64 ((rd_T50 l0 x9_1).f0)) ∧ w'.cell? ⟨gb271, 1, none⟩ = some (.int .i64 ((rd_T50 l0 x9_1).f1)) ∧ w'.cell? ⟨gb271, 2, none⟩ = some (.int .i64 ((rd_T50 l0 x9_1).f2)) ∧ w'.cell? ⟨gb271, 3, none⟩ = some (.int .i64 ((rd_T50 l0 x9_1).f3)) ∧ w'.cell? (ad270.add (((ji9)).toNat * 4)) = some (.int .i64 ((rd_T50 l0 (ji9)).f0)) ∧ w'.cell? ⟨(ad270.add (((ji9)).toNat * 4)).block, (ad270.add (((ji9)).toNat * 4)).off + 1, none⟩ = some (.int .i64 ((rd_T50 l0 (ji9)).f1)) ∧ w'.cell? ⟨(ad270.add (((ji9)).toNat * 4)).block, (ad270.add (((ji9)).toNat * 4)).off + 2, none⟩ = some (.int .i64 ((rd_T50 l0 (ji9)).f2)) ∧ w'.cell? ⟨(ad270.add (((ji9)).toNat * 4)).block, (ad270.add (((ji9)).toNat * 4)).off + 3, none⟩ = some (.int .i64 ((rd_T50 l0 (ji9)).f3))) (ds := []) q27M0 (by kernel_rfl) rfl rfl ⟨(blk_cell BK271.out 0).trans rfl, (blk_cell BK271.out 1).trans rfl, (blk_cell BK271.out 2).trans rfl, (blk_cell BK271.out 3).trans rfl, ((HB.out.cell (World.block_lt_of_cell? w _ hw273_0)).trans hw273_0), ((HB.out.cell (World.block_lt_of_cell? w _ hw273_1)).trans hw273_1), ((HB.out.cell (World.block_lt_of_cell? w _ hw273_2)).trans hw273_2), ((HB.out.cell (World.block_lt_of_cell? w _ hw273_3)).trans hw273_3)⟩ (fun hHeld => ?_); refine with_tabW impl_SpansOk.tab4 impl_SpansOk.bits4 (fun HT_ HW_ => ?_); generalize w20.drew = w21 at BK271 HB hx273_0 hx273_1 hx273_2 hx273_3 hHeld ⊢; refine pure_ (i := 1) (N := some 15) (v := ?_) (a' := ?_) q27M1 rfl rfl (any_of HT_.out (by kernel_rfl)) (fun _ _ _ => id) (Or.inl ⟨by rfl, ?_⟩) ?_ ?_; rotate_left; intro w'; go_simp; (with_reducible rfl); rotate_left; simp only [Act.put, q27s, q27z, q27n, i64_w, i32_w]; rfl; refine take_ (i := 0) (N := some 14) (v := ?_) (a' := ?_) q27M2 rfl rfl (take_ofW HT_.out HW_.out (by kernel_rfl)) (fun _ _ _ => id) (Or.inl ⟨by rfl, ?_⟩) hHeld ?_ ?_; rotate_left
           ·
            rintro w' ⟨s0, s1, s2, s3, s4, s5, s6, s7⟩; go_simp; with_reducible rfl
           rotate_left
           · simp only [Act.put, q27s, q27z, q27n, i64_w, i32_w]; rfl
           refine one_ (i := 2) (N := some 16) q27M3 rfl rfl (one_of HT_.out (by kernel_rfl)) (by decide) (fun K hK => ?_); refine goes_ Tryz.func84 (by kernel_rfl) rfl #[.agg #[.int .i64 ((rd_T50 l0 x9_1).f0), .int .i64 ((rd_T50 l0 x9_1).f1), .int .i64 ((rd_T50 l0 x9_1).f2), .int .i64 ((rd_T50 l0 x9_1).f3)], .int .i64 a1] (by rfl) rfl rfl zC ?_; with_reducible refine (impl_spanOk.calls ((rd_T50 l0 x9_1).f0) ((rd_T50 l0 x9_1).f1) ((rd_T50 l0 x9_1).f2) ((rd_T50 l0 x9_1).f3) a1 true _ A6.out).mono ?_
           rintro e w22 ⟨rfl, hb⟩; refine ⟨_, rfl, ?_⟩; have n0_ := az (blk_below (g := gb271) (o := .cells #[.int .i64 ((rd_T50 l0 x9_1).f0), .int .i64 ((rd_T50 l0 x9_1).f1), .int .i64 ((rd_T50 l0 x9_1).f2), .int .i64 ((rd_T50 l0 x9_1).f3)] 50 (0, 0)) (zN BK271.out) hb); have n1_ := az (below_step (zI HB.out GE271.out) hb); clear BK271; clear HB; have BK271 := n0_; have HB := n1_; clear n0_ n1_; (try clear hb); (try clear hb2); (try clear hk); (try clear hi); refine hK.out _ _ ⟨(blk_cell BK271.out 0).trans rfl, (blk_cell BK271.out 1).trans rfl, (blk_cell BK271.out 2).trans rfl, (blk_cell BK271.out 3).trans rfl, ((HB.out.cell (World.block_lt_of_cell? w _ hw273_0)).trans hw273_0), ((HB.out.cell (World.block_lt_of_cell? w _ hw273_1)).trans hw273_1), ((HB.out.cell (World.block_lt_of_cell? w _ hw273_2)).trans hw273_2), ((HB.out.cell (World.block_lt_of_cell? w _ hw273_3)).trans hw273_3)⟩ (fun hHeld => ?_); clear hK K; refine norm_ (a' := ?_) ?_ ?_; rotate_left
           ·
            show Act.put _ (some 16) _ = _; simp only [Act.put, q27s, q27z, q27n, i64_w, i32_w]; rfl
           refine pure_ (i := 3) (N := some 17) (v := ?_) (a' := ?_) q27M4 rfl rfl (any_of HT_.out (by kernel_rfl)) (fun _ _ _ => id) (Or.inl ⟨by rfl, ?_⟩) ?_ ?_; rotate_left; intro w'; go_simp; (with_reducible rfl); rotate_left; simp only [Act.put, q27s, q27z, q27n, i64_w, i32_w]; rfl; refine pure_ (i := 4) (N := some 18) (v := ?_) (a' := ?_) q27M5 rfl rfl (any_of HT_.out (by kernel_rfl)) (fun _ _ _ => id) (Or.inl ⟨by rfl, ?_⟩) ?_ ?_; rotate_left; intro w'; go_simp; (with_reducible rfl); rotate_left; simp only [Act.put, q27s, q27z, q27n, i64_w, i32_w]; rfl; refine pure_ (i := 5) (N := some 19) (v := ?_) (a' := ?_) q27M6 rfl rfl (any_of HT_.out (by kernel_rfl)) (fun _ _ _ => id) (Or.inl ⟨by rfl, ?_⟩) ?_ ?_; rotate_left; intro w'; go_simp; (with_reducible rfl); rotate_left; simp only [Act.put, q27s, q27z, q27n, i64_w, i32_w]; rfl; refine pure_ (i := 6) (N := some 20) (v := ?_) (a' := ?_) q27M7 rfl rfl (any_of HT_.out (by kernel_rfl)) (fun _ _ _ => id) (Or.inl ⟨by rfl, ?_⟩) ?_ ?_; rotate_left; intro w'; go_simp; (with_reducible rfl); rotate_left; simp only [Act.put, q27s, q27z, q27n, i64_w, i32_w]; rfl; refine pure_ (i := 7) (N := some 21) (v := ?_) (a' := ?_) q27M8 rfl rfl (any_of HT_.out (by kernel_rfl)) (fun _ _ _ => id) (Or.inl ⟨by rfl, ?_⟩) ?_ ?_; rotate_left; intro w'; go_simp; (with_reducible rfl); rotate_left; simp only [Act.put, q27s, q27z, q27n, i64_w, i32_w]; rfl; refine pure_ (i := 8) (N := some 22) (v := ?_) (a' := ?_) q27M9 rfl rfl (any_of HT_.out (by kernel_rfl)) (fun _ _ _ => id) (Or.inl ⟨by rfl, ?_⟩) ?_ ?_; rotate_left; intro w'; go_simp; (with_reducible rfl); rotate_left; simp only [Act.put, q27s, q27z, q27n, i64_w, i32_w]; rfl; refine pure_ (i := 9) (N := some 23) (v := ?_) (a' := ?_) q27M10 rfl rfl (any_of HT_.out (by kernel_rfl)) (fun _ _ _ => id) (Or.inl ⟨by rfl, ?_⟩) ?_ ?_; rotate_left; intro w'; go_simp; (with_reducible rfl); rotate_left; simp only [Act.put, q27s, q27z, q27n, i64_w, i32_w]; rfl; refine pure_ (i := 10) (N := some 24) (v := ?_) (a' := ?_) q27M11 rfl rfl (any_of HT_.out (by kernel_rfl)) (fun _ _ _ => id) (Or.inl ⟨by rfl, ?_⟩) ?_ ?_; rotate_left; intro w'; go_simp; (with_reducible rfl); rotate_left; simp only [Act.put, q27s, q27z, q27n, i64_w, i32_w]; rfl; refine pure_ (i := 11) (N := some 25) (v := ?_) (a' := ?_) q27M12 rfl rfl (any_of HT_.out (by kernel_rfl)) (fun _ _ _ => id) (Or.inl ⟨by rfl, ?_⟩) ?_ ?_; rotate_left; intro w'; go_simp; (with_reducible rfl); rotate_left; simp only [Act.put, q27s, q27z, q27n, i64_w, i32_w]; rfl; refine pure_ (i := 12) (N := some 26) (v := ?_) (a' := ?_) q27M13 rfl rfl (any_of HT_.out (by kernel_rfl)) (fun _ _ _ => id) (Or.inl ⟨by rfl, ?_⟩) ?_ ?_; rotate_left; intro w'; go_simp; (with_reducible rfl); rotate_left; simp only [Act.put, q27s, q27z, q27n, i64_w, i32_w]; rfl; refine pure_ (i := 14) (N := some 28) (v := ?_) (a' := ?_) q27M14 rfl rfl (any_of HT_.out (by kernel_rfl)) (fun _ _ _ => id) (Or.inl ⟨by rfl, ?_⟩) ?_ ?_; rotate_left; intro w'; go_simp; (with_reducible rfl); rotate_left; simp only [Act.put, q27s, q27z, q27n, i64_w, i32_w]; rfl; refine take_ (i := 13) (N := some 27) (v := ?_) (a' := ?_) q27M15 rfl rfl (take_ofW HT_.out HW_.out (by kernel_rfl)) (fun _ _ _ => id) (Or.inl ⟨by rfl, ?_⟩) hHeld ?_ ?_; rotate_left
           ·
            rintro w' ⟨s0, s1, s2, s3, s4, s5, s6, s7⟩; go_simp; with_reducible rfl
           rotate_left
           · simp only [Act.put, q27s, q27z, q27n, i64_w, i32_w]; rfl
           refine take_ (i := 15) (N := some 29) (v := ?_) (a' := ?_) q27M16 rfl rfl (take_ofW HT_.out HW_.out (by kernel_rfl)) (fun _ _ _ => id) (Or.inl ⟨by rfl, ?_⟩) hHeld ?_ ?_; rotate_left
           ·
            rintro w' ⟨s0, s1, s2, s3, s4, s5, s6, s7⟩; go_simp; with_reducible rfl
           rotate_left
           · simp only [Act.put, q27s, q27z, q27n, i64_w, i32_w]; rfl
           refine pure_ (i := 16) (N := some 30) (v := ?_) (a' := ?_) q27M17 rfl rfl (any_of HT_.out (by kernel_rfl)) (fun _ _ _ => id) (Or.inl ⟨by rfl, ?_⟩) ?_ ?_; rotate_left; intro w'; go_simp; (with_reducible rfl); rotate_left; simp only [Act.put, q27s, q27z, q27n, i64_w, i32_w]; rfl; refine pure_ (i := 17) (N := some 31) (v := ?_) (a' := ?_) q27M18 rfl rfl (any_of HT_.out (by kernel_rfl)) (fun _ _ _ => id) (Or.inl ⟨by rfl, ?_⟩) ?_ ?_; rotate_left; intro w'; go_simp; (with_reducible rfl); rotate_left; simp only [Act.put, q27s, q27z, q27n, i64_w, i32_w]; rfl; refine pure_ (i := 18) (N := some 32) (v := ?_) (a' := ?_) q27M19 rfl rfl (any_of HT_.out (by kernel_rfl)) (fun _ _ _ => id) (Or.inl ⟨by rfl, ?_⟩) ?_ ?_; rotate_left; intro w'; go_simp; (with_reducible rfl); rotate_left; simp only [Act.put, q27s, q27z, q27n, i64_w, i32_w]; rfl; refine done_ (done_of HT_.out (by kernel_rfl)) ?_; (try go_wp2); go_roundg k1
           case measure => have := HK1.out; omega
           case rel => exact ⟨(wrap64 (x9_1 + 1)), zB, H', ⟨zE HK1.out⟩, ⟨zI HB.out GE271.out⟩⟩
         ·
          rw [if_neg c11] at H; exact absurd H (by simp)
        ·
         rw [if_neg c10] at H; exact absurd H (by simp)
       ·
        rw [if_neg c8] at H; have c8b0 : decide (0 < x9_1) = false := decide_eq_false c8; clear c8; have H' := az H; clear H; have p270 : 0 ≤ (x9_1 : Int) := of_decide_eq_true (by assumption); have q270 : x9_1 < (l0.length : Int) := of_decide_eq_true (by assumption); obtain ⟨ad270, e270, hx270_0, hx270_1, hx270_2, hx270_3⟩ := at_T50 HR0.out x9_1 p270 q270
        cases e270
        replace hx270_0 := (HB.out.cell (World.block_lt_of_cell? w _ hx270_0)).trans hx270_0; replace hx270_1 := (HB.out.cell (World.block_lt_of_cell? w _ hx270_1)).trans hx270_1; replace hx270_2 := (HB.out.cell (World.block_lt_of_cell? w _ hx270_2)).trans hx270_2; replace hx270_3 := (HB.out.cell (World.block_lt_of_cell? w _ hx270_3)).trans hx270_3; replace p270 := eq_true p270; replace q270 := eq_true q270; (try go_wp2_with (first | ((with_reducible refine gate_dst (N := 6) rfl ?_); (try (refine gate_guard (by rfl) ?_; dsimp only)); refine box_event ?hg (N := 6) ?hd (cs := #[.int .i64 0, .int .i64 0, .int .i64 0, .int .i64 0]) (t := 50) ?hr ?_; (case hd => rfl); (case hg => rfl); (case hr => first | (go_simp; done) | (go_simp; rfl)); intro gb271 hg w23 hbox hb; have n0_ := az (below_step (zA HB.out) hb); have n1_ := az (hbox); have n2_ := az ((by rw [hg]; exact (below_size (zA HB.out)) : w.heap.size ≤ gb271)); have n3_ := az ((by rw [hg]; exact (below_size (zA HB.out)) : w.heap.size ≤ gb271)); clear HB; have HB := n0_; have BK271 := n1_; have GW271 := n2_; have GE271 := n3_; clear n0_ n1_ n2_ n3_; clear hb hbox hg; have hcz24_0 : w23.cell? ⟨gb271, 0, none⟩ = some (.int .i64 0) := (blk_cell BK271.out 0).trans rfl; have hcz24_1 : w23.cell? ⟨gb271, 1, none⟩ = some (.int .i64 0) := (blk_cell BK271.out 1).trans rfl; have hcz24_2 : w23.cell? ⟨gb271, 2, none⟩ = some (.int .i64 0) := (blk_cell BK271.out 2).trans rfl; have hcz24_3 : w23.cell? ⟨gb271, 3, none⟩ = some (.int .i64 0) := (blk_cell BK271.out 3).trans rfl; have hfz24_0 := blk_frozen BK271.out 0; have hfz24_1 := blk_frozen BK271.out 1; have hfz24_2 := blk_frozen BK271.out 2; have hfz24_3 := blk_frozen BK271.out 3))); have n0_ : Aside0 (((((w23.setCell ⟨gb271, 0, none⟩ (.int .i64 ((rd_T50 l0 x9_1).f0))).setCell ⟨gb271, 1, none⟩ (.int .i64 ((rd_T50 l0 x9_1).f1))).setCell ⟨gb271, 2, none⟩ (.int .i64 ((rd_T50 l0 x9_1).f2))).setCell ⟨gb271, 3, none⟩ (.int .i64 ((rd_T50 l0 x9_1).f3))).heap[gb271]? = some (.cells #[.int .i64 ((rd_T50 l0 x9_1).f0), .int .i64 ((rd_T50 l0 x9_1).f1), .int .i64 ((rd_T50 l0 x9_1).f2), .int .i64 ((rd_T50 l0 x9_1).f3)] 50 (0, 0))) := ⟨by (with_reducible repeat (first | refine blk_drewN ?_ _ | refine blk_drew ?_ | refine blk_alloc ?_ _)); refine blk_put (cs := #[.int .i64 ((rd_T50 l0 x9_1).f0), .int .i64 ((rd_T50 l0 x9_1).f1), .int .i64 ((rd_T50 l0 x9_1).f2), .int .i64 0]) ?_ 3 _ rfl; (with_reducible repeat (first | refine blk_drewN ?_ _ | refine blk_drew ?_ | refine blk_alloc ?_ _)); refine blk_put (cs := #[.int .i64 ((rd_T50 l0 x9_1).f0), .int .i64 ((rd_T50 l0 x9_1).f1), .int .i64 0, .int .i64 0]) ?_ 2 _ rfl; (with_reducible repeat (first | refine blk_drewN ?_ _ | refine blk_drew ?_ | refine blk_alloc ?_ _)); refine blk_put (cs := #[.int .i64 ((rd_T50 l0 x9_1).f0), .int .i64 0, .int .i64 0, .int .i64 0]) ?_ 1 _ rfl; (with_reducible repeat (first | refine blk_drewN ?_ _ | refine blk_drew ?_ | refine blk_alloc ?_ _)); refine blk_put (cs := #[.int .i64 0, .int .i64 0, .int .i64 0, .int .i64 0]) ?_ 0 _ rfl; (with_reducible repeat (first | refine blk_drewN ?_ _ | refine blk_drew ?_ | refine blk_alloc ?_ _)); exact BK271.out⟩; have n1_ : Aside0 (Below w.heap.size w ((((w23.setCell ⟨gb271, 0, none⟩ (.int .i64 ((rd_T50 l0 x9_1).f0))).setCell ⟨gb271, 1, none⟩ (.int .i64 ((rd_T50 l0 x9_1).f1))).setCell ⟨gb271, 2, none⟩ (.int .i64 ((rd_T50 l0 x9_1).f2))).setCell ⟨gb271, 3, none⟩ (.int .i64 ((rd_T50 l0 x9_1).f3)))) := ⟨zI HB.out GE271.out⟩
        (try clear BK271); (try clear HB); generalize ((((w23.setCell ⟨gb271, 0, none⟩ (.int .i64 ((rd_T50 l0 x9_1).f0))).setCell ⟨gb271, 1, none⟩ (.int .i64 ((rd_T50 l0 x9_1).f1))).setCell ⟨gb271, 2, none⟩ (.int .i64 ((rd_T50 l0 x9_1).f2))).setCell ⟨gb271, 3, none⟩ (.int .i64 ((rd_T50 l0 x9_1).f3))) = w25 at n0_ n1_ ⊢; have BK271 := n0_; have HB := n1_; clear n0_ n1_; have n0_ := az (blk_drew BK271.out); have n1_ := az (below_drew1 HB.out); clear BK271; clear HB; have BK271 := n0_; have HB := n1_; clear n0_ n1_; refine start_ (n := 19) (S := fun w' => w'.cell? ⟨gb271, 0, none⟩ = some (.int .i64 ((rd_T50 l0 x9_1).f0)) ∧ w'.cell? ⟨gb271, 1, none⟩ = some (.int .i64 ((rd_T50 l0 x9_1).f1)) ∧ w'.cell? ⟨gb271, 2, none⟩ = some (.int .i64 ((rd_T50 l0 x9_1).f2)) ∧ w'.cell? ⟨gb271, 3, none⟩ = some (.int .i64 ((rd_T50 l0 x9_1).f3))) (ds := []) q27M0 (by kernel_rfl) rfl rfl ⟨(blk_cell BK271.out 0).trans rfl, (blk_cell BK271.out 1).trans rfl, (blk_cell BK271.out 2).trans rfl, (blk_cell BK271.out 3).trans rfl⟩ (fun hHeld => ?_); refine with_tabW impl_SpansOk.tab4 impl_SpansOk.bits4 (fun HT_ HW_ => ?_); generalize w25.drew = w26 at BK271 HB hHeld ⊢; refine pure_ (i := 1) (N := some 15) (v := ?_) (a' := ?_) q27M1 rfl rfl (any_of HT_.out (by kernel_rfl)) (fun _ _ _ => id) (Or.inl ⟨by rfl, ?_⟩) ?_ ?_; rotate_left; intro w'; go_simp; (with_reducible rfl); rotate_left; simp only [Act.put, q27s, q27z, q27n, i64_w, i32_w]; rfl; refine take_ (i := 0) (N := some 14) (v := ?_) (a' := ?_) q27M2 rfl rfl (take_ofW HT_.out HW_.out (by kernel_rfl)) (fun _ _ _ => id) (Or.inl ⟨by rfl, ?_⟩) hHeld ?_ ?_; rotate_left
        ·
         rintro w' ⟨s0, s1, s2, s3⟩; go_simp; with_reducible rfl
        rotate_left
        · simp only [Act.put, q27s, q27z, q27n, i64_w, i32_w]; rfl
        refine one_ (i := 2) (N := some 16) q27M3 rfl rfl (one_of HT_.out (by kernel_rfl)) (by decide) (fun K hK => ?_); refine goes_ Tryz.func84 (by kernel_rfl) rfl #[.agg #[.int .i64 ((rd_T50 l0 x9_1).f0), .int .i64 ((rd_T50 l0 x9_1).f1), .int .i64 ((rd_T50 l0 x9_1).f2), .int .i64 ((rd_T50 l0 x9_1).f3)], .int .i64 a1] (by rfl) rfl rfl zC ?_; with_reducible refine (impl_spanOk.calls ((rd_T50 l0 x9_1).f0) ((rd_T50 l0 x9_1).f1) ((rd_T50 l0 x9_1).f2) ((rd_T50 l0 x9_1).f3) a1 true _ A6.out).mono ?_
        rintro e w27 ⟨rfl, hb⟩; refine ⟨_, rfl, ?_⟩; have n0_ := az (blk_below (g := gb271) (o := .cells #[.int .i64 ((rd_T50 l0 x9_1).f0), .int .i64 ((rd_T50 l0 x9_1).f1), .int .i64 ((rd_T50 l0 x9_1).f2), .int .i64 ((rd_T50 l0 x9_1).f3)] 50 (0, 0)) (zN BK271.out) hb); have n1_ := az (below_step (zI HB.out GE271.out) hb); clear BK271; clear HB; have BK271 := n0_; have HB := n1_; clear n0_ n1_; (try clear hb); (try clear hb2); (try clear hk); (try clear hi); refine hK.out _ _ ⟨(blk_cell BK271.out 0).trans rfl, (blk_cell BK271.out 1).trans rfl, (blk_cell BK271.out 2).trans rfl, (blk_cell BK271.out 3).trans rfl⟩ (fun hHeld => ?_); clear hK K; refine norm_ (a' := ?_) ?_ ?_; rotate_left
        ·
         show Act.put _ (some 16) _ = _; simp only [Act.put, q27s, q27z, q27n, i64_w, i32_w]; rfl
        refine pure_ (i := 3) (N := some 17) (v := ?_) (a' := ?_) q27M4 rfl rfl (any_of HT_.out (by kernel_rfl)) (fun _ _ _ => id) (Or.inl ⟨by rfl, ?_⟩) ?_ ?_; rotate_left; intro w'; go_simp; (with_reducible rfl); rotate_left; simp only [Act.put, q27s, q27z, q27n, i64_w, i32_w]; rfl; refine pure_ (i := 4) (N := some 18) (v := ?_) (a' := ?_) q27M5 rfl rfl (any_of HT_.out (by kernel_rfl)) (fun _ _ _ => id) (Or.inl ⟨by rfl, ?_⟩) ?_ ?_; rotate_left; intro w'; go_simp; (with_reducible rfl); rotate_left; simp only [Act.put, q27s, q27z, q27n, i64_w, i32_w]; rfl; refine pure_ (i := 5) (N := some 19) (v := ?_) (a' := ?_) q27M6 rfl rfl (any_of HT_.out (by kernel_rfl)) (fun _ _ _ => id) (Or.inl ⟨by rfl, ?_⟩) ?_ ?_; rotate_left; intro w'; go_simp; (with_reducible rfl); rotate_left; simp only [Act.put, q27s, q27z, q27n, i64_w, i32_w]; rfl; refine pure_ (i := 6) (N := some 20) (v := ?_) (a' := ?_) q27M7 rfl rfl (any_of HT_.out (by kernel_rfl)) (fun _ _ _ => id) (Or.inl ⟨by rfl, ?_⟩) ?_ ?_; rotate_left; intro w'; go_simp; (with_reducible rfl); rotate_left; simp only [Act.put, q27s, q27z, q27n, i64_w, i32_w]; rfl; refine pure_ (i := 7) (N := some 21) (v := ?_) (a' := ?_) q27M8 rfl rfl (any_of HT_.out (by kernel_rfl)) (fun _ _ _ => id) (Or.inl ⟨by rfl, ?_⟩) ?_ ?_; rotate_left; intro w'; go_simp; (with_reducible rfl); rotate_left; simp only [Act.put, q27s, q27z, q27n, i64_w, i32_w]; rfl; refine pure_ (i := 8) (N := some 22) (v := undef) (a' := ?_) q27M9 rfl rfl (any_of HT_.out (by kernel_rfl)) (fun _ _ _ => id) (Or.inr ⟨by rfl, rfl⟩) ?_ ?_; rotate_left
        · simp only [Act.put, q27s, q27z, q27n, i64_w, i32_w]; rfl
        refine pure_ (i := 9) (N := some 23) (v := undef) (a' := ?_) q27M10 rfl rfl (any_of HT_.out (by kernel_rfl)) (fun _ _ _ => id) (Or.inr ⟨by rfl, rfl⟩) ?_ ?_; rotate_left
        · simp only [Act.put, q27s, q27z, q27n, i64_w, i32_w]; rfl
        refine pure_ (i := 10) (N := some 24) (v := undef) (a' := ?_) q27M11 rfl rfl (any_of HT_.out (by kernel_rfl)) (fun _ _ _ => id) (Or.inr ⟨by rfl, rfl⟩) ?_ ?_; rotate_left
        · simp only [Act.put, q27s, q27z, q27n, i64_w, i32_w]; rfl
        refine pure_ (i := 11) (N := some 25) (v := undef) (a' := ?_) q27M12 rfl rfl (any_of HT_.out (by kernel_rfl)) (fun _ _ _ => id) (Or.inr ⟨by rfl, rfl⟩) ?_ ?_; rotate_left
        · simp only [Act.put, q27s, q27z, q27n, i64_w, i32_w]; rfl
        refine pure_ (i := 12) (N := some 26) (v := undef) (a' := ?_) q27M13 rfl rfl (any_of HT_.out (by kernel_rfl)) (fun _ _ _ => id) (Or.inr ⟨by rfl, rfl⟩) ?_ ?_; rotate_left
        · simp only [Act.put, q27s, q27z, q27n, i64_w, i32_w]; rfl
        refine pure_ (i := 13) (N := some 27) (v := undef) (a' := ?_) q27M20 rfl rfl (any_of HT_.out (by kernel_rfl)) (fun _ _ _ => id) (Or.inr ⟨by rfl, rfl⟩) ?_ ?_; rotate_left
        · simp only [Act.put, q27s, q27z, q27n, i64_w, i32_w]; rfl
        refine pure_ (i := 14) (N := some 28) (v := undef) (a' := ?_) q27M15 rfl rfl (any_of HT_.out (by kernel_rfl)) (fun _ _ _ => id) (Or.inr ⟨by rfl, rfl⟩) ?_ ?_; rotate_left
        · simp only [Act.put, q27s, q27z, q27n, i64_w, i32_w]; rfl
        refine pure_ (i := 15) (N := some 29) (v := undef) (a' := ?_) q27M16 rfl rfl (any_of HT_.out (by kernel_rfl)) (fun _ _ _ => id) (Or.inr ⟨by rfl, rfl⟩) ?_ ?_; rotate_left
        · simp only [Act.put, q27s, q27z, q27n, i64_w, i32_w]; rfl
        refine pure_ (i := 16) (N := some 30) (v := undef) (a' := ?_) q27M17 rfl rfl (any_of HT_.out (by kernel_rfl)) (fun _ _ _ => id) (Or.inr ⟨by rfl, rfl⟩) ?_ ?_; rotate_left
        · simp only [Act.put, q27s, q27z, q27n, i64_w, i32_w]; rfl
        refine pure_ (i := 17) (N := some 31) (v := ?_) (a' := ?_) q27M18 rfl rfl (any_of HT_.out (by kernel_rfl)) (fun _ _ _ => id) (Or.inl ⟨by rfl, ?_⟩) ?_ ?_; rotate_left; intro w'; go_simp; (with_reducible rfl); rotate_left; simp only [Act.put, q27s, q27z, q27n, i64_w, i32_w]; rfl; refine pure_ (i := 18) (N := some 32) (v := ?_) (a' := ?_) q27M19 rfl rfl (any_of HT_.out (by kernel_rfl)) (fun _ _ _ => id) (Or.inl ⟨by rfl, ?_⟩) ?_ ?_; rotate_left; intro w'; go_simp; (with_reducible rfl); rotate_left; simp only [Act.put, q27s, q27z, q27n, i64_w, i32_w]; rfl; refine done_ (done_of HT_.out (by kernel_rfl)) ?_; (try go_wp2); go_roundg k1
        case measure => have := HK1.out; omega
        case rel => exact ⟨(wrap64 (x9_1 + 1)), zB, H', ⟨zE HK1.out⟩, ⟨zI HB.out GE271.out⟩⟩
      ·
       replace c7 := Bool.eq_false_iff.mpr c7; subst c7; have H1 : (some false) = some r := by rw [if_neg (show ¬ (false = true) by decide)] at H; exact H
       clear H; have H := H1; clear H1; obtain rfl := Option.some.inj H; have p270 : 0 ≤ (x9_1 : Int) := of_decide_eq_true (by assumption); have q270 : x9_1 < (l0.length : Int) := of_decide_eq_true (by assumption); obtain ⟨ad270, e270, hx270_0, hx270_1, hx270_2, hx270_3⟩ := at_T50 HR0.out x9_1 p270 q270
       cases e270
       replace hx270_0 := (HB.out.cell (World.block_lt_of_cell? w _ hx270_0)).trans hx270_0; replace hx270_1 := (HB.out.cell (World.block_lt_of_cell? w _ hx270_1)).trans hx270_1; replace hx270_2 := (HB.out.cell (World.block_lt_of_cell? w _ hx270_2)).trans hx270_2; replace hx270_3 := (HB.out.cell (World.block_lt_of_cell? w _ hx270_3)).trans hx270_3; replace p270 := eq_true p270; replace q270 := eq_true q270; (try go_wp2_with (first | ((with_reducible refine gate_dst (N := 6) rfl ?_); (try (refine gate_guard (by rfl) ?_; dsimp only)); refine box_event ?hg (N := 6) ?hd (cs := #[.int .i64 0, .int .i64 0, .int .i64 0, .int .i64 0]) (t := 50) ?hr ?_; (case hd => rfl); (case hg => rfl); (case hr => first | (go_simp; done) | (go_simp; rfl)); intro gb271 hg w28 hbox hb; have n0_ := az (below_step (zA HB.out) hb); have n1_ := az (hbox); have n2_ := az ((by rw [hg]; exact (below_size (zA HB.out)) : w.heap.size ≤ gb271)); have n3_ := az ((by rw [hg]; exact (below_size (zA HB.out)) : w.heap.size ≤ gb271)); clear HB; have HB := n0_; have BK271 := n1_; have GW271 := n2_; have GE271 := n3_; clear n0_ n1_ n2_ n3_; clear hb hbox hg; have hcz29_0 : w28.cell? ⟨gb271, 0, none⟩ = some (.int .i64 0) := (blk_cell BK271.out 0).trans rfl; have hcz29_1 : w28.cell? ⟨gb271, 1, none⟩ = some (.int .i64 0) := (blk_cell BK271.out 1).trans rfl; have hcz29_2 : w28.cell? ⟨gb271, 2, none⟩ = some (.int .i64 0) := (blk_cell BK271.out 2).trans rfl; have hcz29_3 : w28.cell? ⟨gb271, 3, none⟩ = some (.int .i64 0) := (blk_cell BK271.out 3).trans rfl; have hfz29_0 := blk_frozen BK271.out 0; have hfz29_1 := blk_frozen BK271.out 1; have hfz29_2 := blk_frozen BK271.out 2; have hfz29_3 := blk_frozen BK271.out 3))); have n0_ : Aside0 (((((w28.setCell ⟨gb271, 0, none⟩ (.int .i64 ((rd_T50 l0 x9_1).f0))).setCell ⟨gb271, 1, none⟩ (.int .i64 ((rd_T50 l0 x9_1).f1))).setCell ⟨gb271, 2, none⟩ (.int .i64 ((rd_T50 l0 x9_1).f2))).setCell ⟨gb271, 3, none⟩ (.int .i64 ((rd_T50 l0 x9_1).f3))).heap[gb271]? = some (.cells #[.int .i64 ((rd_T50 l0 x9_1).f0), .int .i64 ((rd_T50 l0 x9_1).f1), .int .i64 ((rd_T50 l0 x9_1).f2), .int .i64 ((rd_T50 l0 x9_1).f3)] 50 (0, 0))) := ⟨by (with_reducible repeat (first | refine blk_drewN ?_ _ | refine blk_drew ?_ | refine blk_alloc ?_ _)); refine blk_put (cs := #[.int .i64 ((rd_T50 l0 x9_1).f0), .int .i64 ((rd_T50 l0 x9_1).f1), .int .i64 ((rd_T50 l0 x9_1).f2), .int .i64 0]) ?_ 3 _ rfl; (with_reducible repeat (first | refine blk_drewN ?_ _ | refine blk_drew ?_ | refine blk_alloc ?_ _)); refine blk_put (cs := #[.int .i64 ((rd_T50 l0 x9_1).f0), .int .i64 ((rd_T50 l0 x9_1).f1), .int .i64 0, .int .i64 0]) ?_ 2 _ rfl; (with_reducible repeat (first | refine blk_drewN ?_ _ | refine blk_drew ?_ | refine blk_alloc ?_ _)); refine blk_put (cs := #[.int .i64 ((rd_T50 l0 x9_1).f0), .int .i64 0, .int .i64 0, .int .i64 0]) ?_ 1 _ rfl; (with_reducible repeat (first | refine blk_drewN ?_ _ | refine blk_drew ?_ | refine blk_alloc ?_ _)); refine blk_put (cs := #[.int .i64 0, .int .i64 0, .int .i64 0, .int .i64 0]) ?_ 0 _ rfl; (with_reducible repeat (first | refine blk_drewN ?_ _ | refine blk_drew ?_ | refine blk_alloc ?_ _)); exact BK271.out⟩; have n1_ : Aside0 (Below w.heap.size w ((((w28.setCell ⟨gb271, 0, none⟩ (.int .i64 ((rd_T50 l0 x9_1).f0))).setCell ⟨gb271, 1, none⟩ (.int .i64 ((rd_T50 l0 x9_1).f1))).setCell ⟨gb271, 2, none⟩ (.int .i64 ((rd_T50 l0 x9_1).f2))).setCell ⟨gb271, 3, none⟩ (.int .i64 ((rd_T50 l0 x9_1).f3)))) := ⟨zI HB.out GE271.out⟩
       (try clear BK271); (try clear HB); generalize ((((w28.setCell ⟨gb271, 0, none⟩ (.int .i64 ((rd_T50 l0 x9_1).f0))).setCell ⟨gb271, 1, none⟩ (.int .i64 ((rd_T50 l0 x9_1).f1))).setCell ⟨gb271, 2, none⟩ (.int .i64 ((rd_T50 l0 x9_1).f2))).setCell ⟨gb271, 3, none⟩ (.int .i64 ((rd_T50 l0 x9_1).f3))) = w30 at n0_ n1_ ⊢; have BK271 := n0_; have HB := n1_; clear n0_ n1_; have n0_ := az (blk_drew BK271.out); have n1_ := az (below_drew1 HB.out); clear BK271; clear HB; have BK271 := n0_; have HB := n1_; clear n0_ n1_; refine start_ (n := 19) (S := fun w' => w'.cell? ⟨gb271, 0, none⟩ = some (.int .i64 ((rd_T50 l0 x9_1).f0)) ∧ w'.cell? ⟨gb271, 1, none⟩ = some (.int .i64 ((rd_T50 l0 x9_1).f1)) ∧ w'.cell? ⟨gb271, 2, none⟩ = some (.int .i64 ((rd_T50 l0 x9_1).f2)) ∧ w'.cell? ⟨gb271, 3, none⟩ = some (.int .i64 ((rd_T50 l0 x9_1).f3))) (ds := []) q27M0 (by kernel_rfl) rfl rfl ⟨(blk_cell BK271.out 0).trans rfl, (blk_cell BK271.out 1).trans rfl, (blk_cell BK271.out 2).trans rfl, (blk_cell BK271.out 3).trans rfl⟩ (fun hHeld => ?_); refine with_tabW impl_SpansOk.tab4 impl_SpansOk.bits4 (fun HT_ HW_ => ?_); generalize w30.drew = w31 at BK271 HB hHeld ⊢; refine pure_ (i := 1) (N := some 15) (v := ?_) (a' := ?_) q27M1 rfl rfl (any_of HT_.out (by kernel_rfl)) (fun _ _ _ => id) (Or.inl ⟨by rfl, ?_⟩) ?_ ?_; rotate_left; intro w'; go_simp; (with_reducible rfl); rotate_left; simp only [Act.put, q27s, q27z, q27n, i64_w, i32_w]; rfl; refine take_ (i := 0) (N := some 14) (v := ?_) (a' := ?_) q27M2 rfl rfl (take_ofW HT_.out HW_.out (by kernel_rfl)) (fun _ _ _ => id) (Or.inl ⟨by rfl, ?_⟩) hHeld ?_ ?_; rotate_left
       ·
        rintro w' ⟨s0, s1, s2, s3⟩; go_simp; with_reducible rfl
       rotate_left
       · simp only [Act.put, q27s, q27z, q27n, i64_w, i32_w]; rfl
       refine one_ (i := 2) (N := some 16) q27M3 rfl rfl (one_of HT_.out (by kernel_rfl)) (by decide) (fun K hK => ?_); refine goes_ Tryz.func84 (by kernel_rfl) rfl #[.agg #[.int .i64 ((rd_T50 l0 x9_1).f0), .int .i64 ((rd_T50 l0 x9_1).f1), .int .i64 ((rd_T50 l0 x9_1).f2), .int .i64 ((rd_T50 l0 x9_1).f3)], .int .i64 a1] (by rfl) rfl rfl zC ?_; with_reducible refine (impl_spanOk.calls ((rd_T50 l0 x9_1).f0) ((rd_T50 l0 x9_1).f1) ((rd_T50 l0 x9_1).f2) ((rd_T50 l0 x9_1).f3) a1 false _ A6.out).mono ?_
       rintro e w32 ⟨rfl, hb⟩; refine ⟨_, rfl, ?_⟩; have n0_ := az (blk_below (g := gb271) (o := .cells #[.int .i64 ((rd_T50 l0 x9_1).f0), .int .i64 ((rd_T50 l0 x9_1).f1), .int .i64 ((rd_T50 l0 x9_1).f2), .int .i64 ((rd_T50 l0 x9_1).f3)] 50 (0, 0)) (zN BK271.out) hb); have n1_ := az (below_step (zI HB.out GE271.out) hb); clear BK271; clear HB; have BK271 := n0_; have HB := n1_; clear n0_ n1_; (try clear hb); (try clear hb2); (try clear hk); (try clear hi); refine hK.out _ _ ⟨(blk_cell BK271.out 0).trans rfl, (blk_cell BK271.out 1).trans rfl, (blk_cell BK271.out 2).trans rfl, (blk_cell BK271.out 3).trans rfl⟩ (fun hHeld => ?_); clear hK K; refine norm_ (a' := ?_) ?_ ?_; rotate_left
       ·
        show Act.put _ (some 16) _ = _; simp only [Act.put, q27s, q27z, q27n, i64_w, i32_w]; rfl
       refine pure_ (i := 3) (N := some 17) (v := ?_) (a' := ?_) q27M4 rfl rfl (any_of HT_.out (by kernel_rfl)) (fun _ _ _ => id) (Or.inl ⟨by rfl, ?_⟩) ?_ ?_; rotate_left; intro w'; go_simp; (with_reducible rfl); rotate_left; simp only [Act.put, q27s, q27z, q27n, i64_w, i32_w]; rfl; refine pure_ (i := 4) (N := some 18) (v := ?_) (a' := ?_) q27M5 rfl rfl (any_of HT_.out (by kernel_rfl)) (fun _ _ _ => id) (Or.inl ⟨by rfl, ?_⟩) ?_ ?_; rotate_left; intro w'; go_simp; (with_reducible rfl); rotate_left; simp only [Act.put, q27s, q27z, q27n, i64_w, i32_w]; rfl; refine pure_ (i := 5) (N := some 19) (v := undef) (a' := ?_) q27M6 rfl rfl (any_of HT_.out (by kernel_rfl)) (fun _ _ _ => id) (Or.inr ⟨by rfl, rfl⟩) ?_ ?_; rotate_left
       · simp only [Act.put, q27s, q27z, q27n, i64_w, i32_w]; rfl
       refine pure_ (i := 6) (N := some 20) (v := undef) (a' := ?_) q27M7 rfl rfl (any_of HT_.out (by kernel_rfl)) (fun _ _ _ => id) (Or.inr ⟨by rfl, rfl⟩) ?_ ?_; rotate_left
       · simp only [Act.put, q27s, q27z, q27n, i64_w, i32_w]; rfl
       refine pure_ (i := 7) (N := some 21) (v := undef) (a' := ?_) q27M8 rfl rfl (any_of HT_.out (by kernel_rfl)) (fun _ _ _ => id) (Or.inr ⟨by rfl, rfl⟩) ?_ ?_; rotate_left
       · simp only [Act.put, q27s, q27z, q27n, i64_w, i32_w]; rfl
       refine pure_ (i := 8) (N := some 22) (v := undef) (a' := ?_) q27M9 rfl rfl (any_of HT_.out (by kernel_rfl)) (fun _ _ _ => id) (Or.inr ⟨by rfl, rfl⟩) ?_ ?_; rotate_left
       · simp only [Act.put, q27s, q27z, q27n, i64_w, i32_w]; rfl
       refine pure_ (i := 9) (N := some 23) (v := undef) (a' := ?_) q27M10 rfl rfl (any_of HT_.out (by kernel_rfl)) (fun _ _ _ => id) (Or.inr ⟨by rfl, rfl⟩) ?_ ?_; rotate_left
       · simp only [Act.put, q27s, q27z, q27n, i64_w, i32_w]; rfl
       refine pure_ (i := 10) (N := some 24) (v := undef) (a' := ?_) q27M11 rfl rfl (any_of HT_.out (by kernel_rfl)) (fun _ _ _ => id) (Or.inr ⟨by rfl, rfl⟩) ?_ ?_; rotate_left
       · simp only [Act.put, q27s, q27z, q27n, i64_w, i32_w]; rfl
       refine pure_ (i := 11) (N := some 25) (v := undef) (a' := ?_) q27M12 rfl rfl (any_of HT_.out (by kernel_rfl)) (fun _ _ _ => id) (Or.inr ⟨by rfl, rfl⟩) ?_ ?_; rotate_left
       · simp only [Act.put, q27s, q27z, q27n, i64_w, i32_w]; rfl
       refine pure_ (i := 12) (N := some 26) (v := undef) (a' := ?_) q27M13 rfl rfl (any_of HT_.out (by kernel_rfl)) (fun _ _ _ => id) (Or.inr ⟨by rfl, rfl⟩) ?_ ?_; rotate_left
       · simp only [Act.put, q27s, q27z, q27n, i64_w, i32_w]; rfl
       refine pure_ (i := 13) (N := some 27) (v := undef) (a' := ?_) q27M20 rfl rfl (any_of HT_.out (by kernel_rfl)) (fun _ _ _ => id) (Or.inr ⟨by rfl, rfl⟩) ?_ ?_; rotate_left
       · simp only [Act.put, q27s, q27z, q27n, i64_w, i32_w]; rfl
       refine pure_ (i := 14) (N := some 28) (v := undef) (a' := ?_) q27M15 rfl rfl (any_of HT_.out (by kernel_rfl)) (fun _ _ _ => id) (Or.inr ⟨by rfl, rfl⟩) ?_ ?_; rotate_left
       · simp only [Act.put, q27s, q27z, q27n, i64_w, i32_w]; rfl
       refine pure_ (i := 15) (N := some 29) (v := undef) (a' := ?_) q27M16 rfl rfl (any_of HT_.out (by kernel_rfl)) (fun _ _ _ => id) (Or.inr ⟨by rfl, rfl⟩) ?_ ?_; rotate_left
       · simp only [Act.put, q27s, q27z, q27n, i64_w, i32_w]; rfl
       refine pure_ (i := 16) (N := some 30) (v := undef) (a' := ?_) q27M17 rfl rfl (any_of HT_.out (by kernel_rfl)) (fun _ _ _ => id) (Or.inr ⟨by rfl, rfl⟩) ?_ ?_; rotate_left
       · simp only [Act.put, q27s, q27z, q27n, i64_w, i32_w]; rfl
       refine pure_ (i := 17) (N := some 31) (v := undef) (a' := ?_) q27M18 rfl rfl (any_of HT_.out (by kernel_rfl)) (fun _ _ _ => id) (Or.inr ⟨by rfl, rfl⟩) ?_ ?_; rotate_left
       · simp only [Act.put, q27s, q27z, q27n, i64_w, i32_w]; rfl
       refine pure_ (i := 18) (N := some 32) (v := ?_) (a' := ?_) q27M19 rfl rfl (any_of HT_.out (by kernel_rfl)) (fun _ _ _ => id) (Or.inl ⟨by rfl, ?_⟩) ?_ ?_; rotate_left; intro w'; go_simp; (with_reducible rfl); rotate_left; simp only [Act.put, q27s, q27z, q27n, i64_w, i32_w]; rfl; refine done_ (done_of HT_.out (by kernel_rfl)) ?_; (try go_wp2); go_ret; exact ⟨zG, zI HB.out GE271.out⟩
     ·
      rw [if_neg c5] at H; exact absurd H (by simp)
    ·
     rw [if_neg c4] at H; exact absurd H (by simp)
   ·
    rw [if_neg c3] at H; have c3b0 : decide (x9_1 < (l0.length : Int)) = false := decide_eq_false c3; clear c3; by_cases c33 : a1 ≥ 0
    ·
     rw [if_pos c33] at H; have c33b0 : decide (0 ≤ a1) = true := decide_eq_true c33; clear c33; by_cases c34 : a1 ≤ 80
     ·
      rw [if_pos c34] at H; have c34b0 : decide (a1 ≤ 80) = true := decide_eq_true c34; clear c34; obtain rfl := Option.some.inj H; go_wp2; go_ret; exact ⟨zG, zA HB.out⟩
     ·
      rw [if_neg c34] at H; have c34b0 : decide (a1 ≤ 80) = false := decide_eq_false c34; clear c34; obtain rfl := Option.some.inj H; go_wp2; go_ret; exact ⟨zG, zA HB.out⟩
    ·
     rw [if_neg c33] at H; have c33b0 : decide (0 ≤ a1) = false := decide_eq_false c33; clear c33; obtain rfl := Option.some.inj H; go_wp2; go_ret; exact ⟨zG, zA HB.out⟩
def impl_isWide.f (a0 : Int) : Option (Bool) := if a0 ≥ 0 then (some (decide (a0 ≤ 20000))) else (some false)
theorem impl_isWide.calls (a0 : Int) (r : Bool) (w : World) (h : impl_isWide.f a0 = some r) :
  Calls Tryz.prog 58 #[.int .i64 a0] w fun e w' => e = .returned (.bool r) ∧ Drawn0 w w' := by
 have H : (if a0 ≥ 0 then (some (decide (a0 ≤ 20000))) else (some false)) = some r := h
 clear h
 by_cases c2 : a0 ≥ 0
 ·
  rw [if_pos c2] at H
  have c2b0 : decide (0 ≤ a0) = true := decide_eq_true c2
  clear c2
  obtain rfl := Option.some.inj H
  go_enter Tryz.func58, Tryz.ntmps58
  go_wp2
  go_ret
  exact ⟨zB, zD⟩
 ·
  rw [if_neg c2] at H
  have c2b0 : decide (0 ≤ a0) = false := decide_eq_false c2
  clear c2
  obtain rfl := Option.some.inj H
  go_enter Tryz.func58, Tryz.ntmps58
  go_wp2
  go_ret
  exact ⟨zB, zD⟩
def impl_fillable.f (k : Nat) (l0 : List Int) (l1 : List (S50)) (a2 : Int) : Option (Bool) := (impl_lettersOk.f l0).bind fun t274 => (if t274 = true then ((impl_SpansOk.f k l1 (l0.length : Int)).bind fun t275 => (if t275 = true then ((impl_isWide.f a2).bind fun t276 => (some t276)) else (some false))) else (some false))
theorem impl_fillable.mono : ∀ a0 a1 a2 k, LeO (impl_fillable.f k a0 a1 a2) (impl_fillable.f (k + 1) a0 a1 a2) := by
 intro a0 a1 a2 k; unfold impl_fillable.f
 repeat' first
   | (with_reducible exact impl_SpansOk.mono _ _ _)
   | (with_reducible exact LeO.refl _)
   | (with_reducible exact LeO.none _)
   | (with_reducible refine LeO.ite ?_ ?_)
   | (with_reducible refine LeO.bind ?_ (fun _ => ?_))
   | exact impl_SpansOk.mono _ _ _
   | exact LeO.none _
   | refine LeO.ite ?_ ?_
   | refine LeO.bind ?_ (fun _ => ?_)
theorem impl_fillable.calls (k : Nat) (A0 : Option Addr) (c0 : Nat) (l0 : List Int) (A1 : Option Addr) (c1 : Nat) (l1 : List (S50)) (a2 : Int) (r : Bool) (w : World) (hr0 : Kd.C (Kd.int .i64) w A0 l0.length l0) (hc0 : l0.length ≤ c0) (hr1 : Kd.C k50 w A1 l1.length l1) (hc1 : l1.length ≤ c1) (h : impl_fillable.f k l0 l1 a2 = some r) :
  Calls Tryz.prog 39 #[.slice A0 l0.length c0, .slice A1 l1.length c1, .int .i64 a2] w fun e w' => e = .returned (.bool r) ∧ Below w.heap.size w w' := by
 have HR0 := az hr0; have HC0 := az hc0; clear hr0 hc0; have HR1 := az hr1; have HC1 := az hc1; clear hr1 hc1; have HB := az (Below.refl w.heap.size w); have H : ((impl_lettersOk.f l0).bind fun t274 => (if t274 = true then ((impl_SpansOk.f k l1 (l0.length : Int)).bind fun t275 => (if t275 = true then ((impl_isWide.f a2).bind fun t276 => (some t276)) else (some false))) else (some false))) = some r := h; clear h; replace H := Option.bind_eq_some_iff.mp H; obtain ⟨t274, A40, H⟩ := H; replace H : (if t274 = true then ((impl_SpansOk.f k l1 (l0.length : Int)).bind fun t275 => (if t275 = true then ((impl_isWide.f a2).bind fun t276 => (some t276)) else (some false))) else (some false)) = some r := H; have A4 := az A40; clear A40; by_cases c5 : t274 = true
 ·
  subst c5; have H1 : ((impl_SpansOk.f k l1 (l0.length : Int)).bind fun t275 => (if t275 = true then ((impl_isWide.f a2).bind fun t276 => (some t276)) else (some false))) = some r := by rw [if_pos rfl] at H; exact H
  clear H; have H := H1; clear H1; replace H := Option.bind_eq_some_iff.mp H; obtain ⟨t275, A60, H⟩ := H; replace H : (if t275 = true then ((impl_isWide.f a2).bind fun t276 => (some t276)) else (some false)) = some r := H; have A6 := az A60; clear A60; by_cases c7 : t275 = true
  ·
   subst c7; have H1 : ((impl_isWide.f a2).bind fun t276 => (some t276)) = some r := by rw [if_pos rfl] at H; exact H
   clear H; have H := H1; clear H1; replace H := Option.bind_eq_some_iff.mp H; obtain ⟨t276, A80, H⟩ := H; replace H : (some t276) = some r := H; have A8 := az A80; clear A80; obtain rfl := Option.some.inj H; go_enter Tryz.func39, Tryz.ntmps39; go_wp2_with (first | ((with_reducible refine gate_callee (f := 48) rfl ?_); refine goesL_ (some 8) rfl rfl Tryz.func48 (by kernel_rfl) rfl #[.slice A0 l0.length c0] rfl zC ?_; (with_reducible refine (impl_lettersOk.calls _ _ l0 true _ ?side1 ?side2 A4.out).mono ?_); (case side1 => exact (zP HR0.out)); (case side2 => exact HC0.out); rintro e w9 ⟨rfl, hb⟩; refine ⟨_, rfl, ?_⟩; have n0_ := az (below_step (zA HB.out) hb); clear HB; have HB := n0_; clear n0_; (try clear hb); (try clear hb2); (try clear hk); (try clear hi)) | (go_at_call 54; (with_reducible refine (impl_SpansOk.calls k _ _ l1 (l0.length : Int) true _ ?side1 ?side2 A6.out).mono ?_); (case side1 => exact (zO HR1.out HB.out)); (case side2 => exact HC1.out); rintro e w10 ⟨rfl, hb⟩; have n0_ := az (below_step (zA HB.out) hb); clear HB; have HB := n0_; clear n0_; (try clear hb); (try clear hb2); (try clear hk); (try clear hi)) | (go_at_call 58; (with_reducible refine (impl_isWide.calls a2 t276 _ A8.out).mono ?_); rintro e w' ⟨rfl, ⟨nd, rfl⟩⟩)); go_ret; exact ⟨zG, zA HB.out⟩
  ·
   replace c7 := Bool.eq_false_iff.mpr c7; subst c7; have H1 : (some false) = some r := by rw [if_neg (show ¬ (false = true) by decide)] at H; exact H
   clear H; have H := H1; clear H1; obtain rfl := Option.some.inj H; go_enter Tryz.func39, Tryz.ntmps39; go_wp2_with (first | ((with_reducible refine gate_callee (f := 48) rfl ?_); refine goesL_ (some 8) rfl rfl Tryz.func48 (by kernel_rfl) rfl #[.slice A0 l0.length c0] rfl zC ?_; (with_reducible refine (impl_lettersOk.calls _ _ l0 true _ ?side1 ?side2 A4.out).mono ?_); (case side1 => exact (zP HR0.out)); (case side2 => exact HC0.out); rintro e w11 ⟨rfl, hb⟩; refine ⟨_, rfl, ?_⟩; have n0_ := az (below_step (zA HB.out) hb); clear HB; have HB := n0_; clear n0_; (try clear hb); (try clear hb2); (try clear hk); (try clear hi)) | (go_at_call 54; (with_reducible refine (impl_SpansOk.calls k _ _ l1 (l0.length : Int) false _ ?side1 ?side2 A6.out).mono ?_); (case side1 => exact (zO HR1.out HB.out)); (case side2 => exact HC1.out); rintro e w12 ⟨rfl, hb⟩; have n0_ := az (below_step (zA HB.out) hb); clear HB; have HB := n0_; clear n0_; (try clear hb); (try clear hb2); (try clear hk); (try clear hi))); go_ret; exact ⟨zG, zA HB.out⟩
 ·
  replace c5 := Bool.eq_false_iff.mpr c5; subst c5; have H1 : (some false) = some r := by rw [if_neg (show ¬ (false = true) by decide)] at H; exact H
  clear H; have H := H1; clear H1; obtain rfl := Option.some.inj H; go_enter Tryz.func39, Tryz.ntmps39; go_wp2_with (first | ((with_reducible refine gate_callee (f := 48) rfl ?_); refine goesL_ (some 8) rfl rfl Tryz.func48 (by kernel_rfl) rfl #[.slice A0 l0.length c0] rfl zC ?_; (with_reducible refine (impl_lettersOk.calls _ _ l0 false _ ?side1 ?side2 A4.out).mono ?_); (case side1 => exact (zP HR0.out)); (case side2 => exact HC0.out); rintro e w13 ⟨rfl, hb⟩; refine ⟨_, rfl, ?_⟩; have n0_ := az (below_step (zA HB.out) hb); clear HB; have HB := n0_; clear n0_; (try clear hb); (try clear hb2); (try clear hk); (try clear hi))); go_ret; exact ⟨zG, zA HB.out⟩
theorem appI {P : Program} {rest : List Oper} {opsA : Array Oper} {o : Oper} {a : Act} {Q : Exit → Act → World → Prop} {w0 W : World} {t : TypeId} {base : Nat} (ht : P.underlying t = some (.slice 3)) (hinfo : (P.info? 3).map (fun i => (i.zero, i.size, i.bytes)) = some (some (.int .i64 0), 1, 8)) (hgd : o.guard = none) (s x : Operand)
  (ho : o.op = .call { callee := .builtin .append, args := #[s, x], argTypes := #[t, t] }) (v : Value) (xs : List Int) (p : Int) (hs : a.eval s = v) (hx : a.eval x = .slice (some ⟨W.heap.size, 0, none⟩) 1 1)
  (HO : Kd.R (Kd.int .i64) 3 W base (fun _ => True) v xs) (HB : Below base w0 W) (hbase : base ≤ W.heap.size) (hl : xs.length < 1000000)
  (h : ∀ v1 w1, Kd.R (Kd.int .i64) 3 w1 base (fun _ => True) v1 (xs ++ [p]) → Below base w0 w1 → W.grownBy w1 v.ownBlock → (v1.ownBlock = v.ownBlock ∨ ∃ b, v1.ownBlock = some b ∧ W.heap.size ≤ b) → wpList P opsA Q rest (a.put o.dst v1) w1) :
  wpList P opsA Q (o :: rest) a (W.alloc (.cells #[.int .i64 p] 3)) :=
 Kd.R_append (Kd.int .i64) base hgd s x t 3 (.int .i64 0) 8 ho ht hinfo rfl (by decide) (by omega) v xs p [.int .i64 p] (fun _ => True) (fun _ => False) hs hx rfl (fun _ hk => hk.elim) (fun _ _ => trivial) HO HB hbase (by omega) h
def cmp_isNaN_int.f (a0 : Int) : Option (Bool) := some (a0 != a0)
theorem cmp_isNaN_int.calls (a0 : Int) (r : Bool) (w : World) (h : cmp_isNaN_int.f a0 = some r) :
  Calls Tryz.prog 142 #[.int .i64 a0] w fun e w' => e = .returned (.bool r) ∧ Drawn0 w w' := by
 have H : (some (a0 != a0)) = some r := h
 clear h
 obtain rfl := Option.some.inj H
 go_enter Tryz.func142, Tryz.ntmps142
 go_wp2
 go_ret
 exact ⟨zB, zD⟩
def cmp_Compare_int.f (a0 : Int) (a1 : Int) : Option (Int) := (cmp_isNaN_int.f a0).bind fun t277 => ((cmp_isNaN_int.f a1).bind fun t278 => (if t277 = true then (if t278 = true then (some 0) else (some (-1))) else (if t278 = true then (some 1) else (if a0 < a1 then (some (-1)) else (if a0 > a1 then (some 1) else (some 0))))))
theorem cmp_Compare_int.calls (a0 : Int) (a1 : Int) (r : Int) (w : World) (h : cmp_Compare_int.f a0 a1 = some r) :
  Calls Tryz.prog 135 #[.int .i64 a0, .int .i64 a1] w fun e w' => e = .returned (.int .i64 r) ∧ Drawn0 w w' := by
 have H : ((cmp_isNaN_int.f a0).bind fun t277 => ((cmp_isNaN_int.f a1).bind fun t278 => (if t277 = true then (if t278 = true then (some 0) else (some (-1))) else (if t278 = true then (some 1) else (if a0 < a1 then (some (-1)) else (if a0 > a1 then (some 1) else (some 0))))))) = some r := h; clear h; replace H := Option.bind_eq_some_iff.mp H; obtain ⟨t277, A30, H⟩ := H; replace H : ((cmp_isNaN_int.f a1).bind fun t278 => (if t277 = true then (if t278 = true then (some 0) else (some (-1))) else (if t278 = true then (some 1) else (if a0 < a1 then (some (-1)) else (if a0 > a1 then (some 1) else (some 0)))))) = some r := H; have A3 := az A30; clear A30; replace H := Option.bind_eq_some_iff.mp H; obtain ⟨t278, A40, H⟩ := H; replace H : (if t277 = true then (if t278 = true then (some 0) else (some (-1))) else (if t278 = true then (some 1) else (if a0 < a1 then (some (-1)) else (if a0 > a1 then (some 1) else (some 0))))) = some r := H; have A4 := az A40; clear A40; by_cases c5 : t277 = true
 ·
  subst c5; have H1 : (if t278 = true then (some 0) else (some (-1))) = some r := by rw [if_pos rfl] at H; exact H
  clear H; have H := H1; clear H1; by_cases c6 : t278 = true
  ·
   subst c6; have H1 : (some 0) = some r := by rw [if_pos rfl] at H; exact H
   clear H; have H := H1; clear H1; obtain rfl := Option.some.inj H; go_enter Tryz.func135, Tryz.ntmps135; go_wp2_with (first | ((with_reducible refine gate_callee (f := 142) rfl ?_); refine goesL_ (some 8) rfl rfl Tryz.func142 (by kernel_rfl) rfl #[.int .i64 a0] rfl zC ?_; (with_reducible refine (cmp_isNaN_int.calls a0 true _ A3.out).mono ?_); rintro e w' ⟨rfl, ⟨nd, rfl⟩⟩; refine ⟨_, rfl, ?_⟩) | ((with_reducible refine gate_callee (f := 142) rfl ?_); refine goesL_ (some 10) rfl rfl Tryz.func142 (by kernel_rfl) rfl #[.int .i64 a1] rfl zC ?_; (with_reducible refine (cmp_isNaN_int.calls a1 true _ A4.out).mono ?_); rintro e w' ⟨rfl, ⟨nd, rfl⟩⟩; refine ⟨_, rfl, ?_⟩)); go_ret; exact ⟨zB, zD⟩
  ·
   replace c6 := Bool.eq_false_iff.mpr c6; subst c6; have H1 : (some (-1)) = some r := by rw [if_neg (show ¬ (false = true) by decide)] at H; exact H
   clear H; have H := H1; clear H1; obtain rfl := Option.some.inj H; go_enter Tryz.func135, Tryz.ntmps135; go_wp2_with (first | ((with_reducible refine gate_callee (f := 142) rfl ?_); refine goesL_ (some 8) rfl rfl Tryz.func142 (by kernel_rfl) rfl #[.int .i64 a0] rfl zC ?_; (with_reducible refine (cmp_isNaN_int.calls a0 true _ A3.out).mono ?_); rintro e w' ⟨rfl, ⟨nd, rfl⟩⟩; refine ⟨_, rfl, ?_⟩) | ((with_reducible refine gate_callee (f := 142) rfl ?_); refine goesL_ (some 10) rfl rfl Tryz.func142 (by kernel_rfl) rfl #[.int .i64 a1] rfl zC ?_; (with_reducible refine (cmp_isNaN_int.calls a1 false _ A4.out).mono ?_); rintro e w' ⟨rfl, ⟨nd, rfl⟩⟩; refine ⟨_, rfl, ?_⟩)); go_ret; exact ⟨zB, zD⟩
 ·
  replace c5 := Bool.eq_false_iff.mpr c5; subst c5; have H1 : (if t278 = true then (some 1) else (if a0 < a1 then (some (-1)) else (if a0 > a1 then (some 1) else (some 0)))) = some r := by rw [if_neg (show ¬ (false = true) by decide)] at H; exact H
  clear H; have H := H1; clear H1; by_cases c7 : t278 = true
  ·
   subst c7; have H1 : (some 1) = some r := by rw [if_pos rfl] at H; exact H
   clear H; have H := H1; clear H1; obtain rfl := Option.some.inj H; go_enter Tryz.func135, Tryz.ntmps135; go_wp2_with (first | ((with_reducible refine gate_callee (f := 142) rfl ?_); refine goesL_ (some 8) rfl rfl Tryz.func142 (by kernel_rfl) rfl #[.int .i64 a0] rfl zC ?_; (with_reducible refine (cmp_isNaN_int.calls a0 false _ A3.out).mono ?_); rintro e w' ⟨rfl, ⟨nd, rfl⟩⟩; refine ⟨_, rfl, ?_⟩) | ((with_reducible refine gate_callee (f := 142) rfl ?_); refine goesL_ (some 10) rfl rfl Tryz.func142 (by kernel_rfl) rfl #[.int .i64 a1] rfl zC ?_; (with_reducible refine (cmp_isNaN_int.calls a1 true _ A4.out).mono ?_); rintro e w' ⟨rfl, ⟨nd, rfl⟩⟩; refine ⟨_, rfl, ?_⟩)); go_ret; exact ⟨zB, zD⟩
  ·
   replace c7 := Bool.eq_false_iff.mpr c7; subst c7; have H1 : (if a0 < a1 then (some (-1)) else (if a0 > a1 then (some 1) else (some 0))) = some r := by rw [if_neg (show ¬ (false = true) by decide)] at H; exact H
   clear H; have H := H1; clear H1; by_cases c8 : a0 < a1
   ·
    rw [if_pos c8] at H; have c8b0 : decide (a0 < a1) = true := decide_eq_true c8; clear c8; obtain rfl := Option.some.inj H; go_enter Tryz.func135, Tryz.ntmps135; go_wp2_with (first | ((with_reducible refine gate_callee (f := 142) rfl ?_); refine goesL_ (some 8) rfl rfl Tryz.func142 (by kernel_rfl) rfl #[.int .i64 a0] rfl zC ?_; (with_reducible refine (cmp_isNaN_int.calls a0 false _ A3.out).mono ?_); rintro e w' ⟨rfl, ⟨nd, rfl⟩⟩; refine ⟨_, rfl, ?_⟩) | ((with_reducible refine gate_callee (f := 142) rfl ?_); refine goesL_ (some 10) rfl rfl Tryz.func142 (by kernel_rfl) rfl #[.int .i64 a1] rfl zC ?_; (with_reducible refine (cmp_isNaN_int.calls a1 false _ A4.out).mono ?_); rintro e w' ⟨rfl, ⟨nd, rfl⟩⟩; refine ⟨_, rfl, ?_⟩)); go_ret; exact ⟨zB, zD⟩
   ·
    rw [if_neg c8] at H; have c8b0 : decide (a0 < a1) = false := decide_eq_false c8; clear c8; by_cases c9 : a0 > a1
    ·
     rw [if_pos c9] at H; have c9b0 : decide (a1 < a0) = true := decide_eq_true c9; clear c9; obtain rfl := Option.some.inj H; go_enter Tryz.func135, Tryz.ntmps135; go_wp2_with (first | ((with_reducible refine gate_callee (f := 142) rfl ?_); refine goesL_ (some 8) rfl rfl Tryz.func142 (by kernel_rfl) rfl #[.int .i64 a0] rfl zC ?_; (with_reducible refine (cmp_isNaN_int.calls a0 false _ A3.out).mono ?_); rintro e w' ⟨rfl, ⟨nd, rfl⟩⟩; refine ⟨_, rfl, ?_⟩) | ((with_reducible refine gate_callee (f := 142) rfl ?_); refine goesL_ (some 10) rfl rfl Tryz.func142 (by kernel_rfl) rfl #[.int .i64 a1] rfl zC ?_; (with_reducible refine (cmp_isNaN_int.calls a1 false _ A4.out).mono ?_); rintro e w' ⟨rfl, ⟨nd, rfl⟩⟩; refine ⟨_, rfl, ?_⟩)); go_ret; exact ⟨zB, zD⟩
    ·
     rw [if_neg c9] at H; have c9b0 : decide (a1 < a0) = false := decide_eq_false c9; clear c9; obtain rfl := Option.some.inj H; go_enter Tryz.func135, Tryz.ntmps135; go_wp2_with (first | ((with_reducible refine gate_callee (f := 142) rfl ?_); refine goesL_ (some 8) rfl rfl Tryz.func142 (by kernel_rfl) rfl #[.int .i64 a0] rfl zC ?_; (with_reducible refine (cmp_isNaN_int.calls a0 false _ A3.out).mono ?_); rintro e w' ⟨rfl, ⟨nd, rfl⟩⟩; refine ⟨_, rfl, ?_⟩) | ((with_reducible refine gate_callee (f := 142) rfl ?_); refine goesL_ (some 10) rfl rfl Tryz.func142 (by kernel_rfl) rfl #[.int .i64 a1] rfl zC ?_; (with_reducible refine (cmp_isNaN_int.calls a1 false _ A4.out).mono ?_); rintro e w' ⟨rfl, ⟨nd, rfl⟩⟩; refine ⟨_, rfl, ?_⟩)); go_ret; exact ⟨zB, zD⟩
def impl_find_1.f (a0_0 : Int) (a0_1 : Int) (a0_2 : Int) (a1 : Int) : Option (Int) := if a1 ≥ a0_0 then (if a1 ≤ a0_1 then (some 0) else ((cmp_Compare_int.f a0_0 a1).bind fun t280 => (some t280))) else ((cmp_Compare_int.f a0_0 a1).bind fun t281 => (some t281))
theorem impl_find_1.calls (a0_0 : Int) (a0_1 : Int) (a0_2 : Int) (a1 : Int) (r : Int) (w : World) (h : impl_find_1.f a0_0 a0_1 a0_2 a1 = some r) :
  Calls Tryz.prog 134 #[.agg #[.int .i64 a0_0, .int .i64 a0_1, .int .i64 a0_2], .int .i64 a1] w fun e w' => e = .returned (.int .i64 r) ∧ Below w.heap.size w w' := by
 have hu120 := Tryz.underlying120; have HB := az (Below.refl w.heap.size w); have H : (if a1 ≥ a0_0 then (if a1 ≤ a0_1 then (some 0) else ((cmp_Compare_int.f a0_0 a1).bind fun t280 => (some t280))) else ((cmp_Compare_int.f a0_0 a1).bind fun t281 => (some t281))) = some r := h; clear h; by_cases c3 : a1 ≥ a0_0
 ·
  rw [if_pos c3] at H; have c3b0 : decide (a0_0 ≤ a1) = true := decide_eq_true c3; clear c3; by_cases c4 : a1 ≤ a0_1
  ·
   rw [if_pos c4] at H; have c4b0 : decide (a1 ≤ a0_1) = true := decide_eq_true c4; clear c4; obtain rfl := Option.some.inj H; go_enter Tryz.func134, Tryz.ntmps134; go_wp2_with (first | ((with_reducible refine gate_dst (N := 2) rfl ?_); refine box_event ?hg (N := 2) ?hd (cs := #[.int .i64 a0_0, .int .i64 a0_1, .int .i64 a0_2]) (t := 120) ?hr ?_; (case hd => rfl); (case hg => rfl); (case hr => first | (go_simp; done) | (go_simp; rfl)); intro gb279 hg w5 hbox hb; have n0_ := az (below_step (zA HB.out) hb); have n1_ := az (hbox); have n2_ := az ((by rw [hg]; exact (below_size (zA HB.out)) : w.heap.size ≤ gb279)); have n3_ := az ((by rw [hg]; exact (below_size (zA HB.out)) : w.heap.size ≤ gb279)); clear HB; have HB := n0_; have BK279 := n1_; have GW279 := n2_; have GE279 := n3_; clear n0_ n1_ n2_ n3_; clear hb hbox hg; have hcz6_0 : w5.cell? ⟨gb279, 0, none⟩ = some (.int .i64 a0_0) := (blk_cell BK279.out 0).trans rfl; have hcz6_1 : w5.cell? ⟨gb279, 1, none⟩ = some (.int .i64 a0_1) := (blk_cell BK279.out 1).trans rfl; have hcz6_2 : w5.cell? ⟨gb279, 2, none⟩ = some (.int .i64 a0_2) := (blk_cell BK279.out 2).trans rfl; have hfz6_0 := blk_frozen BK279.out 0; have hfz6_1 := blk_frozen BK279.out 1; have hfz6_2 := blk_frozen BK279.out 2)); go_ret; exact ⟨zG, zI HB.out GE279.out⟩
  ·
   rw [if_neg c4] at H; have c4b0 : decide (a1 ≤ a0_1) = false := decide_eq_false c4; clear c4; replace H := Option.bind_eq_some_iff.mp H; obtain ⟨t280, A70, H⟩ := H; replace H : (some t280) = some r := H; have A7 := az A70; clear A70; obtain rfl := Option.some.inj H; go_enter Tryz.func134, Tryz.ntmps134; go_wp2_with (first | ((with_reducible refine gate_dst (N := 2) rfl ?_); refine box_event ?hg (N := 2) ?hd (cs := #[.int .i64 a0_0, .int .i64 a0_1, .int .i64 a0_2]) (t := 120) ?hr ?_; (case hd => rfl); (case hg => rfl); (case hr => first | (go_simp; done) | (go_simp; rfl)); intro gb279 hg w8 hbox hb; have n0_ := az (below_step (zA HB.out) hb); have n1_ := az (hbox); have n2_ := az ((by rw [hg]; exact (below_size (zA HB.out)) : w.heap.size ≤ gb279)); have n3_ := az ((by rw [hg]; exact (below_size (zA HB.out)) : w.heap.size ≤ gb279)); clear HB; have HB := n0_; have BK279 := n1_; have GW279 := n2_; have GE279 := n3_; clear n0_ n1_ n2_ n3_; clear hb hbox hg; have hcz9_0 : w8.cell? ⟨gb279, 0, none⟩ = some (.int .i64 a0_0) := (blk_cell BK279.out 0).trans rfl; have hcz9_1 : w8.cell? ⟨gb279, 1, none⟩ = some (.int .i64 a0_1) := (blk_cell BK279.out 1).trans rfl; have hcz9_2 : w8.cell? ⟨gb279, 2, none⟩ = some (.int .i64 a0_2) := (blk_cell BK279.out 2).trans rfl; have hfz9_0 := blk_frozen BK279.out 0; have hfz9_1 := blk_frozen BK279.out 1; have hfz9_2 := blk_frozen BK279.out 2) | ((with_reducible refine gate_callee (f := 135) rfl ?_); refine goesL_ (some 18) rfl rfl Tryz.func135 (by kernel_rfl) rfl #[.int .i64 a0_0, .int .i64 a1] rfl zC ?_; (with_reducible refine (cmp_Compare_int.calls a0_0 a1 t280 _ A7.out).mono ?_); rintro e w' ⟨rfl, ⟨nd, rfl⟩⟩; refine ⟨_, rfl, ?_⟩)); go_ret; exact ⟨zG, zI HB.out GE279.out⟩
 ·
  rw [if_neg c3] at H; have c3b0 : decide (a0_0 ≤ a1) = false := decide_eq_false c3; clear c3; replace H := Option.bind_eq_some_iff.mp H; obtain ⟨t281, A100, H⟩ := H; replace H : (some t281) = some r := H; have A10 := az A100; clear A100; obtain rfl := Option.some.inj H; go_enter Tryz.func134, Tryz.ntmps134; go_wp2_with (first | ((with_reducible refine gate_dst (N := 2) rfl ?_); refine box_event ?hg (N := 2) ?hd (cs := #[.int .i64 a0_0, .int .i64 a0_1, .int .i64 a0_2]) (t := 120) ?hr ?_; (case hd => rfl); (case hg => rfl); (case hr => first | (go_simp; done) | (go_simp; rfl)); intro gb279 hg w11 hbox hb; have n0_ := az (below_step (zA HB.out) hb); have n1_ := az (hbox); have n2_ := az ((by rw [hg]; exact (below_size (zA HB.out)) : w.heap.size ≤ gb279)); have n3_ := az ((by rw [hg]; exact (below_size (zA HB.out)) : w.heap.size ≤ gb279)); clear HB; have HB := n0_; have BK279 := n1_; have GW279 := n2_; have GE279 := n3_; clear n0_ n1_ n2_ n3_; clear hb hbox hg; have hcz12_0 : w11.cell? ⟨gb279, 0, none⟩ = some (.int .i64 a0_0) := (blk_cell BK279.out 0).trans rfl; have hcz12_1 : w11.cell? ⟨gb279, 1, none⟩ = some (.int .i64 a0_1) := (blk_cell BK279.out 1).trans rfl; have hcz12_2 : w11.cell? ⟨gb279, 2, none⟩ = some (.int .i64 a0_2) := (blk_cell BK279.out 2).trans rfl; have hfz12_0 := blk_frozen BK279.out 0; have hfz12_1 := blk_frozen BK279.out 1; have hfz12_2 := blk_frozen BK279.out 2) | ((with_reducible refine gate_callee (f := 135) rfl ?_); refine goesL_ (some 18) rfl rfl Tryz.func135 (by kernel_rfl) rfl #[.int .i64 a0_0, .int .i64 a1] rfl zC ?_; (with_reducible refine (cmp_Compare_int.calls a0_0 a1 t281 _ A10.out).mono ?_); rintro e w' ⟨rfl, ⟨nd, rfl⟩⟩; refine ⟨_, rfl, ?_⟩)); go_ret; exact ⟨zG, zI HB.out GE279.out⟩
def cmpR (x : S120) (r : Int) : Int := if x.f0 ≤ r ∧ r ≤ x.f1 then 0 else if x.f0 < r then -1 else if r < x.f0 then 1 else 0
def bsR (l : List S120) (r : Int) : Nat → Nat → Nat → Nat
 | 0, lo, _ => lo
 | k + 1, lo, hi => if lo < hi then (if cmpR (l.getD ((lo + hi) / 2) z120) r < 0 then bsR l r k ((lo + hi) / 2 + 1) hi else bsR l r k lo ((lo + hi) / 2)) else lo
theorem bsR_end (l : List S120) (r : Int) (k lo : Nat) : bsR l r k lo lo = lo := by cases k <;> simp [bsR]
theorem bsR_lt {l : List S120} {r : Int} {k lo hi : Nat} (h : lo < hi) (hc : cmpR (l.getD ((lo + hi) / 2) z120) r < 0) : bsR l r (k + 1) lo hi = bsR l r k ((lo + hi) / 2 + 1) hi := by
 rw [bsR, if_pos h, if_pos hc]
theorem bsR_ge {l : List S120} {r : Int} {k lo hi : Nat} (h : lo < hi) (hc : ¬ cmpR (l.getD ((lo + hi) / 2) z120) r < 0) : bsR l r (k + 1) lo hi = bsR l r k lo ((lo + hi) / 2) := by
 rw [bsR, if_pos h, if_neg hc]
theorem bsR_more (l : List S120) (r : Int) : ∀ (k k' lo hi : Nat), hi - lo ≤ k → hi - lo ≤ k' → bsR l r k lo hi = bsR l r k' lo hi
 | 0, 0, _, _, _, _ => rfl
 | 0, k' + 1, lo, hi, h, _ => by rw [bsR, bsR, if_neg (by omega)]
 | k + 1, 0, lo, hi, _, h => by rw [bsR, bsR, if_neg (by omega)]
 | k + 1, k' + 1, lo, hi, h, h' => by
  rw [bsR, bsR]
  by_cases hlt : lo < hi
  · rw [if_pos hlt, if_pos hlt, bsR_more l r k k' ((lo + hi) / 2 + 1) hi (by omega) (by omega), bsR_more l r k k' lo ((lo + hi) / 2) (by omega) (by omega)]
  · rw [if_neg hlt, if_neg hlt]
theorem cmpC_f (a b : Int) : cmp_Compare_int.f a b = some (if a < b then -1 else if b < a then 1 else 0) := by
 simp only [cmp_Compare_int.f, cmp_isNaN_int.f, Option.bind_some, bne_self_eq_false, Bool.false_eq_true, if_false, gt_iff_lt]
 split
 · rfl
 · split <;> rfl
theorem cmpR_f (x : S120) (r : Int) : impl_find_1.f x.f0 x.f1 x.f2 r = some (cmpR x r) := by
 simp only [impl_find_1.f, cmpR, cmpC_f, Option.bind_some, ge_iff_le]
 by_cases h0 : x.f0 ≤ r
 ·
  by_cases h1 : r ≤ x.f1
  · simp [h0, h1]
  · simp [h0, h1]
 · simp [h0]
theorem bsR_calls (A0 : Option Addr) (c0 : Nat) (l0 : List S120) (a1 : Int) (w : World) (hr0 : Kd.C k120 w A0 l0.length l0) (hn : l0.length ≤ 1000) :
  Calls Tryz.prog 133 #[.slice A0 l0.length c0, .int .i64 a1, .func (.func 134) #[] #[]] w fun e w' =>
   e = .returned (.tuple #[.int .i64 (bsR l0 a1 l0.length 0 l0.length : Nat), .bool (decide (bsR l0 a1 l0.length 0 l0.length < l0.length) && decide (cmpR (l0.getD (bsR l0 a1 l0.length 0 l0.length) z120) a1 = 0))]) ∧ Below w.heap.size w w' := by
 have HR0 := az hr0
 clear hr0
 go_enter Tryz.func133, Tryz.ntmps133
 go_wp2
 go_loopg [9, 10] l0.length (fun kx s9 s10 wr => ∃ lo hi : Nat, s9 = .int .i64 lo ∧ s10 = .int .i64 hi ∧ lo ≤ hi ∧ hi ≤ l0.length ∧ hi - lo ≤ kx ∧ Aside0 (Below w.heap.size w wr) ∧ Aside0 (bsR l0 a1 (hi - lo) lo hi = bsR l0 a1 l0.length 0 l0.length))
 case atStart => exact ⟨0, l0.length, rfl, rfl, Nat.zero_le _, Nat.le_refl _, by omega, ⟨Below.refl _ _⟩, ⟨rfl⟩⟩
 case round =>
  obtain ⟨lo, hi, rfl, rfl, hlh, hin, hg, HB, HI⟩ := hrel
  by_cases hlt : lo < hi
  ·
   obtain ⟨ad, rfl, hx⟩ := at_T120 HR0.out (((lo + hi) / 2 : Nat) : Int) (by omega) (by omega)
   have HM := az (cmpR_f (l0.getD ((lo + hi) / 2) z120) a1)
   simp only [rd_T120, Int.toNat_natCast] at hx
   obtain ⟨x0, x1, x2⟩ := hx
   replace x0 := (HB.out.cell (World.block_lt_of_cell? w _ x0)).trans x0
   replace x1 := (HB.out.cell (World.block_lt_of_cell? w _ x1)).trans x1
   replace x2 := (HB.out.cell (World.block_lt_of_cell? w _ x2)).trans x2
   generalize hy : l0.getD ((lo + hi) / 2) z120 = y at x0 x1 x2 HM
   have HY := az hy
   clear hy
   by_cases hc : cmpR y a1 < 0
   ·
    have hcb : decide (cmpR y a1 < 0) = true := decide_eq_true hc
    have HC := az hc
    clear hc
    go_wp2_with (go_at_call 134; refine (impl_find_1.calls _ _ _ _ _ _ HM.out).mono ?_; rintro e w' ⟨rfl, hb'⟩)
    go_roundg (hi - ((lo + hi) / 2 + 1))
    case measure => omega
    case rel =>
     refine ⟨(lo + hi) / 2 + 1, hi, by rw [show ((lo : Int) + (hi : Int)) / 2 + 1 = (((lo + hi) / 2 + 1 : Nat) : Int) by omega], rfl, by omega, hin, Nat.le_refl _, ⟨below_then HB.out HB.out.size hb'⟩, ⟨?_⟩⟩
     rw [← HI.out, show hi - lo = (hi - lo - 1) + 1 by omega, bsR_lt hlt (by rw [HY.out]; exact HC.out)]
     exact bsR_more _ _ _ _ _ _ (by omega) (by omega)
   ·
    have hcb : decide (cmpR y a1 < 0) = false := decide_eq_false hc
    have HC := az hc
    clear hc
    go_wp2_with (go_at_call 134; refine (impl_find_1.calls _ _ _ _ _ _ HM.out).mono ?_; rintro e w' ⟨rfl, hb'⟩)
    go_roundg ((lo + hi) / 2 - lo)
    case measure => omega
    case rel =>
     refine ⟨lo, (lo + hi) / 2, rfl, by rw [show ((lo : Int) + (hi : Int)) / 2 = (((lo + hi) / 2 : Nat) : Int) by omega], by omega, by omega, Nat.le_refl _, ⟨below_then HB.out HB.out.size hb'⟩, ⟨?_⟩⟩
     rw [← HI.out, show hi - lo = (hi - lo - 1) + 1 by omega, bsR_ge hlt (by rw [HY.out]; have := HC.out; omega)]
     exact bsR_more _ _ _ _ _ _ (by omega) (by omega)
  ·
   obtain rfl : hi = lo := by omega
   have e : bsR l0 a1 l0.length 0 l0.length = hi := by rw [← HI.out, bsR_end]
   have E := az e
   clear e HI
   by_cases hn2 : hi < l0.length
   ·
    obtain ⟨ad, rfl, hx⟩ := at_T120 HR0.out (hi : Int) (by omega) (by omega)
    have HM := az (cmpR_f (l0.getD hi z120) a1)
    simp only [rd_T120, Int.toNat_natCast] at hx
    obtain ⟨x0, x1, x2⟩ := hx
    replace x0 := (HB.out.cell (World.block_lt_of_cell? w _ x0)).trans x0
    replace x1 := (HB.out.cell (World.block_lt_of_cell? w _ x1)).trans x1
    replace x2 := (HB.out.cell (World.block_lt_of_cell? w _ x2)).trans x2
    generalize hy : l0.getD hi z120 = y at x0 x1 x2 HM
    have HY := az hy
    clear hy
    by_cases hyx : cmpR y a1 = 0
    ·
     go_wp2_with (go_at_call 134; refine (impl_find_1.calls _ _ _ _ _ _ HM.out).mono ?_; rintro e w' ⟨rfl, hb'⟩)
     go_ret2
     exact ⟨by rw [E.out, HY.out]; simp [hn2, hyx], below_then HB.out HB.out.size hb'⟩
    ·
     go_wp2_with (go_at_call 134; refine (impl_find_1.calls _ _ _ _ _ _ HM.out).mono ?_; rintro e w' ⟨rfl, hb'⟩)
     go_ret2
     exact ⟨by rw [E.out, HY.out]; simp [hn2, hyx], below_then HB.out HB.out.size hb'⟩
   ·
    go_wp2
    go_ret2
    exact ⟨by rw [E.out]; simp [hn2], HB.out⟩
def findV (l0 : List S120) (a1 a2 : Int) : Int := if bsR l0 a1 l0.length 0 l0.length < l0.length ∧ cmpR (l0.getD (bsR l0 a1 l0.length 0 l0.length) z120) a1 = 0 then (l0.getD (bsR l0 a1 l0.length 0 l0.length) z120).f2 else a2
def impl_find.f (l0 : List S120) (a1 a2 : Int) : Option Int := if l0.length ≤ 1000 then some (findV l0 a1 a2) else none
theorem impl_find.calls (A0 : Option Addr) (c0 : Nat) (l0 : List (S120)) (a1 : Int) (a2 : Int) (r : Int) (w : World) (hr0 : Kd.C k120 w A0 l0.length l0) (hc0 : l0.length ≤ c0) (h : impl_find.f l0 a1 a2 = some r) :
  Calls Tryz.prog 116 #[.slice A0 l0.length c0, .int .i64 a1, .int .i64 a2] w fun e w' => e = .returned (.int .i64 r) ∧ Below w.heap.size w w' := by
 unfold impl_find.f at h
 by_cases hn : l0.length ≤ 1000
 ·
  rw [if_pos hn] at h
  obtain rfl := Option.some.inj h
  have HC := az (bsR_calls A0 c0 l0 a1)
  have HR := az hr0
  unfold findV
  clear h hc0
  generalize hi : bsR l0 a1 l0.length 0 l0.length = i at HC
  clear hi
  by_cases h1 : i < l0.length
  ·
   by_cases h2 : cmpR (l0.getD i z120) a1 = 0
   ·
    rw [if_pos ⟨h1, h2⟩]
    simp only [decide_eq_true h1, decide_eq_true h2, Bool.and_self] at HC
    clear h2
    obtain ⟨ad, rfl, hx⟩ := at_T120 hr0 (i : Int) (by omega) (by omega)
    simp only [rd_T120, Int.toNat_natCast] at hx
    obtain ⟨x0, x1, x2⟩ := hx
    clear hr0
    have HX := az x2
    clear x0 x1 x2
    have h1' : (i : Int) < (l0.length : Int) := by omega
    generalize l0.getD i z120 = y at HX
    go_enter Tryz.func116, Tryz.ntmps116
    go_wp2_with (go_at_call 133; refine (HC.out _ HR.out hn).mono ?_; rintro e w' ⟨rfl, hb'⟩; have hx2 := (hb'.cell (World.block_lt_of_cell? w _ HX.out)).trans HX.out)
    go_ret
    exact ⟨rfl, hb'⟩
   ·
    rw [if_neg (fun h => h2 h.2)]
    simp only [decide_eq_false h2, Bool.and_false] at HC
    go_enter Tryz.func116, Tryz.ntmps116
    go_wp2_with (go_at_call 133; refine (HC.out _ HR.out hn).mono ?_; rintro e w' ⟨rfl, hb'⟩)
    go_ret
    exact ⟨rfl, hb'⟩
  ·
   rw [if_neg (fun h => h1 h.1)]
   simp only [decide_eq_false h1, Bool.false_and] at HC
   go_enter Tryz.func116, Tryz.ntmps116
   go_wp2_with (go_at_call 133; refine (HC.out _ HR.out hn).mono ?_; rintro e w' ⟨rfl, hb'⟩)
   go_ret
   exact ⟨rfl, hb'⟩
 ·
  rw [if_neg hn] at h
  exact absurd h (by simp)
def impl_bidiReaches.f  : Option ((List (S120))) := some (([(⟨9, 9, 11⟩ : S120), (⟨32, 32, 12⟩ : S120), (⟨35, 37, 6⟩ : S120), (⟨43, 43, 5⟩ : S120), (⟨44, 44, 8⟩ : S120), (⟨45, 45, 5⟩ : S120), (⟨46, 47, 8⟩ : S120), (⟨48, 57, 4⟩ : S120), (⟨58, 58, 8⟩ : S120), (⟨65, 90, 1⟩ : S120), (⟨97, 122, 1⟩ : S120), (⟨173, 173, 10⟩ : S120), (⟨768, 879, 9⟩ : S120), (⟨1488, 1514, 2⟩ : S120), (⟨1569, 1610, 3⟩ : S120), (⟨1632, 1641, 7⟩ : S120), (⟨8203, 8203, 10⟩ : S120), (⟨8205, 8205, 10⟩ : S120), (⟨8234, 8234, 14⟩ : S120), (⟨8235, 8235, 15⟩ : S120), (⟨8236, 8236, 16⟩ : S120), (⟨8237, 8237, 17⟩ : S120), (⟨8238, 8238, 18⟩ : S120), (⟨8294, 8294, 19⟩ : S120), (⟨8295, 8295, 20⟩ : S120), (⟨8296, 8296, 21⟩ : S120), (⟨8297, 8297, 22⟩ : S120), (⟨19968, 40959, 1⟩ : S120)] : List (S120)))
theorem impl_bidiReaches.calls  (r : List (S120)) (w : World) (h : impl_bidiReaches.f  = some r) :
  Calls Tryz.prog 132 #[] w fun e w' => ∃ v0_ : Value, e = .returned (v0_) ∧ Kd.R k120 120 w' w.heap.size (fun _ => True) v0_ r ∧ Below w.heap.size w w' := by
 have hu120 := Tryz.underlying120; have HB := az (Below.refl w.heap.size w); have H : (some (([(⟨9, 9, 11⟩ : S120), (⟨32, 32, 12⟩ : S120), (⟨35, 37, 6⟩ : S120), (⟨43, 43, 5⟩ : S120), (⟨44, 44, 8⟩ : S120), (⟨45, 45, 5⟩ : S120), (⟨46, 47, 8⟩ : S120), (⟨48, 57, 4⟩ : S120), (⟨58, 58, 8⟩ : S120), (⟨65, 90, 1⟩ : S120), (⟨97, 122, 1⟩ : S120), (⟨173, 173, 10⟩ : S120), (⟨768, 879, 9⟩ : S120), (⟨1488, 1514, 2⟩ : S120), (⟨1569, 1610, 3⟩ : S120), (⟨1632, 1641, 7⟩ : S120), (⟨8203, 8203, 10⟩ : S120), (⟨8205, 8205, 10⟩ : S120), (⟨8234, 8234, 14⟩ : S120), (⟨8235, 8235, 15⟩ : S120), (⟨8236, 8236, 16⟩ : S120), (⟨8237, 8237, 17⟩ : S120), (⟨8238, 8238, 18⟩ : S120), (⟨8294, 8294, 19⟩ : S120), (⟨8295, 8295, 20⟩ : S120), (⟨8296, 8296, 21⟩ : S120), (⟨8297, 8297, 22⟩ : S120), (⟨19968, 40959, 1⟩ : S120)] : List (S120)))) = some r := h; clear h; obtain ⟨y282, hy282⟩ : ∃ y_ : List (S120), y_ = (([(⟨9, 9, 11⟩ : S120), (⟨32, 32, 12⟩ : S120), (⟨35, 37, 6⟩ : S120), (⟨43, 43, 5⟩ : S120), (⟨44, 44, 8⟩ : S120), (⟨45, 45, 5⟩ : S120), (⟨46, 47, 8⟩ : S120), (⟨48, 57, 4⟩ : S120), (⟨58, 58, 8⟩ : S120), (⟨65, 90, 1⟩ : S120), (⟨97, 122, 1⟩ : S120), (⟨173, 173, 10⟩ : S120), (⟨768, 879, 9⟩ : S120), (⟨1488, 1514, 2⟩ : S120), (⟨1569, 1610, 3⟩ : S120), (⟨1632, 1641, 7⟩ : S120), (⟨8203, 8203, 10⟩ : S120), (⟨8205, 8205, 10⟩ : S120), (⟨8234, 8234, 14⟩ : S120), (⟨8235, 8235, 15⟩ : S120), (⟨8236, 8236, 16⟩ : S120), (⟨8237, 8237, 17⟩ : S120), (⟨8238, 8238, 18⟩ : S120), (⟨8294, 8294, 19⟩ : S120), (⟨8295, 8295, 20⟩ : S120), (⟨8296, 8296, 21⟩ : S120), (⟨8297, 8297, 22⟩ : S120), (⟨19968, 40959, 1⟩ : S120)] : List (S120))) := ⟨_, rfl⟩; replace H : (some y282) = some r := by first | (rw [hy282]; with_reducible exact H) | (have H2_ := (Option.bind_some _ _).symm.trans H; rw [hy282]; with_reducible exact H2_) | (have H2_ := (Option.bind_some _ _).symm.trans H; with_reducible exact H2_) | with_reducible exact H | (rw [hy282]; exact H) | exact H
 have Ny282 := az hy282; clear hy282; obtain rfl := Option.some.inj H; go_enter Tryz.func132, Tryz.ntmps132; go_wp2_with (first | ((with_reducible refine gate_dst (N := 29) rfl ?_); refine Kd.R_lit k120 _ 120 ?hg (N := 29) ?hd (xs := ([(⟨9, 9, 11⟩ : S120), (⟨32, 32, 12⟩ : S120), (⟨35, 37, 6⟩ : S120), (⟨43, 43, 5⟩ : S120), (⟨44, 44, 8⟩ : S120), (⟨45, 45, 5⟩ : S120), (⟨46, 47, 8⟩ : S120), (⟨48, 57, 4⟩ : S120), (⟨58, 58, 8⟩ : S120), (⟨65, 90, 1⟩ : S120), (⟨97, 122, 1⟩ : S120), (⟨173, 173, 10⟩ : S120), (⟨768, 879, 9⟩ : S120), (⟨1488, 1514, 2⟩ : S120), (⟨1569, 1610, 3⟩ : S120), (⟨1632, 1641, 7⟩ : S120), (⟨8203, 8203, 10⟩ : S120), (⟨8205, 8205, 10⟩ : S120), (⟨8234, 8234, 14⟩ : S120), (⟨8235, 8235, 15⟩ : S120), (⟨8236, 8236, 16⟩ : S120), (⟨8237, 8237, 17⟩ : S120), (⟨8238, 8238, 18⟩ : S120), (⟨8294, 8294, 19⟩ : S120), (⟨8295, 8295, 20⟩ : S120), (⟨8296, 8296, 21⟩ : S120), (⟨8297, 8297, 22⟩ : S120), (⟨19968, 40959, 1⟩ : S120)] : List (S120))) (inner := [.int .i64 9, .int .i64 9, .int .i64 11, .int .i64 32, .int .i64 32, .int .i64 12, .int .i64 35, .int .i64 37, .int .i64 6, .int .i64 43, .int .i64 43, .int .i64 5, .int .i64 44, .int .i64 44, .int .i64 8, .int .i64 45, .int .i64 45, .int .i64 5, .int .i64 46, .int .i64 47, .int .i64 8, .int .i64 48, .int .i64 57, .int .i64 4, .int .i64 58, .int .i64 58, .int .i64 8, .int .i64 65, .int .i64 90, .int .i64 1, .int .i64 97, .int .i64 122, .int .i64 1, .int .i64 173, .int .i64 173, .int .i64 10, .int .i64 768, .int .i64 879, .int .i64 9, .int .i64 1488, .int .i64 1514, .int .i64 2, .int .i64 1569, .int .i64 1610, .int .i64 3, .int .i64 1632, .int .i64 1641, .int .i64 7, .int .i64 8203, .int .i64 8203, .int .i64 10, .int .i64 8205, .int .i64 8205, .int .i64 10, .int .i64 8234, .int .i64 8234, .int .i64 14, .int .i64 8235, .int .i64 8235, .int .i64 15, .int .i64 8236, .int .i64 8236, .int .i64 16, .int .i64 8237, .int .i64 8237, .int .i64 17, .int .i64 8238, .int .i64 8238, .int .i64 18, .int .i64 8294, .int .i64 8294, .int .i64 19, .int .i64 8295, .int .i64 8295, .int .i64 20, .int .i64 8296, .int .i64 8296, .int .i64 21, .int .i64 8297, .int .i64 8297, .int .i64 22, .int .i64 19968, .int .i64 40959, .int .i64 1]) (ok := fun _ => True) (okp := fun _ => True) ?hr ?hp (fun _ hk => hk) trivial (Below.refl _ _) (Nat.le_refl _) (by simp) ?_; (case hd => rfl); (case hg => rfl); (case hr => first | (go_simp; done) | (go_simp; rfl)); (case hp => exact (Reps.c3 (show Kd.M k120 _ _ _ (⟨9, 9, 11⟩ : S120) [.int .i64 9, .int .i64 9, .int .i64 11] from (k120_mkM _ _ _ (⟨9, 9, 11⟩ : S120) )) (Reps.c3 (show Kd.M k120 _ _ _ (⟨32, 32, 12⟩ : S120) [.int .i64 32, .int .i64 32, .int .i64 12] from (k120_mkM _ _ _ (⟨32, 32, 12⟩ : S120) )) (Reps.c3 (show Kd.M k120 _ _ _ (⟨35, 37, 6⟩ : S120) [.int .i64 35, .int .i64 37, .int .i64 6] from (k120_mkM _ _ _ (⟨35, 37, 6⟩ : S120) )) (Reps.c3 (show Kd.M k120 _ _ _ (⟨43, 43, 5⟩ : S120) [.int .i64 43, .int .i64 43, .int .i64 5] from (k120_mkM _ _ _ (⟨43, 43, 5⟩ : S120) )) (Reps.c3 (show Kd.M k120 _ _ _ (⟨44, 44, 8⟩ : S120) [.int .i64 44, .int .i64 44, .int .i64 8] from (k120_mkM _ _ _ (⟨44, 44, 8⟩ : S120) )) (Reps.c3 (show Kd.M k120 _ _ _ (⟨45, 45, 5⟩ : S120) [.int .i64 45, .int .i64 45, .int .i64 5] from (k120_mkM _ _ _ (⟨45, 45, 5⟩ : S120) )) (Reps.c3 (show Kd.M k120 _ _ _ (⟨46, 47, 8⟩ : S120) [.int .i64 46, .int .i64 47, .int .i64 8] from (k120_mkM _ _ _ (⟨46, 47, 8⟩ : S120) )) (Reps.c3 (show Kd.M k120 _ _ _ (⟨48, 57, 4⟩ : S120) [.int .i64 48, .int .i64 57, .int .i64 4] from (k120_mkM _ _ _ (⟨48, 57, 4⟩ : S120) )) (Reps.c3 (show Kd.M k120 _ _ _ (⟨58, 58, 8⟩ : S120) [.int .i64 58, .int .i64 58, .int .i64 8] from (k120_mkM _ _ _ (⟨58, 58, 8⟩ : S120) )) (Reps.c3 (show Kd.M k120 _ _ _ (⟨65, 90, 1⟩ : S120) [.int .i64 65, .int .i64 90, .int .i64 1] from (k120_mkM _ _ _ (⟨65, 90, 1⟩ : S120) )) (Reps.c3 (show Kd.M k120 _ _ _ (⟨97, 122, 1⟩ : S120) [.int .i64 97, .int .i64 122, .int .i64 1] from (k120_mkM _ _ _ (⟨97, 122, 1⟩ : S120) )) (Reps.c3 (show Kd.M k120 _ _ _ (⟨173, 173, 10⟩ : S120) [.int .i64 173, .int .i64 173, .int .i64 10] from (k120_mkM _ _ _ (⟨173, 173, 10⟩ : S120) )) (Reps.c3 (show Kd.M k120 _ _ _ (⟨768, 879, 9⟩ : S120) [.int .i64 768, .int .i64 879, .int .i64 9] from (k120_mkM _ _ _ (⟨768, 879, 9⟩ : S120) )) (Reps.c3 (show Kd.M k120 _ _ _ (⟨1488, 1514, 2⟩ : S120) [.int .i64 1488, .int .i64 1514, .int .i64 2] from (k120_mkM _ _ _ (⟨1488, 1514, 2⟩ : S120) )) (Reps.c3 (show Kd.M k120 _ _ _ (⟨1569, 1610, 3⟩ : S120) [.int .i64 1569, .int .i64 1610, .int .i64 3] from (k120_mkM _ _ _ (⟨1569, 1610, 3⟩ : S120) )) (Reps.c3 (show Kd.M k120 _ _ _ (⟨1632, 1641, 7⟩ : S120) [.int .i64 1632, .int .i64 1641, .int .i64 7] from (k120_mkM _ _ _ (⟨1632, 1641, 7⟩ : S120) )) (Reps.c3 (show Kd.M k120 _ _ _ (⟨8203, 8203, 10⟩ : S120) [.int .i64 8203, .int .i64 8203, .int .i64 10] from (k120_mkM _ _ _ (⟨8203, 8203, 10⟩ : S120) )) (Reps.c3 (show Kd.M k120 _ _ _ (⟨8205, 8205, 10⟩ : S120) [.int .i64 8205, .int .i64 8205, .int .i64 10] from (k120_mkM _ _ _ (⟨8205, 8205, 10⟩ : S120) )) (Reps.c3 (show Kd.M k120 _ _ _ (⟨8234, 8234, 14⟩ : S120) [.int .i64 8234, .int .i64 8234, .int .i64 14] from (k120_mkM _ _ _ (⟨8234, 8234, 14⟩ : S120) )) (Reps.c3 (show Kd.M k120 _ _ _ (⟨8235, 8235, 15⟩ : S120) [.int .i64 8235, .int .i64 8235, .int .i64 15] from (k120_mkM _ _ _ (⟨8235, 8235, 15⟩ : S120) )) (Reps.c3 (show Kd.M k120 _ _ _ (⟨8236, 8236, 16⟩ : S120) [.int .i64 8236, .int .i64 8236, .int .i64 16] from (k120_mkM _ _ _ (⟨8236, 8236, 16⟩ : S120) )) (Reps.c3 (show Kd.M k120 _ _ _ (⟨8237, 8237, 17⟩ : S120) [.int .i64 8237, .int .i64 8237, .int .i64 17] from (k120_mkM _ _ _ (⟨8237, 8237, 17⟩ : S120) )) (Reps.c3 (show Kd.M k120 _ _ _ (⟨8238, 8238, 18⟩ : S120) [.int .i64 8238, .int .i64 8238, .int .i64 18] from (k120_mkM _ _ _ (⟨8238, 8238, 18⟩ : S120) )) (Reps.c3 (show Kd.M k120 _ _ _ (⟨8294, 8294, 19⟩ : S120) [.int .i64 8294, .int .i64 8294, .int .i64 19] from (k120_mkM _ _ _ (⟨8294, 8294, 19⟩ : S120) )) (Reps.c3 (show Kd.M k120 _ _ _ (⟨8295, 8295, 20⟩ : S120) [.int .i64 8295, .int .i64 8295, .int .i64 20] from (k120_mkM _ _ _ (⟨8295, 8295, 20⟩ : S120) )) (Reps.c3 (show Kd.M k120 _ _ _ (⟨8296, 8296, 21⟩ : S120) [.int .i64 8296, .int .i64 8296, .int .i64 21] from (k120_mkM _ _ _ (⟨8296, 8296, 21⟩ : S120) )) (Reps.c3 (show Kd.M k120 _ _ _ (⟨8297, 8297, 22⟩ : S120) [.int .i64 8297, .int .i64 8297, .int .i64 22] from (k120_mkM _ _ _ (⟨8297, 8297, 22⟩ : S120) )) (Reps.c3 (show Kd.M k120 _ _ _ (⟨19968, 40959, 1⟩ : S120) [.int .i64 19968, .int .i64 40959, .int .i64 1] from (k120_mkM _ _ _ (⟨19968, 40959, 1⟩ : S120) )) (Reps.none _ _)))))))))))))))))))))))))))))); intro v283 w1 ho2 hb hg_ hnew_; clear hg_ hnew_; (first | rw [← Ny282.out] at ho2 | (simp only [Int.reduceToNat] at ho2; rw [← Ny282.out] at ho2)); have n0_ := az (Kd.R_lower ho2 (below_size (zA HB.out))); have n1_ := az (below_step (zA HB.out) hb); clear HB; have HO284 := n0_; have HB := n1_; clear n0_ n1_; clear hb ho2))
 go_ret; exact ⟨_, zG, zF HO284.out, zA HB.out⟩
def impl_RuneBidi.f (a0 : Int) : Option (Int) := (impl_bidiReaches.f).bind fun t285 => ((impl_find.f t285 a0 13).bind fun t288 => (some t288))
theorem impl_RuneBidi.calls (a0 : Int) (r : Int) (w : World) (h : impl_RuneBidi.f a0 = some r) :
  Calls Tryz.prog 115 #[.int .i64 a0] w fun e w' => e = .returned (.int .i64 r) ∧ Below w.heap.size w w' := by
 have HB := az (Below.refl w.heap.size w); have H : ((impl_bidiReaches.f).bind fun t285 => ((impl_find.f t285 a0 13).bind fun t288 => (some t288))) = some r := h; clear h; replace H := Option.bind_eq_some_iff.mp H; obtain ⟨t285, A20, H⟩ := H; replace H : ((impl_find.f t285 a0 13).bind fun t288 => (some t288)) = some r := H; have A2 := az A20; clear A20; replace H := Option.bind_eq_some_iff.mp H; obtain ⟨t288, A30, H⟩ := H; replace H : (some t288) = some r := H; have A3 := az A30; clear A30; obtain rfl := Option.some.inj H; go_enter Tryz.func115, Tryz.ntmps115; go_wp2_with (first | ((with_reducible refine gate_callee (f := 132) rfl ?_); refine goesL_ (some 3) rfl rfl Tryz.func132 (by kernel_rfl) rfl #[] rfl zC ?_; (with_reducible refine (impl_bidiReaches.calls  t285 _ A2.out).mono ?_); rintro e w4 ⟨v286, rfl, ho0, hb⟩; refine ⟨_, rfl, ?_⟩; have n0_ := az (Kd.R_lower ho0 (below_size (zA HB.out))); have n1_ := az (below_step (zA HB.out) hb); clear HB; have HO287 := n0_; have HB := n1_; clear n0_ n1_; (try clear hb); (try clear hb2); (try clear hk); (try clear hi); (try clear ho0); obtain ⟨Ao5, co5, eo5⟩ := Kd.R_slice HO287.out; subst eo5) | ((with_reducible refine gate_callee (f := 116) rfl ?_); refine goesL_ (some 5) rfl rfl Tryz.func116 (by kernel_rfl) rfl #[.slice Ao5 t285.length co5, .int .i64 a0, .int .i64 13] rfl zC ?_; (with_reducible refine (impl_find.calls _ _ t285 a0 13 t288 _ ?side1 ?side2 A3.out).mono ?_); (case side1 => exact (zR HO287.out)); (case side2 => exact (Kd.R_reads' HO287.out).2.1); rintro e w6 ⟨rfl, hb⟩; refine ⟨_, rfl, ?_⟩; have n0_ := az (Kd.R_below (zF HO287.out) hb); have n1_ := az (below_step (zA HB.out) hb); clear HO287; clear HB; have HO287 := n0_; have HB := n1_; clear n0_ n1_; (try clear hb); (try clear hb2); (try clear hk); (try clear hi))); go_ret; exact ⟨zG, zA HB.out⟩
def impl_lineReaches.f  : Option ((List (S120))) := some (([(⟨9, 9, 14⟩ : S120), (⟨10, 10, 4⟩ : S120), (⟨32, 32, 3⟩ : S120), (⟨33, 33, 10⟩ : S120), (⟨34, 34, 11⟩ : S120), (⟨40, 40, 8⟩ : S120), (⟨41, 41, 9⟩ : S120), (⟨44, 44, 13⟩ : S120), (⟨45, 45, 12⟩ : S120), (⟨46, 47, 13⟩ : S120), (⟨48, 57, 2⟩ : S120), (⟨58, 59, 13⟩ : S120), (⟨63, 63, 10⟩ : S120), (⟨91, 91, 8⟩ : S120), (⟨93, 93, 9⟩ : S120), (⟨123, 123, 8⟩ : S120), (⟨125, 125, 9⟩ : S120), (⟨160, 160, 5⟩ : S120), (⟨173, 173, 14⟩ : S120), (⟨1632, 1641, 2⟩ : S120), (⟨8203, 8203, 6⟩ : S120), (⟨8205, 8205, 7⟩ : S120), (⟨19968, 40959, 15⟩ : S120)] : List (S120)))
theorem impl_lineReaches.calls  (r : List (S120)) (w : World) (h : impl_lineReaches.f  = some r) :
  Calls Tryz.prog 117 #[] w fun e w' => ∃ v0_ : Value, e = .returned (v0_) ∧ Kd.R k120 120 w' w.heap.size (fun _ => True) v0_ r ∧ Below w.heap.size w w' := by
 have hu120 := Tryz.underlying120; have HB := az (Below.refl w.heap.size w); have H : (some (([(⟨9, 9, 14⟩ : S120), (⟨10, 10, 4⟩ : S120), (⟨32, 32, 3⟩ : S120), (⟨33, 33, 10⟩ : S120), (⟨34, 34, 11⟩ : S120), (⟨40, 40, 8⟩ : S120), (⟨41, 41, 9⟩ : S120), (⟨44, 44, 13⟩ : S120), (⟨45, 45, 12⟩ : S120), (⟨46, 47, 13⟩ : S120), (⟨48, 57, 2⟩ : S120), (⟨58, 59, 13⟩ : S120), (⟨63, 63, 10⟩ : S120), (⟨91, 91, 8⟩ : S120), (⟨93, 93, 9⟩ : S120), (⟨123, 123, 8⟩ : S120), (⟨125, 125, 9⟩ : S120), (⟨160, 160, 5⟩ : S120), (⟨173, 173, 14⟩ : S120), (⟨1632, 1641, 2⟩ : S120), (⟨8203, 8203, 6⟩ : S120), (⟨8205, 8205, 7⟩ : S120), (⟨19968, 40959, 15⟩ : S120)] : List (S120)))) = some r := h; clear h; obtain ⟨y289, hy289⟩ : ∃ y_ : List (S120), y_ = (([(⟨9, 9, 14⟩ : S120), (⟨10, 10, 4⟩ : S120), (⟨32, 32, 3⟩ : S120), (⟨33, 33, 10⟩ : S120), (⟨34, 34, 11⟩ : S120), (⟨40, 40, 8⟩ : S120), (⟨41, 41, 9⟩ : S120), (⟨44, 44, 13⟩ : S120), (⟨45, 45, 12⟩ : S120), (⟨46, 47, 13⟩ : S120), (⟨48, 57, 2⟩ : S120), (⟨58, 59, 13⟩ : S120), (⟨63, 63, 10⟩ : S120), (⟨91, 91, 8⟩ : S120), (⟨93, 93, 9⟩ : S120), (⟨123, 123, 8⟩ : S120), (⟨125, 125, 9⟩ : S120), (⟨160, 160, 5⟩ : S120), (⟨173, 173, 14⟩ : S120), (⟨1632, 1641, 2⟩ : S120), (⟨8203, 8203, 6⟩ : S120), (⟨8205, 8205, 7⟩ : S120), (⟨19968, 40959, 15⟩ : S120)] : List (S120))) := ⟨_, rfl⟩; replace H : (some y289) = some r := by first | (rw [hy289]; with_reducible exact H) | (have H2_ := (Option.bind_some _ _).symm.trans H; rw [hy289]; with_reducible exact H2_) | (have H2_ := (Option.bind_some _ _).symm.trans H; with_reducible exact H2_) | with_reducible exact H | (rw [hy289]; exact H) | exact H
 have Ny289 := az hy289; clear hy289; obtain rfl := Option.some.inj H; go_enter Tryz.func117, Tryz.ntmps117; go_wp2_with (first | ((with_reducible refine gate_dst (N := 24) rfl ?_); refine Kd.R_lit k120 _ 120 ?hg (N := 24) ?hd (xs := ([(⟨9, 9, 14⟩ : S120), (⟨10, 10, 4⟩ : S120), (⟨32, 32, 3⟩ : S120), (⟨33, 33, 10⟩ : S120), (⟨34, 34, 11⟩ : S120), (⟨40, 40, 8⟩ : S120), (⟨41, 41, 9⟩ : S120), (⟨44, 44, 13⟩ : S120), (⟨45, 45, 12⟩ : S120), (⟨46, 47, 13⟩ : S120), (⟨48, 57, 2⟩ : S120), (⟨58, 59, 13⟩ : S120), (⟨63, 63, 10⟩ : S120), (⟨91, 91, 8⟩ : S120), (⟨93, 93, 9⟩ : S120), (⟨123, 123, 8⟩ : S120), (⟨125, 125, 9⟩ : S120), (⟨160, 160, 5⟩ : S120), (⟨173, 173, 14⟩ : S120), (⟨1632, 1641, 2⟩ : S120), (⟨8203, 8203, 6⟩ : S120), (⟨8205, 8205, 7⟩ : S120), (⟨19968, 40959, 15⟩ : S120)] : List (S120))) (inner := [.int .i64 9, .int .i64 9, .int .i64 14, .int .i64 10, .int .i64 10, .int .i64 4, .int .i64 32, .int .i64 32, .int .i64 3, .int .i64 33, .int .i64 33, .int .i64 10, .int .i64 34, .int .i64 34, .int .i64 11, .int .i64 40, .int .i64 40, .int .i64 8, .int .i64 41, .int .i64 41, .int .i64 9, .int .i64 44, .int .i64 44, .int .i64 13, .int .i64 45, .int .i64 45, .int .i64 12, .int .i64 46, .int .i64 47, .int .i64 13, .int .i64 48, .int .i64 57, .int .i64 2, .int .i64 58, .int .i64 59, .int .i64 13, .int .i64 63, .int .i64 63, .int .i64 10, .int .i64 91, .int .i64 91, .int .i64 8, .int .i64 93, .int .i64 93, .int .i64 9, .int .i64 123, .int .i64 123, .int .i64 8, .int .i64 125, .int .i64 125, .int .i64 9, .int .i64 160, .int .i64 160, .int .i64 5, .int .i64 173, .int .i64 173, .int .i64 14, .int .i64 1632, .int .i64 1641, .int .i64 2, .int .i64 8203, .int .i64 8203, .int .i64 6, .int .i64 8205, .int .i64 8205, .int .i64 7, .int .i64 19968, .int .i64 40959, .int .i64 15]) (ok := fun _ => True) (okp := fun _ => True) ?hr ?hp (fun _ hk => hk) trivial (Below.refl _ _) (Nat.le_refl _) (by simp) ?_; (case hd => rfl); (case hg => rfl); (case hr => first | (go_simp; done) | (go_simp; rfl)); (case hp => exact (Reps.c3 (show Kd.M k120 _ _ _ (⟨9, 9, 14⟩ : S120) [.int .i64 9, .int .i64 9, .int .i64 14] from (k120_mkM _ _ _ (⟨9, 9, 14⟩ : S120) )) (Reps.c3 (show Kd.M k120 _ _ _ (⟨10, 10, 4⟩ : S120) [.int .i64 10, .int .i64 10, .int .i64 4] from (k120_mkM _ _ _ (⟨10, 10, 4⟩ : S120) )) (Reps.c3 (show Kd.M k120 _ _ _ (⟨32, 32, 3⟩ : S120) [.int .i64 32, .int .i64 32, .int .i64 3] from (k120_mkM _ _ _ (⟨32, 32, 3⟩ : S120) )) (Reps.c3 (show Kd.M k120 _ _ _ (⟨33, 33, 10⟩ : S120) [.int .i64 33, .int .i64 33, .int .i64 10] from (k120_mkM _ _ _ (⟨33, 33, 10⟩ : S120) )) (Reps.c3 (show Kd.M k120 _ _ _ (⟨34, 34, 11⟩ : S120) [.int .i64 34, .int .i64 34, .int .i64 11] from (k120_mkM _ _ _ (⟨34, 34, 11⟩ : S120) )) (Reps.c3 (show Kd.M k120 _ _ _ (⟨40, 40, 8⟩ : S120) [.int .i64 40, .int .i64 40, .int .i64 8] from (k120_mkM _ _ _ (⟨40, 40, 8⟩ : S120) )) (Reps.c3 (show Kd.M k120 _ _ _ (⟨41, 41, 9⟩ : S120) [.int .i64 41, .int .i64 41, .int .i64 9] from (k120_mkM _ _ _ (⟨41, 41, 9⟩ : S120) )) (Reps.c3 (show Kd.M k120 _ _ _ (⟨44, 44, 13⟩ : S120) [.int .i64 44, .int .i64 44, .int .i64 13] from (k120_mkM _ _ _ (⟨44, 44, 13⟩ : S120) )) (Reps.c3 (show Kd.M k120 _ _ _ (⟨45, 45, 12⟩ : S120) [.int .i64 45, .int .i64 45, .int .i64 12] from (k120_mkM _ _ _ (⟨45, 45, 12⟩ : S120) )) (Reps.c3 (show Kd.M k120 _ _ _ (⟨46, 47, 13⟩ : S120) [.int .i64 46, .int .i64 47, .int .i64 13] from (k120_mkM _ _ _ (⟨46, 47, 13⟩ : S120) )) (Reps.c3 (show Kd.M k120 _ _ _ (⟨48, 57, 2⟩ : S120) [.int .i64 48, .int .i64 57, .int .i64 2] from (k120_mkM _ _ _ (⟨48, 57, 2⟩ : S120) )) (Reps.c3 (show Kd.M k120 _ _ _ (⟨58, 59, 13⟩ : S120) [.int .i64 58, .int .i64 59, .int .i64 13] from (k120_mkM _ _ _ (⟨58, 59, 13⟩ : S120) )) (Reps.c3 (show Kd.M k120 _ _ _ (⟨63, 63, 10⟩ : S120) [.int .i64 63, .int .i64 63, .int .i64 10] from (k120_mkM _ _ _ (⟨63, 63, 10⟩ : S120) )) (Reps.c3 (show Kd.M k120 _ _ _ (⟨91, 91, 8⟩ : S120) [.int .i64 91, .int .i64 91, .int .i64 8] from (k120_mkM _ _ _ (⟨91, 91, 8⟩ : S120) )) (Reps.c3 (show Kd.M k120 _ _ _ (⟨93, 93, 9⟩ : S120) [.int .i64 93, .int .i64 93, .int .i64 9] from (k120_mkM _ _ _ (⟨93, 93, 9⟩ : S120) )) (Reps.c3 (show Kd.M k120 _ _ _ (⟨123, 123, 8⟩ : S120) [.int .i64 123, .int .i64 123, .int .i64 8] from (k120_mkM _ _ _ (⟨123, 123, 8⟩ : S120) )) (Reps.c3 (show Kd.M k120 _ _ _ (⟨125, 125, 9⟩ : S120) [.int .i64 125, .int .i64 125, .int .i64 9] from (k120_mkM _ _ _ (⟨125, 125, 9⟩ : S120) )) (Reps.c3 (show Kd.M k120 _ _ _ (⟨160, 160, 5⟩ : S120) [.int .i64 160, .int .i64 160, .int .i64 5] from (k120_mkM _ _ _ (⟨160, 160, 5⟩ : S120) )) (Reps.c3 (show Kd.M k120 _ _ _ (⟨173, 173, 14⟩ : S120) [.int .i64 173, .int .i64 173, .int .i64 14] from (k120_mkM _ _ _ (⟨173, 173, 14⟩ : S120) )) (Reps.c3 (show Kd.M k120 _ _ _ (⟨1632, 1641, 2⟩ : S120) [.int .i64 1632, .int .i64 1641, .int .i64 2] from (k120_mkM _ _ _ (⟨1632, 1641, 2⟩ : S120) )) (Reps.c3 (show Kd.M k120 _ _ _ (⟨8203, 8203, 6⟩ : S120) [.int .i64 8203, .int .i64 8203, .int .i64 6] from (k120_mkM _ _ _ (⟨8203, 8203, 6⟩ : S120) )) (Reps.c3 (show Kd.M k120 _ _ _ (⟨8205, 8205, 7⟩ : S120) [.int .i64 8205, .int .i64 8205, .int .i64 7] from (k120_mkM _ _ _ (⟨8205, 8205, 7⟩ : S120) )) (Reps.c3 (show Kd.M k120 _ _ _ (⟨19968, 40959, 15⟩ : S120) [.int .i64 19968, .int .i64 40959, .int .i64 15] from (k120_mkM _ _ _ (⟨19968, 40959, 15⟩ : S120) )) (Reps.none _ _))))))))))))))))))))))))); intro v290 w1 ho2 hb hg_ hnew_; clear hg_ hnew_; (first | rw [← Ny289.out] at ho2 | (simp only [Int.reduceToNat] at ho2; rw [← Ny289.out] at ho2)); have n0_ := az (Kd.R_lower ho2 (below_size (zA HB.out))); have n1_ := az (below_step (zA HB.out) hb); clear HB; have HO291 := n0_; have HB := n1_; clear n0_ n1_; clear hb ho2))
 go_ret; exact ⟨_, zG, zF HO291.out, zA HB.out⟩
def impl_RuneLine.j0 : Nat → Int → Bool → Option (Int)
 | 0, _, _ => none
 | k + 1, x0, x11 => if x11 = true then (some 7) else ((impl_lineReaches.f).bind fun t293 => ((impl_find.f t293 x0 1).bind fun t296 => (some t296)))
def impl_RuneLine.f (k : Nat) (a0 : Int) : Option (Int) := (impl_RuneBidi.f a0).bind fun t292 => (if t292 = 9 then (impl_RuneLine.j0 k a0 true) else (impl_RuneLine.j0 k a0 (decide (t292 ≥ 14))))
theorem impl_RuneLine.mono_l : ∀ k, (∀ y0 y1, LeO (impl_RuneLine.j0 k y0 y1) (impl_RuneLine.j0 (k + 1) y0 y1))
 | 0 => fun _ _ r h => by simp [impl_RuneLine.j0] at h
 | k + 1 => by
  have ih0 := impl_RuneLine.mono_l k
  ·
   intro y0 y1; unfold impl_RuneLine.j0
   repeat' first
   | (with_reducible exact ih0 _ _)
   | (with_reducible exact LeO.refl _)
   | (with_reducible exact LeO.none _)
   | (with_reducible refine LeO.ite ?_ ?_)
   | (with_reducible refine LeO.bind ?_ (fun _ => ?_))
   | exact ih0 _ _
   | exact LeO.none _
   | refine LeO.ite ?_ ?_
   | refine LeO.bind ?_ (fun _ => ?_)
theorem impl_RuneLine.mono : ∀ a0 k, LeO (impl_RuneLine.f k a0) (impl_RuneLine.f (k + 1) a0) := by
 intro a0 k; have ih0 := impl_RuneLine.mono_l k; unfold impl_RuneLine.f
 repeat' first
   | (with_reducible exact ih0 _ _)
   | (with_reducible exact LeO.refl _)
   | (with_reducible exact LeO.none _)
   | (with_reducible refine LeO.ite ?_ ?_)
   | (with_reducible refine LeO.bind ?_ (fun _ => ?_))
   | exact ih0 _ _
   | exact LeO.none _
   | refine LeO.ite ?_ ?_
   | refine LeO.bind ?_ (fun _ => ?_)
theorem impl_RuneLine.calls (k : Nat) (a0 : Int) (r : Int) (w : World) (h : impl_RuneLine.f k a0 = some r) :
  Calls Tryz.prog 81 #[.int .i64 a0] w fun e w' => e = .returned (.int .i64 r) ∧ Below w.heap.size w w' := by
 have HB := az (Below.refl w.heap.size w); have H : ((impl_RuneBidi.f a0).bind fun t292 => (if t292 = 9 then (impl_RuneLine.j0 k a0 true) else (impl_RuneLine.j0 k a0 (decide (t292 ≥ 14))))) = some r := h; clear h; replace H := Option.bind_eq_some_iff.mp H; obtain ⟨t292, A20, H⟩ := H; replace H : (if t292 = 9 then (impl_RuneLine.j0 k a0 true) else (impl_RuneLine.j0 k a0 (decide (t292 ≥ 14)))) = some r := H; have A2 := az A20; clear A20; have HC3 := az H; clear H; go_enter Tryz.func81, Tryz.ntmps81; go_upto_region 2 with (first | ((with_reducible refine gate_callee (f := 115) rfl ?_); refine goesL_ (some 5) rfl rfl Tryz.func115 (by kernel_rfl) rfl #[.int .i64 a0] rfl zC ?_; (with_reducible refine (impl_RuneBidi.calls a0 t292 _ A2.out).mono ?_); rintro e w4 ⟨rfl, hb⟩; refine ⟨_, rfl, ?_⟩; have n0_ := az (below_step (zA HB.out) hb); clear HB; have HB := n0_; clear n0_; (try clear hb); (try clear hb2); (try clear hk); (try clear hi)))
 (try simp only [Act.put, List.setIfInBounds_toArray, List.set_cons_zero, List.set_cons_succ]); go_cut [11] (fun v11 wc => ∃ (kq : Nat) (x11_2 : Bool), v11 = .bool x11_2 ∧ Aside0 (impl_RuneLine.j0 kq a0 x11_2 = some r) ∧ Aside0 (kq ≤ k) ∧ Aside0 (Below w.heap.size w wc))
 case first =>
  have H := HC3.out; clear HC3; by_cases c5 : t292 = 9
  ·
   rw [if_pos c5] at H; have c5b0 : (t292 == 9) = true := beq_iff_eq.mpr c5; have c5b1 : (t292 != 9) = false := bne_eq_false_iff_eq.mpr c5; clear c5; (first | rw [c5b0] | (simp only [i64_w, i32_w]; rw [c5b0]) | skip); have H' := az H; clear H; go_wp2; go_meet
   case rel => exact ⟨_, (true), zB, H', ⟨zJ⟩, ⟨zA HB.out⟩⟩
  ·
   rw [if_neg c5] at H; have c5b0 : (t292 == 9) = false := beq_eq_false_iff_ne.mpr c5; have c5b1 : (t292 != 9) = true := bne_iff_ne.mpr c5; (first | rw [c5b0] | (simp only [i64_w, i32_w]; rw [c5b0]) | skip); have H' := az H; clear H; go_wp2; go_meet
   case rel => exact ⟨_, (decide (t292 ≥ 14)), zB, H', ⟨zJ⟩, ⟨zA HB.out⟩⟩
 case rest =>
  clear HC3; (try clear c1); (try clear p2); (try clear c5); (try clear c5b0); (try clear c5b1); obtain ⟨kq, x11_2, rfl, HA, HJ2, HB⟩ := hcut
  cases kq with
  | zero => exact absurd HA.out (by simp [impl_RuneLine.j0])
  | succ kj2 =>
   have H := HA.out; clear HA; simp only [impl_RuneLine.j0] at H; by_cases c6 : x11_2 = true
   ·
    subst c6; have H1 : (some 7) = some r := by rw [if_pos rfl] at H; exact H
    clear H; have H := H1; clear H1; obtain rfl := Option.some.inj H; go_wp2; go_ret; exact ⟨zG, zA HB.out⟩
   ·
    replace c6 := Bool.eq_false_iff.mpr c6; subst c6; have H1 : ((impl_lineReaches.f).bind fun t293 => ((impl_find.f t293 a0 1).bind fun t296 => (some t296))) = some r := by rw [if_neg (show ¬ (false = true) by decide)] at H; exact H
    clear H; have H := H1; clear H1; replace H := Option.bind_eq_some_iff.mp H; obtain ⟨t293, A70, H⟩ := H; replace H : ((impl_find.f t293 a0 1).bind fun t296 => (some t296)) = some r := H; have A7 := az A70; clear A70; replace H := Option.bind_eq_some_iff.mp H; obtain ⟨t296, A80, H⟩ := H; replace H : (some t296) = some r := H; have A8 := az A80; clear A80; obtain rfl := Option.some.inj H; go_wp2_with (first | ((with_reducible refine gate_callee (f := 117) rfl ?_); refine goesL_ (some 12) rfl rfl Tryz.func117 (by kernel_rfl) rfl #[] rfl zC ?_; (with_reducible refine (impl_lineReaches.calls  t293 _ A7.out).mono ?_); rintro e w9 ⟨v294, rfl, ho0, hb⟩; refine ⟨_, rfl, ?_⟩; have n0_ := az (Kd.R_lower ho0 (below_size (zA HB.out))); have n1_ := az (below_step (zA HB.out) hb); clear HB; have HO295 := n0_; have HB := n1_; clear n0_ n1_; (try clear hb); (try clear hb2); (try clear hk); (try clear hi); (try clear ho0); obtain ⟨Ao10, co10, eo10⟩ := Kd.R_slice HO295.out; subst eo10) | ((with_reducible refine gate_callee (f := 116) rfl ?_); refine goesL_ (some 14) rfl rfl Tryz.func116 (by kernel_rfl) rfl #[.slice Ao10 t293.length co10, .int .i64 a0, .int .i64 1] rfl zC ?_; (with_reducible refine (impl_find.calls _ _ t293 a0 1 t296 _ ?side1 ?side2 A8.out).mono ?_); (case side1 => exact (zR HO295.out)); (case side2 => exact (Kd.R_reads' HO295.out).2.1); rintro e w11 ⟨rfl, hb⟩; refine ⟨_, rfl, ?_⟩; have n0_ := az (Kd.R_below (zF HO295.out) hb); have n1_ := az (below_step (zA HB.out) hb); clear HO295; clear HB; have HO295 := n0_; have HB := n1_; clear n0_ n1_; (try clear hb); (try clear hb2); (try clear hk); (try clear hi))); go_ret; exact ⟨zG, zA HB.out⟩
def impl_oneOf.l0 : Nat → Int → List Int → Int → Int → Option (Bool)
 | 0, _, _, _, _ => none
 | k + 1, x0, x7, x8, x9 => if x9 < x8 then (if 0 ≤ x9 then (if x9 < (x7.length : Int) then (if x0 = (rd x7 x9) then (some true) else (impl_oneOf.l0 k x0 x7 x8 (wrap64 (x9 + 1)))) else (none)) else (none)) else (some false)
def impl_oneOf.f (k : Nat) (a0 : Int) (l1 : List Int) : Option (Bool) := impl_oneOf.l0 k a0 l1 (l1.length : Int) 0
theorem impl_oneOf.mono_l : ∀ k, (∀ y0 y1 y2 y3, LeO (impl_oneOf.l0 k y0 y1 y2 y3) (impl_oneOf.l0 (k + 1) y0 y1 y2 y3))
 | 0 => fun _ _ _ _ r h => by simp [impl_oneOf.l0] at h
 | k + 1 => by
  have ih0 := impl_oneOf.mono_l k
  ·
   intro y0 y1 y2 y3; unfold impl_oneOf.l0
   repeat' first
   | (with_reducible exact ih0 _ _ _ _)
   | (with_reducible exact LeO.refl _)
   | (with_reducible exact LeO.none _)
   | (with_reducible refine LeO.ite ?_ ?_)
   | (with_reducible refine LeO.bind ?_ (fun _ => ?_))
   | exact ih0 _ _ _ _
   | exact LeO.none _
   | refine LeO.ite ?_ ?_
   | refine LeO.bind ?_ (fun _ => ?_)
theorem impl_oneOf.mono : ∀ a0 a1 k, LeO (impl_oneOf.f k a0 a1) (impl_oneOf.f (k + 1) a0 a1) := by
 intro a0 a1 k; have ih0 := impl_oneOf.mono_l k; unfold impl_oneOf.f
 repeat' first
   | (with_reducible exact ih0 _ _ _ _)
   | (with_reducible exact LeO.refl _)
   | (with_reducible exact LeO.none _)
   | (with_reducible refine LeO.ite ?_ ?_)
   | (with_reducible refine LeO.bind ?_ (fun _ => ?_))
   | exact ih0 _ _ _ _
   | exact LeO.none _
   | refine LeO.ite ?_ ?_
   | refine LeO.bind ?_ (fun _ => ?_)
theorem impl_oneOf.calls (k : Nat) (a0 : Int) (A1 : Option Addr) (c1 : Nat) (l1 : List Int) (r : Bool) (w : World) (hr1 : Kd.C (Kd.int .i64) w A1 l1.length l1) (hc1 : l1.length ≤ c1) (h : impl_oneOf.f k a0 l1 = some r) :
  Calls Tryz.prog 104 #[.int .i64 a0, .slice A1 l1.length c1] w fun e w' => e = .returned (.bool r) ∧ Drawn0 w w' := by
 have HR1 := az hr1; have HC1 := az hc1; clear hr1 hc1; have H : (impl_oneOf.l0 k a0 l1 (l1.length : Int) 0) = some r := h; clear h; have H' := az H; clear H; go_enter Tryz.func104, Tryz.ntmps104; go_wp2; go_loopg [9] k (fun kq v9 w' => ∃ (x9_1 : Int), v9 = .int .i64 x9_1 ∧ Aside0 (impl_oneOf.l0 kq a0 l1 (l1.length : Int) x9_1 = some r) ∧ Aside0 (kq ≤ k) ∧ Drawn0 w w')
 case atStart => exact ⟨(0), zB, H', ⟨Nat.le_refl _⟩, zD⟩
 case round =>
  clear H'; (try clear c1); (try clear p2); obtain ⟨x9_1, rfl, HA, HK1, ⟨m1, rfl⟩⟩ := hrel
  cases gk with
  | zero => exact absurd HA.out (by simp [impl_oneOf.l0])
  | succ k1 =>
   have H := HA.out; clear HA; simp only [impl_oneOf.l0] at H; by_cases c3 : x9_1 < (l1.length : Int)
   ·
    rw [if_pos c3] at H; have c3b0 : decide (x9_1 < (l1.length : Int)) = true := decide_eq_true c3; clear c3; by_cases c4 : 0 ≤ x9_1
    ·
     rw [if_pos c4] at H; have c4b0 : decide (0 ≤ x9_1) = true := decide_eq_true c4; clear c4; by_cases c5 : x9_1 < (l1.length : Int)
     ·
      rw [if_pos c5] at H; have c5b0 : decide (x9_1 < (l1.length : Int)) = true := decide_eq_true c5; clear c5; by_cases c6 : a0 = (rd l1 x9_1)
      ·
       rw [if_pos c6] at H; have c6b0 : (a0 == (rd l1 x9_1)) = true := beq_iff_eq.mpr c6; have c6b1 : (a0 != (rd l1 x9_1)) = false := bne_eq_false_iff_eq.mpr c6; clear c6; obtain rfl := Option.some.inj H; have p297 : 0 ≤ (x9_1 : Int) := of_decide_eq_true (by assumption); have q297 : x9_1 < (l1.length : Int) := of_decide_eq_true (by assumption); obtain ⟨ad297, e297, hx297_0⟩ := Kd.at_int HR1.out x9_1 p297 q297
       cases e297
       replace p297 := eq_true p297; replace q297 := eq_true q297; go_wp2; go_ret; exact ⟨zB, zD⟩
      ·
       rw [if_neg c6] at H; have c6b0 : (a0 == (rd l1 x9_1)) = false := beq_eq_false_iff_ne.mpr c6; have c6b1 : (a0 != (rd l1 x9_1)) = true := bne_iff_ne.mpr c6; have H' := az H; clear H; have p297 : 0 ≤ (x9_1 : Int) := of_decide_eq_true (by assumption); have q297 : x9_1 < (l1.length : Int) := of_decide_eq_true (by assumption); obtain ⟨ad297, e297, hx297_0⟩ := Kd.at_int HR1.out x9_1 p297 q297
       cases e297
       replace p297 := eq_true p297; replace q297 := eq_true q297; go_wp2; go_roundg k1
       case measure => have := HK1.out; omega
       case rel => exact ⟨(wrap64 (x9_1 + 1)), zB, H', ⟨zE HK1.out⟩, zD⟩
     ·
      rw [if_neg c5] at H; exact absurd H (by simp)
    ·
     rw [if_neg c4] at H; exact absurd H (by simp)
   ·
    rw [if_neg c3] at H; have c3b0 : decide (x9_1 < (l1.length : Int)) = false := decide_eq_false c3; clear c3; obtain rfl := Option.some.inj H; go_wp2; go_ret; exact ⟨zB, zD⟩
def impl_afterSpace.f (k : Nat) (a0 : Int) : Option (Bool) := (impl_oneOf.f k a0 (([3, 4, 6] : List Int))).bind fun t301 => (some t301)
theorem impl_afterSpace.mono : ∀ a0 k, LeO (impl_afterSpace.f k a0) (impl_afterSpace.f (k + 1) a0) := by
 intro a0 k; unfold impl_afterSpace.f
 repeat' first
   | (with_reducible exact impl_oneOf.mono _ _ _)
   | (with_reducible exact LeO.refl _)
   | (with_reducible exact LeO.none _)
   | (with_reducible refine LeO.ite ?_ ?_)
   | (with_reducible refine LeO.bind ?_ (fun _ => ?_))
   | exact impl_oneOf.mono _ _ _
   | exact LeO.none _
   | refine LeO.ite ?_ ?_
   | refine LeO.bind ?_ (fun _ => ?_)
theorem impl_afterSpace.calls (k : Nat) (a0 : Int) (r : Bool) (w : World) (h : impl_afterSpace.f k a0 = some r) :
  Calls Tryz.prog 82 #[.int .i64 a0] w fun e w' => e = .returned (.bool r) ∧ Below w.heap.size w w' := by
 have HB := az (Below.refl w.heap.size w); have H : ((impl_oneOf.f k a0 (([3, 4, 6] : List Int))).bind fun t301 => (some t301)) = some r := h; clear h; obtain ⟨y298, hy298⟩ : ∃ y_ : List Int, y_ = (([3, 4, 6] : List Int)) := ⟨_, rfl⟩; replace H : ((impl_oneOf.f k a0 y298).bind fun t301 => (some t301)) = some r := by first | (rw [hy298]; with_reducible exact H) | (have H2_ := (Option.bind_some _ _).symm.trans H; rw [hy298]; with_reducible exact H2_) | (have H2_ := (Option.bind_some _ _).symm.trans H; with_reducible exact H2_) | with_reducible exact H | (rw [hy298]; exact H) | exact H
 have Ny298 := az hy298; clear hy298; replace H := Option.bind_eq_some_iff.mp H; obtain ⟨t301, A20, H⟩ := H; replace H : (some t301) = some r := H; have A2 := az A20; clear A20; obtain rfl := Option.some.inj H; go_enter Tryz.func82, Tryz.ntmps82; go_wp2_with (first | ((with_reducible refine gate_dst (N := 4) rfl ?_); refine Kd.R_lit (Kd.int .i64) _ 3 ?hg (N := 4) ?hd (xs := ([3, 4, 6] : List Int)) (inner := [.int .i64 3, .int .i64 4, .int .i64 6]) (ok := fun _ => True) (okp := fun _ => True) ?hr ?hp (fun _ hk => hk) trivial (Below.refl _ _) (Nat.le_refl _) (by simp) ?_; (case hd => rfl); (case hg => rfl); (case hr => first | (go_simp; done) | (go_simp; rfl)); (case hp => exact (Reps.one (show Kd.M (Kd.int .i64) _ _ _ 3 [.int .i64 3] from rfl) (Reps.one (show Kd.M (Kd.int .i64) _ _ _ 4 [.int .i64 4] from rfl) (Reps.one (show Kd.M (Kd.int .i64) _ _ _ 6 [.int .i64 6] from rfl) (Reps.none _ _))))); intro v299 w3 ho4 hb hg_ hnew_; clear hg_ hnew_; (first | rw [← Ny298.out] at ho4 | (simp only [Int.reduceToNat] at ho4; rw [← Ny298.out] at ho4)); have n0_ := az (Kd.R_lower ho4 (below_size (zA HB.out))); have n1_ := az (below_step (zA HB.out) hb); clear HB; have HO300 := n0_; have HB := n1_; clear n0_ n1_; clear hb ho4; obtain ⟨Ao5, co5, eo5⟩ := Kd.R_slice HO300.out; subst eo5) | ((with_reducible refine gate_callee (f := 104) rfl ?_); refine goesL_ (some 5) rfl rfl Tryz.func104 (by kernel_rfl) rfl #[.int .i64 a0, .slice Ao5 y298.length co5] rfl zC ?_; (with_reducible refine (impl_oneOf.calls k a0 _ _ y298 t301 _ ?side1 ?side2 A2.out).mono ?_); (case side1 => exact (zR HO300.out)); (case side2 => exact (Kd.R_reads' HO300.out).2.1); rintro e w' ⟨rfl, ⟨nd, rfl⟩⟩; refine ⟨_, rfl, ?_⟩)); go_ret; exact ⟨zG, zA HB.out⟩
def impl_countsOf.l0 : Nat → List Int → List Int → Int → Int → Option (List Int)
 | 0, _, _, _, _ => none
 | k + 1, x3, x7, x8, x9 => if x9 < x8 then (if 0 ≤ x9 then (if x9 < (x7.length : Int) then ((impl_RuneLine.f k (rd x7 x9)).bind fun t303 => (if t303 = 7 then (if x9 > 0 then (if 0 ≤ (wrap64 (x9 - 1)) then (if (wrap64 (x9 - 1)) < (x3.length : Int) then ((impl_afterSpace.f k (rd x3 (wrap64 (x9 - 1)))).bind fun t305 => (if t305 = true then (if x3.length < 17592186044416 then (impl_countsOf.l0 k (x3 ++ [1]) x7 x8 (wrap64 (x9 + 1))) else (none)) else (if x3.length < 17592186044416 then (impl_countsOf.l0 k (x3 ++ [rd x3 (wrap64 (x9 - 1))]) x7 x8 (wrap64 (x9 + 1))) else (none)))) else (none)) else (none)) else (if x3.length < 17592186044416 then (impl_countsOf.l0 k (x3 ++ [1]) x7 x8 (wrap64 (x9 + 1))) else (none))) else (if x3.length < 17592186044416 then (impl_countsOf.l0 k (x3 ++ [t303]) x7 x8 (wrap64 (x9 + 1))) else (none)))) else (none)) else (none)) else (some x3)
def impl_countsOf.f (k : Nat) (l0 : List Int) : Option (List Int) := impl_countsOf.l0 k ([] : List Int) l0 (l0.length : Int) 0
theorem impl_countsOf.mono_l : ∀ k, (∀ y0 y1 y2 y3, LeO (impl_countsOf.l0 k y0 y1 y2 y3) (impl_countsOf.l0 (k + 1) y0 y1 y2 y3))
 | 0 => fun _ _ _ _ r h => by simp [impl_countsOf.l0] at h
 | k + 1 => by
  have ih0 := impl_countsOf.mono_l k
  ·
   intro y0 y1 y2 y3; unfold impl_countsOf.l0
   repeat' first
   | (with_reducible exact ih0 _ _ _ _)
   | (with_reducible exact impl_RuneLine.mono _ _)
   | (with_reducible exact impl_afterSpace.mono _ _)
   | (with_reducible exact LeO.refl _)
   | (with_reducible exact LeO.none _)
   | (with_reducible refine LeO.ite ?_ ?_)
   | (with_reducible refine LeO.bind ?_ (fun _ => ?_))
   | exact ih0 _ _ _ _
   | exact impl_RuneLine.mono _ _
   | exact impl_afterSpace.mono _ _
   | exact LeO.none _
   | refine LeO.ite ?_ ?_
   | refine LeO.bind ?_ (fun _ => ?_)
theorem impl_countsOf.mono : ∀ a0 k, LeO (impl_countsOf.f k a0) (impl_countsOf.f (k + 1) a0) := by
 intro a0 k; have ih0 := impl_countsOf.mono_l k; unfold impl_countsOf.f
 repeat' first
   | (with_reducible exact ih0 _ _ _ _)
   | (with_reducible exact impl_RuneLine.mono _ _)
   | (with_reducible exact impl_afterSpace.mono _ _)
   | (with_reducible exact LeO.refl _)
   | (with_reducible exact LeO.none _)
   | (with_reducible refine LeO.ite ?_ ?_)
   | (with_reducible refine LeO.bind ?_ (fun _ => ?_))
   | exact ih0 _ _ _ _
   | exact impl_RuneLine.mono _ _
   | exact impl_afterSpace.mono _ _
   | exact LeO.none _
   | refine LeO.ite ?_ ?_
   | refine LeO.bind ?_ (fun _ => ?_)
theorem impl_countsOf.calls (k : Nat) (A0 : Option Addr) (c0 : Nat) (l0 : List Int) (r : List Int) (w : World) (hr0 : Kd.C (Kd.int .i64) w A0 l0.length l0) (hc0 : l0.length ≤ c0) (h : impl_countsOf.f k l0 = some r) :
  Calls Tryz.prog 78 #[.slice A0 l0.length c0] w fun e w' => ∃ v0_ : Value, e = .returned (v0_) ∧ Kd.R (Kd.int .i64) 3 w' w.heap.size (fun _ => True) v0_ r ∧ Below w.heap.size w w' := by
 have HR0 := az hr0; have HC0 := az hc0; clear hr0 hc0; have HB := az (Below.refl w.heap.size w); have H : (impl_countsOf.l0 k ([] : List Int) l0 (l0.length : Int) 0) = some r := h; clear h; have H' := az H; clear H; go_enter Tryz.func78, Tryz.ntmps78; go_wp2; go_loopg [3, 9] k (fun kq v3 v9 w' => ∃ (x3_1 : List Int) (x9_1 : Int), v9 = .int .i64 x9_1 ∧ Aside0 (impl_countsOf.l0 kq x3_1 l0 (l0.length : Int) x9_1 = some r) ∧ Aside0 (kq ≤ k) ∧ Aside0 (Kd.R (Kd.int .i64) 3 w' w.heap.size (fun _ => True) v3 x3_1) ∧ Aside0 (Below w.heap.size w w'))
 case atStart => exact ⟨(([] : List Int)), (0), zB, H', ⟨Nat.le_refl _⟩, ⟨zW⟩, ⟨zA HB.out⟩⟩
 case round =>
  clear H'; obtain ⟨x3_1, x9_1, rfl, HA, HK1, HO_3, HB⟩ := hrel
  cases gk with
  | zero => exact absurd HA.out (by simp [impl_countsOf.l0])
  | succ k1 =>
   have H := HA.out; clear HA; simp only [impl_countsOf.l0] at H; by_cases c2 : x9_1 < (l0.length : Int)
   ·
    rw [if_pos c2] at H; have c2b0 : decide (x9_1 < (l0.length : Int)) = true := decide_eq_true c2; clear c2; by_cases c3 : 0 ≤ x9_1
    ·
     rw [if_pos c3] at H; have c3b0 : decide (0 ≤ x9_1) = true := decide_eq_true c3; clear c3; by_cases c4 : x9_1 < (l0.length : Int)
     ·
      rw [if_pos c4] at H; have c4b0 : decide (x9_1 < (l0.length : Int)) = true := decide_eq_true c4; clear c4; replace H := Option.bind_eq_some_iff.mp H; obtain ⟨t303, A50, H⟩ := H; replace H : (if t303 = 7 then (if x9_1 > 0 then (if 0 ≤ (wrap64 (x9_1 - 1)) then (if (wrap64 (x9_1 - 1)) < (x3_1.length : Int) then ((impl_afterSpace.f k1 (rd x3_1 (wrap64 (x9_1 - 1)))).bind fun t305 => (if t305 = true then (if x3_1.length < 17592186044416 then (impl_countsOf.l0 k1 (x3_1 ++ [1]) l0 (l0.length : Int) (wrap64 (x9_1 + 1))) else (none)) else (if x3_1.length < 17592186044416 then (impl_countsOf.l0 k1 (x3_1 ++ [rd x3_1 (wrap64 (x9_1 - 1))]) l0 (l0.length : Int) (wrap64 (x9_1 + 1))) else (none)))) else (none)) else (none)) else (if x3_1.length < 17592186044416 then (impl_countsOf.l0 k1 (x3_1 ++ [1]) l0 (l0.length : Int) (wrap64 (x9_1 + 1))) else (none))) else (if x3_1.length < 17592186044416 then (impl_countsOf.l0 k1 (x3_1 ++ [t303]) l0 (l0.length : Int) (wrap64 (x9_1 + 1))) else (none))) = some r := H; have A5 := az A50; clear A50; by_cases c6 : t303 = 7
      ·
       rw [if_pos c6] at H; have c6b0 : (t303 == 7) = true := beq_iff_eq.mpr c6; have c6b1 : (t303 != 7) = false := bne_eq_false_iff_eq.mpr c6; clear c6; by_cases c7 : x9_1 > 0
       ·
        rw [if_pos c7] at H; have c7b0 : decide (0 < x9_1) = true := decide_eq_true c7; clear c7; obtain ⟨ji8, hji8⟩ : ∃ j_ : Int, (wrap64 (x9_1 - 1)) = j_ := ⟨_, rfl⟩; replace H : (if 0 ≤ (ji8) then (if (ji8) < (x3_1.length : Int) then ((impl_afterSpace.f k1 (rd x3_1 (ji8))).bind fun t305 => (if t305 = true then (if x3_1.length < 17592186044416 then (impl_countsOf.l0 k1 (x3_1 ++ [1]) l0 (l0.length : Int) (wrap64 (x9_1 + 1))) else (none)) else (if x3_1.length < 17592186044416 then (impl_countsOf.l0 k1 (x3_1 ++ [rd x3_1 (ji8)]) l0 (l0.length : Int) (wrap64 (x9_1 + 1))) else (none)))) else (none)) else (none)) = some r := by first | (rw [hji8] at H; exact H) | (simp only [hji8] at H ⊢; exact H)
        (try rw [hji8] at A5); have hji8w : (IntKind.i64.wrap (x9_1 - 1)) = ji8 := (i64_w _).trans hji8; by_cases c9 : 0 ≤ (ji8)
        ·
         rw [if_pos c9] at H; have c9b0 : decide (0 ≤ (ji8)) = true := decide_eq_true c9; clear c9; by_cases c10 : (ji8) < (x3_1.length : Int)
         ·
          rw [if_pos c10] at H; have c10b0 : decide ((ji8) < (x3_1.length : Int)) = true := decide_eq_true c10; clear c10; replace H := Option.bind_eq_some_iff.mp H; obtain ⟨t305, A110, H⟩ := H; replace H : (if t305 = true then (if x3_1.length < 17592186044416 then (impl_countsOf.l0 k1 (x3_1 ++ [1]) l0 (l0.length : Int) (wrap64 (x9_1 + 1))) else (none)) else (if x3_1.length < 17592186044416 then (impl_countsOf.l0 k1 (x3_1 ++ [rd x3_1 (ji8)]) l0 (l0.length : Int) (wrap64 (x9_1 + 1))) else (none))) = some r := H; have A11 := az A110; clear A110; by_cases c12 : t305 = true
          ·
           subst c12; have H1 : (if x3_1.length < 17592186044416 then (impl_countsOf.l0 k1 (x3_1 ++ [1]) l0 (l0.length : Int) (wrap64 (x9_1 + 1))) else (none)) = some r := by rw [if_pos rfl] at H; exact H
           clear H; have H := H1; clear H1; by_cases c13 : x3_1.length < 17592186044416
           ·
            rw [if_pos c13] at H; have LMc13 := az c13; clear c13; obtain ⟨y306, hy306⟩ : ∃ y_ : List Int, y_ = (x3_1 ++ [1]) := ⟨_, rfl⟩; replace H : (impl_countsOf.l0 k1 y306 l0 (l0.length : Int) (wrap64 (x9_1 + 1))) = some r := by first | (rw [hy306]; with_reducible exact H) | (have H2_ := (Option.bind_some _ _).symm.trans H; rw [hy306]; with_reducible exact H2_) | (have H2_ := (Option.bind_some _ _).symm.trans H; with_reducible exact H2_) | with_reducible exact H | (rw [hy306]; exact H) | exact H
            have Ny306 := az hy306; clear hy306; have H' := az H; clear H; have p302 : 0 ≤ (x9_1 : Int) := of_decide_eq_true (by assumption); have q302 : x9_1 < (l0.length : Int) := of_decide_eq_true (by assumption); obtain ⟨ad302, e302, hx302_0⟩ := Kd.at_int HR0.out x9_1 p302 q302
            cases e302
            replace hx302_0 := (HB.out.cell (World.block_lt_of_cell? w _ hx302_0)).trans hx302_0; replace p302 := eq_true p302; replace q302 := eq_true q302; go_wp2_with (first | ((with_reducible refine gate_callee (f := 81) rfl ?_); refine goesL_ (some 15) rfl rfl Tryz.func81 (by kernel_rfl) rfl #[.int .i64 (rd l0 x9_1)] rfl zC ?_; (with_reducible refine (impl_RuneLine.calls k1 (rd l0 x9_1) t303 _ A5.out).mono ?_); rintro e w14 ⟨rfl, hb⟩; refine ⟨_, rfl, ?_⟩; have n0_ := az (Kd.R_below (zF HO_3.out) hb); have n1_ := az (below_step (zA HB.out) hb); clear HO_3; clear HB; have HO_3 := n0_; have HB := n1_; clear n0_ n1_; (try clear hb); (try clear hb2); (try clear hk); (try clear hi); obtain ⟨Ao15, co15, eo15⟩ := Kd.R_slice HO_3.out; subst eo15; have p304 : 0 ≤ ((ji8) : Int) := of_decide_eq_true (by assumption); have q304 : (ji8) < (x3_1.length : Int) := of_decide_eq_true (by assumption); obtain ⟨ad304, e304, hx304_0⟩ := Kd.at_int (Kd.R_reads' HO_3.out).2.2 (ji8) p304 q304; cases e304; replace p304 := eq_true p304; replace q304 := eq_true q304) | (go_at_call 82; (with_reducible refine (impl_afterSpace.calls k1 (rd x3_1 (ji8)) true _ A11.out).mono ?_); rintro e w16 ⟨rfl, hb⟩; have n0_ := az (Kd.R_below (zF HO_3.out) hb); have n1_ := az (below_step (zA HB.out) hb); clear HO_3; clear HB; have HO_3 := n0_; have HB := n1_; clear n0_ n1_; (try clear hb); (try clear hb2); (try clear hk); (try clear hi)) | ((with_reducible refine gate_builtin (b := .append) (xs := #[.tmp 34, .tmp 36]) rfl ?_); at_builtin; refine Kd.R_append (Kd.int .i64) (w0 := w) w.heap.size rfl (.tmp 34) (.tmp 36) 22 3 (.int .i64 0) 8 rfl Tryz.underlying22 info3 rfl (by decide) (by omega) (.slice (some ad304) x3_1.length co15) x3_1 1 [.int .i64 1] (fun _ => True) (fun _ => False) rfl rfl ?aP (fun _ hk => hk.elim) ?aF ?aO ?aB ?aS ?aL ?_; (case aP => exact rfl); (case aB => exact (zA HB.out)); (case aF => exact (fun _ _ => trivial)); (case aO => exact (zF HO_3.out)); (case aS => exact (below_size (zA HB.out))); (case aL => have := LMc13.out; omega); intro v307 w17 ho hb hg hat; rw [← Ny306.out] at ho; have n0_ := az (hb); have n1_ := az (ho); clear HB; clear HO_3; have HB := n0_; have HO308 := n1_; clear n0_ n1_; clear ho hb hg hat)); go_roundg k1
            case measure => have := HK1.out; omega
            case rel => exact ⟨(y306), (wrap64 (x9_1 + 1)), zB, H', ⟨zE HK1.out⟩, ⟨zF HO308.out⟩, ⟨zA HB.out⟩⟩
           ·
            rw [if_neg c13] at H; exact absurd H (by simp)
          ·
           replace c12 := Bool.eq_false_iff.mpr c12; subst c12; have H1 : (if x3_1.length < 17592186044416 then (impl_countsOf.l0 k1 (x3_1 ++ [rd x3_1 (ji8)]) l0 (l0.length : Int) (wrap64 (x9_1 + 1))) else (none)) = some r := by rw [if_neg (show ¬ (false = true) by decide)] at H; exact H
           clear H; have H := H1; clear H1; by_cases c18 : x3_1.length < 17592186044416
           ·
            rw [if_pos c18] at H; have LMc18 := az c18; clear c18; obtain ⟨y310, hy310⟩ : ∃ y_ : List Int, y_ = (x3_1 ++ [rd x3_1 (ji8)]) := ⟨_, rfl⟩; replace H : (impl_countsOf.l0 k1 y310 l0 (l0.length : Int) (wrap64 (x9_1 + 1))) = some r := by first | (rw [hy310]; with_reducible exact H) | (have H2_ := (Option.bind_some _ _).symm.trans H; rw [hy310]; with_reducible exact H2_) | (have H2_ := (Option.bind_some _ _).symm.trans H; with_reducible exact H2_) | with_reducible exact H | (rw [hy310]; exact H) | exact H
            have Ny310 := az hy310; clear hy310; have H' := az H; clear H; have p302 : 0 ≤ (x9_1 : Int) := of_decide_eq_true (by assumption); have q302 : x9_1 < (l0.length : Int) := of_decide_eq_true (by assumption); obtain ⟨ad302, e302, hx302_0⟩ := Kd.at_int HR0.out x9_1 p302 q302
            cases e302
            replace hx302_0 := (HB.out.cell (World.block_lt_of_cell? w _ hx302_0)).trans hx302_0; replace p302 := eq_true p302; replace q302 := eq_true q302; go_wp2_with (first | ((with_reducible refine gate_callee (f := 81) rfl ?_); refine goesL_ (some 15) rfl rfl Tryz.func81 (by kernel_rfl) rfl #[.int .i64 (rd l0 x9_1)] rfl zC ?_; (with_reducible refine (impl_RuneLine.calls k1 (rd l0 x9_1) t303 _ A5.out).mono ?_); rintro e w19 ⟨rfl, hb⟩; refine ⟨_, rfl, ?_⟩; have n0_ := az (Kd.R_below (zF HO_3.out) hb); have n1_ := az (below_step (zA HB.out) hb); clear HO_3; clear HB; have HO_3 := n0_; have HB := n1_; clear n0_ n1_; (try clear hb); (try clear hb2); (try clear hk); (try clear hi); obtain ⟨Ao20, co20, eo20⟩ := Kd.R_slice HO_3.out; subst eo20; have p304 : 0 ≤ ((ji8) : Int) := of_decide_eq_true (by assumption); have q304 : (ji8) < (x3_1.length : Int) := of_decide_eq_true (by assumption); obtain ⟨ad304, e304, hx304_0⟩ := Kd.at_int (Kd.R_reads' HO_3.out).2.2 (ji8) p304 q304; cases e304; replace p304 := eq_true p304; replace q304 := eq_true q304) | (go_at_call 82; (with_reducible refine (impl_afterSpace.calls k1 (rd x3_1 (ji8)) false _ A11.out).mono ?_); rintro e w21 ⟨rfl, hb⟩; have n0_ := az (Kd.R_below (zF HO_3.out) hb); have n1_ := az (below_step (zA HB.out) hb); clear HO_3; clear HB; have HO_3 := n0_; have HB := n1_; clear n0_ n1_; (try clear hb); (try clear hb2); (try clear hk); (try clear hi); have p309 : 0 ≤ ((ji8) : Int) := of_decide_eq_true (by assumption); have q309 : (ji8) < (x3_1.length : Int) := of_decide_eq_true (by assumption); obtain ⟨ad309, e309, hx309_0⟩ := Kd.at_int (Kd.R_reads' HO_3.out).2.2 (ji8) p309 q309; obtain rfl : ad304 = ad309 := (by injection e309); replace p309 := eq_true p309; replace q309 := eq_true q309) | ((with_reducible refine gate_builtin (b := .append) (xs := #[.tmp 34, .tmp 36]) rfl ?_); at_builtin; refine Kd.R_append (Kd.int .i64) (w0 := w) w.heap.size rfl (.tmp 34) (.tmp 36) 22 3 (.int .i64 0) 8 rfl Tryz.underlying22 info3 rfl (by decide) (by omega) (.slice (some ad304) x3_1.length co20) x3_1 (rd x3_1 (ji8)) [.int .i64 (rd x3_1 (ji8))] (fun _ => True) (fun _ => False) rfl rfl ?aP (fun _ hk => hk.elim) ?aF ?aO ?aB ?aS ?aL ?_; (case aP => exact rfl); (case aB => exact (zA HB.out)); (case aF => exact (fun _ _ => trivial)); (case aO => exact (zF HO_3.out)); (case aS => exact (below_size (zA HB.out))); (case aL => have := LMc18.out; omega); intro v311 w22 ho hb hg hat; rw [← Ny310.out] at ho; have n0_ := az (hb); have n1_ := az (ho); clear HB; clear HO_3; have HB := n0_; have HO312 := n1_; clear n0_ n1_; clear ho hb hg hat)); go_roundg k1
            case measure => have := HK1.out; omega
            case rel => exact ⟨(y310), (wrap64 (x9_1 + 1)), zB, H', ⟨zE HK1.out⟩, ⟨zF HO312.out⟩, ⟨zA HB.out⟩⟩
           ·
            rw [if_neg c18] at H; exact absurd H (by simp)
         ·
          rw [if_neg c10] at H; exact absurd H (by simp)
        ·
         rw [if_neg c9] at H; exact absurd H (by simp)
       ·
        rw [if_neg c7] at H; have c7b0 : decide (0 < x9_1) = false := decide_eq_false c7; clear c7; by_cases c23 : x3_1.length < 17592186044416
        ·
         rw [if_pos c23] at H; have LMc23 := az c23; clear c23; obtain ⟨y313, hy313⟩ : ∃ y_ : List Int, y_ = (x3_1 ++ [1]) := ⟨_, rfl⟩; replace H : (impl_countsOf.l0 k1 y313 l0 (l0.length : Int) (wrap64 (x9_1 + 1))) = some r := by first | (rw [hy313]; with_reducible exact H) | (have H2_ := (Option.bind_some _ _).symm.trans H; rw [hy313]; with_reducible exact H2_) | (have H2_ := (Option.bind_some _ _).symm.trans H; with_reducible exact H2_) | with_reducible exact H | (rw [hy313]; exact H) | exact H
         have Ny313 := az hy313; clear hy313; have H' := az H; clear H; have p302 : 0 ≤ (x9_1 : Int) := of_decide_eq_true (by assumption); have q302 : x9_1 < (l0.length : Int) := of_decide_eq_true (by assumption); obtain ⟨ad302, e302, hx302_0⟩ := Kd.at_int HR0.out x9_1 p302 q302
         cases e302
         replace hx302_0 := (HB.out.cell (World.block_lt_of_cell? w _ hx302_0)).trans hx302_0; replace p302 := eq_true p302; replace q302 := eq_true q302; go_wp2_with (first | ((with_reducible refine gate_callee (f := 81) rfl ?_); refine goesL_ (some 15) rfl rfl Tryz.func81 (by kernel_rfl) rfl #[.int .i64 (rd l0 x9_1)] rfl zC ?_; (with_reducible refine (impl_RuneLine.calls k1 (rd l0 x9_1) t303 _ A5.out).mono ?_); rintro e w24 ⟨rfl, hb⟩; refine ⟨_, rfl, ?_⟩; have n0_ := az (Kd.R_below (zF HO_3.out) hb); have n1_ := az (below_step (zA HB.out) hb); clear HO_3; clear HB; have HO_3 := n0_; have HB := n1_; clear n0_ n1_; (try clear hb); (try clear hb2); (try clear hk); (try clear hi)) | ((with_reducible refine gate_builtin (b := .append) (xs := #[.tmp 34, .tmp 36]) rfl ?_); at_builtin; refine Kd.R_append (Kd.int .i64) (w0 := w) w.heap.size rfl (.tmp 34) (.tmp 36) 22 3 (.int .i64 0) 8 rfl Tryz.underlying22 info3 rfl (by decide) (by omega) u3 x3_1 1 [.int .i64 1] (fun _ => True) (fun _ => False) rfl rfl ?aP (fun _ hk => hk.elim) ?aF ?aO ?aB ?aS ?aL ?_; (case aP => exact rfl); (case aB => exact (zA HB.out)); (case aF => exact (fun _ _ => trivial)); (case aO => exact (zF HO_3.out)); (case aS => exact (below_size (zA HB.out))); (case aL => have := LMc23.out; omega); intro v314 w25 ho hb hg hat; rw [← Ny313.out] at ho; have n0_ := az (hb); have n1_ := az (ho); clear HB; clear HO_3; have HB := n0_; have HO315 := n1_; clear n0_ n1_; clear ho hb hg hat)); go_roundg k1
         case measure => have := HK1.out; omega
         case rel => exact ⟨(y313), (wrap64 (x9_1 + 1)), zB, H', ⟨zE HK1.out⟩, ⟨zF HO315.out⟩, ⟨zA HB.out⟩⟩
        ·
         rw [if_neg c23] at H; exact absurd H (by simp)
      ·
       rw [if_neg c6] at H; have c6b0 : (t303 == 7) = false := beq_eq_false_iff_ne.mpr c6; have c6b1 : (t303 != 7) = true := bne_iff_ne.mpr c6; by_cases c26 : x3_1.length < 17592186044416
       ·
        rw [if_pos c26] at H; have LMc26 := az c26; clear c26; obtain ⟨y316, hy316⟩ : ∃ y_ : List Int, y_ = (x3_1 ++ [t303]) := ⟨_, rfl⟩; replace H : (impl_countsOf.l0 k1 y316 l0 (l0.length : Int) (wrap64 (x9_1 + 1))) = some r := by first | (rw [hy316]; with_reducible exact H) | (have H2_ := (Option.bind_some _ _).symm.trans H; rw [hy316]; with_reducible exact H2_) | (have H2_ := (Option.bind_some _ _).symm.trans H; with_reducible exact H2_) | with_reducible exact H | (rw [hy316]; exact H) | exact H
        have Ny316 := az hy316; clear hy316; have H' := az H; clear H; have p302 : 0 ≤ (x9_1 : Int) := of_decide_eq_true (by assumption); have q302 : x9_1 < (l0.length : Int) := of_decide_eq_true (by assumption); obtain ⟨ad302, e302, hx302_0⟩ := Kd.at_int HR0.out x9_1 p302 q302
        cases e302
        replace hx302_0 := (HB.out.cell (World.block_lt_of_cell? w _ hx302_0)).trans hx302_0; replace p302 := eq_true p302; replace q302 := eq_true q302; go_wp2_with (first | ((with_reducible refine gate_callee (f := 81) rfl ?_); refine goesL_ (some 15) rfl rfl Tryz.func81 (by kernel_rfl) rfl #[.int .i64 (rd l0 x9_1)] rfl zC ?_; (with_reducible refine (impl_RuneLine.calls k1 (rd l0 x9_1) t303 _ A5.out).mono ?_); rintro e w27 ⟨rfl, hb⟩; refine ⟨_, rfl, ?_⟩; have n0_ := az (Kd.R_below (zF HO_3.out) hb); have n1_ := az (below_step (zA HB.out) hb); clear HO_3; clear HB; have HO_3 := n0_; have HB := n1_; clear n0_ n1_; (try clear hb); (try clear hb2); (try clear hk); (try clear hi)) | ((with_reducible refine gate_builtin (b := .append) (xs := #[.tmp 34, .tmp 36]) rfl ?_); at_builtin; refine Kd.R_append (Kd.int .i64) (w0 := w) w.heap.size rfl (.tmp 34) (.tmp 36) 22 3 (.int .i64 0) 8 rfl Tryz.underlying22 info3 rfl (by decide) (by omega) u3 x3_1 t303 [.int .i64 t303] (fun _ => True) (fun _ => False) rfl rfl ?aP (fun _ hk => hk.elim) ?aF ?aO ?aB ?aS ?aL ?_; (case aP => exact rfl); (case aB => exact (zA HB.out)); (case aF => exact (fun _ _ => trivial)); (case aO => exact (zF HO_3.out)); (case aS => exact (below_size (zA HB.out))); (case aL => have := LMc26.out; omega); intro v317 w28 ho hb hg hat; rw [← Ny316.out] at ho; have n0_ := az (hb); have n1_ := az (ho); clear HB; clear HO_3; have HB := n0_; have HO318 := n1_; clear n0_ n1_; clear ho hb hg hat)); go_roundg k1
        case measure => have := HK1.out; omega
        case rel => exact ⟨(y316), (wrap64 (x9_1 + 1)), zB, H', ⟨zE HK1.out⟩, ⟨zF HO318.out⟩, ⟨zA HB.out⟩⟩
       ·
        rw [if_neg c26] at H; exact absurd H (by simp)
     ·
      rw [if_neg c4] at H; exact absurd H (by simp)
    ·
     rw [if_neg c3] at H; exact absurd H (by simp)
   ·
    rw [if_neg c2] at H; have c2b0 : decide (x9_1 < (l0.length : Int)) = false := decide_eq_false c2; clear c2; obtain rfl := Option.some.inj H; go_wp2; go_ret; exact ⟨_, zG, zF HO_3.out, zA HB.out⟩
def impl_isRegional.f (a0 : Int) : Option (Bool) := if a0 ≥ 127462 then (some (decide (a0 ≤ 127487))) else (some false)
theorem impl_isRegional.calls (a0 : Int) (r : Bool) (w : World) (h : impl_isRegional.f a0 = some r) :
  Calls Tryz.prog 131 #[.int .i64 a0] w fun e w' => e = .returned (.bool r) ∧ Drawn0 w w' := by
 have H : (if a0 ≥ 127462 then (some (decide (a0 ≤ 127487))) else (some false)) = some r := h
 clear h
 by_cases c2 : a0 ≥ 127462
 ·
  rw [if_pos c2] at H
  have c2b0 : decide (127462 ≤ a0) = true := decide_eq_true c2
  clear c2
  obtain rfl := Option.some.inj H
  go_enter Tryz.func131, Tryz.ntmps131
  go_wp2
  go_ret
  exact ⟨zB, zD⟩
 ·
  rw [if_neg c2] at H
  have c2b0 : decide (127462 ≤ a0) = false := decide_eq_false c2
  clear c2
  obtain rfl := Option.some.inj H
  go_enter Tryz.func131, Tryz.ntmps131
  go_wp2
  go_ret
  exact ⟨zB, zD⟩
def impl_joining_joins.j0 : Nat → Int → Int → Bool → Option (Bool)
 | 0, _, _, _ => none
 | k + 1, x0, x1, x8 => if x8 = true then (if x0 = 1 then (some (x1 == 10)) else (some false)) else ((impl_RuneBidi.f x1).bind fun t319 => (if t319 = 9 then (some true) else (if x1 = 8205 then (some true) else ((impl_isRegional.f x1).bind fun t320 => (if t320 = true then (some (x0 == 3)) else (some false))))))
def impl_joining_joins.f (k : Nat) (a0 : Int) (a1 : Int) : Option (Bool) := if a0 = 0 then (some false) else (if a0 = 2 then (impl_joining_joins.j0 k a0 a1 true) else (impl_joining_joins.j0 k a0 a1 (a1 == 10)))
theorem impl_joining_joins.mono_l : ∀ k, (∀ y0 y1 y2, LeO (impl_joining_joins.j0 k y0 y1 y2) (impl_joining_joins.j0 (k + 1) y0 y1 y2))
 | 0 => fun _ _ _ r h => by simp [impl_joining_joins.j0] at h
 | k + 1 => by
  have ih0 := impl_joining_joins.mono_l k
  ·
   intro y0 y1 y2; unfold impl_joining_joins.j0
   repeat' first
   | (with_reducible exact ih0 _ _ _)
   | (with_reducible exact LeO.refl _)
   | (with_reducible exact LeO.none _)
   | (with_reducible refine LeO.ite ?_ ?_)
   | (with_reducible refine LeO.bind ?_ (fun _ => ?_))
   | exact ih0 _ _ _
   | exact LeO.none _
   | refine LeO.ite ?_ ?_
   | refine LeO.bind ?_ (fun _ => ?_)
theorem impl_joining_joins.mono : ∀ a0 a1 k, LeO (impl_joining_joins.f k a0 a1) (impl_joining_joins.f (k + 1) a0 a1) := by
 intro a0 a1 k; have ih0 := impl_joining_joins.mono_l k; unfold impl_joining_joins.f
 repeat' first
   | (with_reducible exact ih0 _ _ _)
   | (with_reducible exact LeO.refl _)
   | (with_reducible exact LeO.none _)
   | (with_reducible refine LeO.ite ?_ ?_)
   | (with_reducible refine LeO.bind ?_ (fun _ => ?_))
   | exact ih0 _ _ _
   | exact LeO.none _
   | refine LeO.ite ?_ ?_
   | refine LeO.bind ?_ (fun _ => ?_)
theorem impl_joining_joins.calls (k : Nat) (a0 : Int) (a1 : Int) (r : Bool) (w : World) (h : impl_joining_joins.f k a0 a1 = some r) :
  Calls Tryz.prog 99 #[.int .i64 a0, .int .i64 a1] w fun e w' => e = .returned (.bool r) ∧ Below w.heap.size w w' := by
 have HB := az (Below.refl w.heap.size w); have H : (if a0 = 0 then (some false) else (if a0 = 2 then (impl_joining_joins.j0 k a0 a1 true) else (impl_joining_joins.j0 k a0 a1 (a1 == 10)))) = some r := h; clear h; by_cases c3 : a0 = 0
 ·
  rw [if_pos c3] at H; have c3b0 : (a0 == 0) = true := beq_iff_eq.mpr c3; have c3b1 : (a0 != 0) = false := bne_eq_false_iff_eq.mpr c3; clear c3; obtain rfl := Option.some.inj H; go_enter Tryz.func99, Tryz.ntmps99; go_wp2; go_ret; exact ⟨zG, zA HB.out⟩
 ·
  rw [if_neg c3] at H; have c3b0 : (a0 == 0) = false := beq_eq_false_iff_ne.mpr c3; have c3b1 : (a0 != 0) = true := bne_iff_ne.mpr c3; have HC4 := az H; clear H; go_enter Tryz.func99, Tryz.ntmps99; go_upto_region 3 with (fail)
  go_cut [8] (fun v8 wc => ∃ (kq : Nat) (x8_3 : Bool), v8 = .bool x8_3 ∧ Aside0 (impl_joining_joins.j0 kq a0 a1 x8_3 = some r) ∧ Aside0 (kq ≤ k) ∧ Aside0 (Below w.heap.size w wc))
  case first =>
   have H := HC4.out; clear HC4; by_cases c5 : a0 = 2
   ·
    rw [if_pos c5] at H; have c5b0 : (a0 == 2) = true := beq_iff_eq.mpr c5; have c5b1 : (a0 != 2) = false := bne_eq_false_iff_eq.mpr c5; clear c5; (first | rw [c5b0] | (simp only [i64_w, i32_w]; rw [c5b0]) | skip); have H' := az H; clear H; go_wp2; go_meet
    case rel => exact ⟨_, (true), zB, H', ⟨zJ⟩, ⟨zA HB.out⟩⟩
   ·
    rw [if_neg c5] at H; have c5b0 : (a0 == 2) = false := beq_eq_false_iff_ne.mpr c5; have c5b1 : (a0 != 2) = true := bne_iff_ne.mpr c5; (first | rw [c5b0] | (simp only [i64_w, i32_w]; rw [c5b0]) | skip); have H' := az H; clear H; go_wp2; go_meet
    case rel => exact ⟨_, ((a1 == 10)), zB, H', ⟨zJ⟩, ⟨zA HB.out⟩⟩
  case rest =>
   clear HC4; (try clear p2); (try clear c3); (try clear c3b0); (try clear c3b1); (try clear c5); (try clear c5b0); (try clear c5b1); obtain ⟨kq, x8_3, rfl, HA, HJ3, HB⟩ := hcut
   cases kq with
   | zero => exact absurd HA.out (by simp [impl_joining_joins.j0])
   | succ kj3 =>
    have H := HA.out; clear HA; simp only [impl_joining_joins.j0] at H; by_cases c6 : x8_3 = true
    ·
     subst c6; have H1 : (if a0 = 1 then (some (a1 == 10)) else (some false)) = some r := by rw [if_pos rfl] at H; exact H
     clear H; have H := H1; clear H1; by_cases c7 : a0 = 1
     ·
      rw [if_pos c7] at H; have c7b0 : (a0 == 1) = true := beq_iff_eq.mpr c7; have c7b1 : (a0 != 1) = false := bne_eq_false_iff_eq.mpr c7; clear c7; obtain rfl := Option.some.inj H; go_wp2; go_ret; exact ⟨zG, zA HB.out⟩
     ·
      rw [if_neg c7] at H; have c7b0 : (a0 == 1) = false := beq_eq_false_iff_ne.mpr c7; have c7b1 : (a0 != 1) = true := bne_iff_ne.mpr c7; obtain rfl := Option.some.inj H; go_wp2; go_ret; exact ⟨zG, zA HB.out⟩
    ·
     replace c6 := Bool.eq_false_iff.mpr c6; subst c6; have H1 : ((impl_RuneBidi.f a1).bind fun t319 => (if t319 = 9 then (some true) else (if a1 = 8205 then (some true) else ((impl_isRegional.f a1).bind fun t320 => (if t320 = true then (some (a0 == 3)) else (some false)))))) = some r := by rw [if_neg (show ¬ (false = true) by decide)] at H; exact H
     clear H; have H := H1; clear H1; replace H := Option.bind_eq_some_iff.mp H; obtain ⟨t319, A80, H⟩ := H; replace H : (if t319 = 9 then (some true) else (if a1 = 8205 then (some true) else ((impl_isRegional.f a1).bind fun t320 => (if t320 = true then (some (a0 == 3)) else (some false))))) = some r := H; have A8 := az A80; clear A80; by_cases c9 : t319 = 9
     ·
      rw [if_pos c9] at H; have c9b0 : (t319 == 9) = true := beq_iff_eq.mpr c9; have c9b1 : (t319 != 9) = false := bne_eq_false_iff_eq.mpr c9; clear c9; obtain rfl := Option.some.inj H; go_wp2_with (first | ((with_reducible refine gate_callee (f := 115) rfl ?_); refine goesL_ (some 23) rfl rfl Tryz.func115 (by kernel_rfl) rfl #[.int .i64 a1] rfl zC ?_; (with_reducible refine (impl_RuneBidi.calls a1 t319 _ A8.out).mono ?_); rintro e w10 ⟨rfl, hb⟩; refine ⟨_, rfl, ?_⟩; have n0_ := az (below_step (zA HB.out) hb); clear HB; have HB := n0_; clear n0_; (try clear hb); (try clear hb2); (try clear hk); (try clear hi))); go_ret; exact ⟨zG, zA HB.out⟩
     ·
      rw [if_neg c9] at H; have c9b0 : (t319 == 9) = false := beq_eq_false_iff_ne.mpr c9; have c9b1 : (t319 != 9) = true := bne_iff_ne.mpr c9; by_cases c11 : a1 = 8205
      ·
       rw [if_pos c11] at H; have c11b0 : (a1 == 8205) = true := beq_iff_eq.mpr c11; have c11b1 : (a1 != 8205) = false := bne_eq_false_iff_eq.mpr c11; clear c11; obtain rfl := Option.some.inj H; go_wp2_with (first | ((with_reducible refine gate_callee (f := 115) rfl ?_); refine goesL_ (some 23) rfl rfl Tryz.func115 (by kernel_rfl) rfl #[.int .i64 a1] rfl zC ?_; (with_reducible refine (impl_RuneBidi.calls a1 t319 _ A8.out).mono ?_); rintro e w12 ⟨rfl, hb⟩; refine ⟨_, rfl, ?_⟩; have n0_ := az (below_step (zA HB.out) hb); clear HB; have HB := n0_; clear n0_; (try clear hb); (try clear hb2); (try clear hk); (try clear hi))); go_ret; exact ⟨zG, zA HB.out⟩
      ·
       rw [if_neg c11] at H; have c11b0 : (a1 == 8205) = false := beq_eq_false_iff_ne.mpr c11; have c11b1 : (a1 != 8205) = true := bne_iff_ne.mpr c11; replace H := Option.bind_eq_some_iff.mp H; obtain ⟨t320, A130, H⟩ := H; replace H : (if t320 = true then (some (a0 == 3)) else (some false)) = some r := H; have A13 := az A130; clear A130; by_cases c14 : t320 = true
       ·
        subst c14; have H1 : (some (a0 == 3)) = some r := by rw [if_pos rfl] at H; exact H
        clear H; have H := H1; clear H1; obtain rfl := Option.some.inj H; go_wp2_with (first | ((with_reducible refine gate_callee (f := 115) rfl ?_); refine goesL_ (some 23) rfl rfl Tryz.func115 (by kernel_rfl) rfl #[.int .i64 a1] rfl zC ?_; (with_reducible refine (impl_RuneBidi.calls a1 t319 _ A8.out).mono ?_); rintro e w15 ⟨rfl, hb⟩; refine ⟨_, rfl, ?_⟩; have n0_ := az (below_step (zA HB.out) hb); clear HB; have HB := n0_; clear n0_; (try clear hb); (try clear hb2); (try clear hk); (try clear hi)) | ((with_reducible refine gate_callee (f := 131) rfl ?_); refine goesL_ (some 30) rfl rfl Tryz.func131 (by kernel_rfl) rfl #[.int .i64 a1] rfl zC ?_; (with_reducible refine (impl_isRegional.calls a1 true _ A13.out).mono ?_); rintro e w' ⟨rfl, ⟨nd, rfl⟩⟩; refine ⟨_, rfl, ?_⟩)); go_ret; exact ⟨zG, zA HB.out⟩
       ·
        replace c14 := Bool.eq_false_iff.mpr c14; subst c14; have H1 : (some false) = some r := by rw [if_neg (show ¬ (false = true) by decide)] at H; exact H
        clear H; have H := H1; clear H1; obtain rfl := Option.some.inj H; go_wp2_with (first | ((with_reducible refine gate_callee (f := 115) rfl ?_); refine goesL_ (some 23) rfl rfl Tryz.func115 (by kernel_rfl) rfl #[.int .i64 a1] rfl zC ?_; (with_reducible refine (impl_RuneBidi.calls a1 t319 _ A8.out).mono ?_); rintro e w16 ⟨rfl, hb⟩; refine ⟨_, rfl, ?_⟩; have n0_ := az (below_step (zA HB.out) hb); clear HB; have HB := n0_; clear n0_; (try clear hb); (try clear hb2); (try clear hk); (try clear hi)) | ((with_reducible refine gate_callee (f := 131) rfl ?_); refine goesL_ (some 30) rfl rfl Tryz.func131 (by kernel_rfl) rfl #[.int .i64 a1] rfl zC ?_; (with_reducible refine (impl_isRegional.calls a1 false _ A13.out).mono ?_); rintro e w' ⟨rfl, ⟨nd, rfl⟩⟩; refine ⟨_, rfl, ?_⟩)); go_ret; exact ⟨zG, zA HB.out⟩
def impl_joining_next.j0 : Nat → Int → Bool → Option (Int)
 | 0, _, _ => none
 | k + 1, x1, x11 => if x11 = true then (some 4) else ((impl_isRegional.f x1).bind fun t322 => (if t322 = true then (some 3) else (some 5)))
def impl_joining_next.f (k : Nat) (a0 : Int) (a1 : Int) : Option (Int) := if a1 = 13 then (some 1) else (if a1 = 10 then (some 2) else ((impl_isRegional.f a1).bind fun t321 => (if t321 = true then (impl_joining_next.j0 k a1 (a0 == 3)) else (impl_joining_next.j0 k a1 false))))
theorem impl_joining_next.mono_l : ∀ k, (∀ y0 y1, LeO (impl_joining_next.j0 k y0 y1) (impl_joining_next.j0 (k + 1) y0 y1))
 | 0 => fun _ _ r h => by simp [impl_joining_next.j0] at h
 | k + 1 => by
  have ih0 := impl_joining_next.mono_l k
  ·
   intro y0 y1; unfold impl_joining_next.j0
   repeat' first
   | (with_reducible exact ih0 _ _)
   | (with_reducible exact LeO.refl _)
   | (with_reducible exact LeO.none _)
   | (with_reducible refine LeO.ite ?_ ?_)
   | (with_reducible refine LeO.bind ?_ (fun _ => ?_))
   | exact ih0 _ _
   | exact LeO.none _
   | refine LeO.ite ?_ ?_
   | refine LeO.bind ?_ (fun _ => ?_)
theorem impl_joining_next.mono : ∀ a0 a1 k, LeO (impl_joining_next.f k a0 a1) (impl_joining_next.f (k + 1) a0 a1) := by
 intro a0 a1 k; have ih0 := impl_joining_next.mono_l k; unfold impl_joining_next.f
 repeat' first
   | (with_reducible exact ih0 _ _)
   | (with_reducible exact LeO.refl _)
   | (with_reducible exact LeO.none _)
   | (with_reducible refine LeO.ite ?_ ?_)
   | (with_reducible refine LeO.bind ?_ (fun _ => ?_))
   | exact ih0 _ _
   | exact LeO.none _
   | refine LeO.ite ?_ ?_
   | refine LeO.bind ?_ (fun _ => ?_)
theorem impl_joining_next.calls (k : Nat) (a0 : Int) (a1 : Int) (r : Int) (w : World) (h : impl_joining_next.f k a0 a1 = some r) :
  Calls Tryz.prog 100 #[.int .i64 a0, .int .i64 a1] w fun e w' => e = .returned (.int .i64 r) ∧ Drawn0 w w' := by
 have H : (if a1 = 13 then (some 1) else (if a1 = 10 then (some 2) else ((impl_isRegional.f a1).bind fun t321 => (if t321 = true then (impl_joining_next.j0 k a1 (a0 == 3)) else (impl_joining_next.j0 k a1 false))))) = some r := h; clear h; by_cases c3 : a1 = 13
 ·
  rw [if_pos c3] at H; have c3b0 : (a1 == 13) = true := beq_iff_eq.mpr c3; have c3b1 : (a1 != 13) = false := bne_eq_false_iff_eq.mpr c3; clear c3; obtain rfl := Option.some.inj H; go_enter Tryz.func100, Tryz.ntmps100; go_wp2; go_ret; exact ⟨zB, zD⟩
 ·
  rw [if_neg c3] at H; have c3b0 : (a1 == 13) = false := beq_eq_false_iff_ne.mpr c3; have c3b1 : (a1 != 13) = true := bne_iff_ne.mpr c3; by_cases c4 : a1 = 10
  ·
   rw [if_pos c4] at H; have c4b0 : (a1 == 10) = true := beq_iff_eq.mpr c4; have c4b1 : (a1 != 10) = false := bne_eq_false_iff_eq.mpr c4; clear c4; obtain rfl := Option.some.inj H; go_enter Tryz.func100, Tryz.ntmps100; go_wp2; go_ret; exact ⟨zB, zD⟩
  ·
   rw [if_neg c4] at H; have c4b0 : (a1 == 10) = false := beq_eq_false_iff_ne.mpr c4; have c4b1 : (a1 != 10) = true := bne_iff_ne.mpr c4; have HC5 := az H; clear H; go_enter Tryz.func100, Tryz.ntmps100; go_upto_region 5 with (fail)
   go_cut [11] (fun v11 wc => ∃ (kq : Nat) (x11_4 : Bool), v11 = .bool x11_4 ∧ Aside0 (impl_joining_next.j0 kq a1 x11_4 = some r) ∧ Aside0 (kq ≤ k) ∧ Drawn0 w wc)
   case first =>
    have H := HC5.out; clear HC5; replace H := Option.bind_eq_some_iff.mp H; obtain ⟨t321, A60, H⟩ := H; replace H : (if t321 = true then (impl_joining_next.j0 k a1 (a0 == 3)) else (impl_joining_next.j0 k a1 false)) = some r := H; have A6 := az A60; clear A60; by_cases c7 : t321 = true
    ·
     subst c7; have H1 : (impl_joining_next.j0 k a1 (a0 == 3)) = some r := by rw [if_pos rfl] at H; exact H
     clear H; have H := H1; clear H1; have H' := az H; clear H; go_wp2_with (first | ((with_reducible refine gate_callee (f := 131) rfl ?_); refine goesL_ (some 13) rfl rfl Tryz.func131 (by kernel_rfl) rfl #[.int .i64 a1] rfl zC ?_; (with_reducible refine (impl_isRegional.calls a1 true _ A6.out).mono ?_); rintro e w' ⟨rfl, ⟨nd, rfl⟩⟩; refine ⟨_, rfl, ?_⟩)); go_meet
     case rel => exact ⟨_, ((a0 == 3)), zB, H', ⟨zJ⟩, zD⟩
    ·
     replace c7 := Bool.eq_false_iff.mpr c7; subst c7; have H1 : (impl_joining_next.j0 k a1 false) = some r := by rw [if_neg (show ¬ (false = true) by decide)] at H; exact H
     clear H; have H := H1; clear H1; have H' := az H; clear H; go_wp2_with (first | ((with_reducible refine gate_callee (f := 131) rfl ?_); refine goesL_ (some 13) rfl rfl Tryz.func131 (by kernel_rfl) rfl #[.int .i64 a1] rfl zC ?_; (with_reducible refine (impl_isRegional.calls a1 false _ A6.out).mono ?_); rintro e w' ⟨rfl, ⟨nd, rfl⟩⟩; refine ⟨_, rfl, ?_⟩)); go_meet
     case rel => exact ⟨_, (false), zB, H', ⟨zJ⟩, zD⟩
   case rest =>
    clear HC5; (try clear c1); (try clear p2); (try clear c3); (try clear c3b0); (try clear c3b1); (try clear c4); (try clear c4b0); (try clear c4b1); (try clear c7); obtain ⟨kq, x11_4, rfl, HA, HJ4, ⟨mc4, rfl⟩⟩ := hcut
    cases kq with
    | zero => exact absurd HA.out (by simp [impl_joining_next.j0])
    | succ kj4 =>
     have H := HA.out; clear HA; simp only [impl_joining_next.j0] at H; by_cases c8 : x11_4 = true
     ·
      subst c8; have H1 : (some 4) = some r := by rw [if_pos rfl] at H; exact H
      clear H; have H := H1; clear H1; obtain rfl := Option.some.inj H; go_wp2; go_ret; exact ⟨zB, zD⟩
     ·
      replace c8 := Bool.eq_false_iff.mpr c8; subst c8; have H1 : ((impl_isRegional.f a1).bind fun t322 => (if t322 = true then (some 3) else (some 5))) = some r := by rw [if_neg (show ¬ (false = true) by decide)] at H; exact H
      clear H; have H := H1; clear H1; replace H := Option.bind_eq_some_iff.mp H; obtain ⟨t322, A90, H⟩ := H; replace H : (if t322 = true then (some 3) else (some 5)) = some r := H; have A9 := az A90; clear A90; by_cases c10 : t322 = true
      ·
       subst c10; have H1 : (some 3) = some r := by rw [if_pos rfl] at H; exact H
       clear H; have H := H1; clear H1; obtain rfl := Option.some.inj H; go_wp2_with (first | ((with_reducible refine gate_callee (f := 131) rfl ?_); refine goesL_ (some 20) rfl rfl Tryz.func131 (by kernel_rfl) rfl #[.int .i64 a1] rfl zC ?_; (with_reducible refine (impl_isRegional.calls a1 true _ A9.out).mono ?_); rintro e w' ⟨rfl, ⟨nd, rfl⟩⟩; refine ⟨_, rfl, ?_⟩)); go_ret; exact ⟨zB, zD⟩
      ·
       replace c10 := Bool.eq_false_iff.mpr c10; subst c10; have H1 : (some 5) = some r := by rw [if_neg (show ¬ (false = true) by decide)] at H; exact H
       clear H; have H := H1; clear H1; obtain rfl := Option.some.inj H; go_wp2_with (first | ((with_reducible refine gate_callee (f := 131) rfl ?_); refine goesL_ (some 20) rfl rfl Tryz.func131 (by kernel_rfl) rfl #[.int .i64 a1] rfl zC ?_; (with_reducible refine (impl_isRegional.calls a1 false _ A9.out).mono ?_); rintro e w' ⟨rfl, ⟨nd, rfl⟩⟩; refine ⟨_, rfl, ?_⟩)); go_ret; exact ⟨zB, zD⟩
def impl_joined.l0 : Nat → List Bool → Int → List Int → Int → Int → Option (List Bool)
 | 0, _, _, _, _, _ => none
 | k + 1, x3, x4, x7, x8, x9 => if x9 < x8 then (if 0 ≤ x9 then (if x9 < (x7.length : Int) then ((impl_joining_joins.f k x4 (rd x7 x9)).bind fun t324 => (if x3.length < 140737488355328 then ((impl_joining_next.f k x4 (rd x7 x9)).bind fun t328 => (impl_joined.l0 k (x3 ++ [t324]) t328 x7 x8 (wrap64 (x9 + 1)))) else (none))) else (none)) else (none)) else (some x3)
def impl_joined.f (k : Nat) (l0 : List Int) : Option (List Bool) := impl_joined.l0 k ([] : List Bool) 0 l0 (l0.length : Int) 0
theorem impl_joined.mono_l : ∀ k, (∀ y0 y1 y2 y3 y4, LeO (impl_joined.l0 k y0 y1 y2 y3 y4) (impl_joined.l0 (k + 1) y0 y1 y2 y3 y4))
 | 0 => fun _ _ _ _ _ r h => by simp [impl_joined.l0] at h
 | k + 1 => by
  have ih0 := impl_joined.mono_l k
  ·
   intro y0 y1 y2 y3 y4; unfold impl_joined.l0
   repeat' first
   | (with_reducible exact ih0 _ _ _ _ _)
   | (with_reducible exact impl_joining_joins.mono _ _ _)
   | (with_reducible exact impl_joining_next.mono _ _ _)
   | (with_reducible exact LeO.refl _)
   | (with_reducible exact LeO.none _)
   | (with_reducible refine LeO.ite ?_ ?_)
   | (with_reducible refine LeO.bind ?_ (fun _ => ?_))
   | exact ih0 _ _ _ _ _
   | exact impl_joining_joins.mono _ _ _
   | exact impl_joining_next.mono _ _ _
   | exact LeO.none _
   | refine LeO.ite ?_ ?_
   | refine LeO.bind ?_ (fun _ => ?_)
theorem impl_joined.mono : ∀ a0 k, LeO (impl_joined.f k a0) (impl_joined.f (k + 1) a0) := by
 intro a0 k; have ih0 := impl_joined.mono_l k; unfold impl_joined.f
 repeat' first
   | (with_reducible exact ih0 _ _ _ _ _)
   | (with_reducible exact impl_joining_joins.mono _ _ _)
   | (with_reducible exact impl_joining_next.mono _ _ _)
   | (with_reducible exact LeO.refl _)
   | (with_reducible exact LeO.none _)
   | (with_reducible refine LeO.ite ?_ ?_)
   | (with_reducible refine LeO.bind ?_ (fun _ => ?_))
   | exact ih0 _ _ _ _ _
   | exact impl_joining_joins.mono _ _ _
   | exact impl_joining_next.mono _ _ _
   | exact LeO.none _
   | refine LeO.ite ?_ ?_
   | refine LeO.bind ?_ (fun _ => ?_)
theorem impl_joined.calls (k : Nat) (A0 : Option Addr) (c0 : Nat) (l0 : List Int) (r : List Bool) (w : World) (hr0 : Kd.C (Kd.int .i64) w A0 l0.length l0) (hc0 : l0.length ≤ c0) (h : impl_joined.f k l0 = some r) :
  Calls Tryz.prog 79 #[.slice A0 l0.length c0] w fun e w' => ∃ v0_ : Value, e = .returned (v0_) ∧ Kd.R Kd.bool 4 w' w.heap.size (fun _ => True) v0_ r ∧ Below w.heap.size w w' := by
 have HR0 := az hr0; have HC0 := az hc0; clear hr0 hc0; have HB := az (Below.refl w.heap.size w); have H : (impl_joined.l0 k ([] : List Bool) 0 l0 (l0.length : Int) 0) = some r := h; clear h; have H' := az H; clear H; go_enter Tryz.func79, Tryz.ntmps79; go_wp2; go_loopg [3, 4, 9] k (fun kq v3 v4 v9 w' => ∃ (x3_1 : List Bool) (x4_1 : Int) (x9_1 : Int), v4 = .int .i64 x4_1 ∧ v9 = .int .i64 x9_1 ∧ Aside0 (impl_joined.l0 kq x3_1 x4_1 l0 (l0.length : Int) x9_1 = some r) ∧ Aside0 (kq ≤ k) ∧ Aside0 (Kd.R Kd.bool 4 w' w.heap.size (fun _ => True) v3 x3_1) ∧ Aside0 (Below w.heap.size w w'))
 case atStart => exact ⟨(([] : List Bool)), (0), (0), zB, zB, H', ⟨Nat.le_refl _⟩, ⟨zW⟩, ⟨zA HB.out⟩⟩
 case round =>
  clear H'; obtain ⟨x3_1, x4_1, x9_1, rfl, rfl, HA, HK1, HO_3, HB⟩ := hrel
  cases gk with
  | zero => exact absurd HA.out (by simp [impl_joined.l0])
  | succ k1 =>
   have H := HA.out; clear HA; simp only [impl_joined.l0] at H; by_cases c2 : x9_1 < (l0.length : Int)
   ·
    rw [if_pos c2] at H; have c2b0 : decide (x9_1 < (l0.length : Int)) = true := decide_eq_true c2; clear c2; by_cases c3 : 0 ≤ x9_1
    ·
     rw [if_pos c3] at H; have c3b0 : decide (0 ≤ x9_1) = true := decide_eq_true c3; clear c3; by_cases c4 : x9_1 < (l0.length : Int)
     ·
      rw [if_pos c4] at H; have c4b0 : decide (x9_1 < (l0.length : Int)) = true := decide_eq_true c4; clear c4; replace H := Option.bind_eq_some_iff.mp H; obtain ⟨t324, A50, H⟩ := H; replace H : (if x3_1.length < 140737488355328 then ((impl_joining_next.f k1 x4_1 (rd l0 x9_1)).bind fun t328 => (impl_joined.l0 k1 (x3_1 ++ [t324]) t328 l0 (l0.length : Int) (wrap64 (x9_1 + 1)))) else (none)) = some r := H; have A5 := az A50; clear A50; by_cases c6 : x3_1.length < 140737488355328
      ·
       rw [if_pos c6] at H; have LMc6 := az c6; clear c6; obtain ⟨y325, hy325⟩ : ∃ y_ : List Bool, y_ = (x3_1 ++ [t324]) := ⟨_, rfl⟩; replace H : ((impl_joining_next.f k1 x4_1 (rd l0 x9_1)).bind fun t328 => (impl_joined.l0 k1 y325 t328 l0 (l0.length : Int) (wrap64 (x9_1 + 1)))) = some r := by first | (rw [hy325]; with_reducible exact H) | (have H2_ := (Option.bind_some _ _).symm.trans H; rw [hy325]; with_reducible exact H2_) | (have H2_ := (Option.bind_some _ _).symm.trans H; with_reducible exact H2_) | with_reducible exact H | (rw [hy325]; exact H) | exact H
       have Ny325 := az hy325; clear hy325; replace H := Option.bind_eq_some_iff.mp H; obtain ⟨t328, A70, H⟩ := H; replace H : (impl_joined.l0 k1 y325 t328 l0 (l0.length : Int) (wrap64 (x9_1 + 1))) = some r := H; have A7 := az A70; clear A70; have H' := az H; clear H; have p323 : 0 ≤ (x9_1 : Int) := of_decide_eq_true (by assumption); have q323 : x9_1 < (l0.length : Int) := of_decide_eq_true (by assumption); obtain ⟨ad323, e323, hx323_0⟩ := Kd.at_int HR0.out x9_1 p323 q323
       cases e323
       replace hx323_0 := (HB.out.cell (World.block_lt_of_cell? w _ hx323_0)).trans hx323_0; replace p323 := eq_true p323; replace q323 := eq_true q323; go_wp2_with (first | ((with_reducible refine gate_callee (f := 99) rfl ?_); refine goesL_ (some 16) rfl rfl Tryz.func99 (by kernel_rfl) rfl #[.int .i64 x4_1, .int .i64 (rd l0 x9_1)] rfl zC ?_; (with_reducible refine (impl_joining_joins.calls k1 x4_1 (rd l0 x9_1) t324 _ A5.out).mono ?_); rintro e w8 ⟨rfl, hb⟩; refine ⟨_, rfl, ?_⟩; have n0_ := az (Kd.R_below (zF HO_3.out) hb); have n1_ := az (below_step (zA HB.out) hb); clear HO_3; clear HB; have HO_3 := n0_; have HB := n1_; clear n0_ n1_; (try clear hb); (try clear hb2); (try clear hk); (try clear hi)) | ((with_reducible refine gate_builtin (b := .append) (xs := #[.tmp 13, .tmp 17]) rfl ?_); at_builtin; refine Kd.R_append Kd.bool (w0 := w) w.heap.size rfl (.tmp 13) (.tmp 17) 89 4 (.bool false) 1 rfl Tryz.underlying89 info4 rfl (by decide) (by omega) u3 x3_1 t324 [.bool t324] (fun _ => True) (fun _ => False) rfl rfl ?aP (fun _ hk => hk.elim) ?aF ?aO ?aB ?aS ?aL ?_; (case aP => exact rfl); (case aB => exact (zA HB.out)); (case aF => exact (fun _ _ => trivial)); (case aO => exact (zF HO_3.out)); (case aS => exact (below_size (zA HB.out))); (case aL => have := LMc6.out; omega); intro v326 w9 ho hb hg hat; rw [← Ny325.out] at ho; have n0_ := az (hb); have n1_ := az (ho); clear HB; clear HO_3; have HB := n0_; have HO327 := n1_; clear n0_ n1_; clear ho hb hg hat) | ((with_reducible refine gate_callee (f := 100) rfl ?_); refine goesL_ (some 21) rfl rfl Tryz.func100 (by kernel_rfl) rfl #[.int .i64 x4_1, .int .i64 (rd l0 x9_1)] rfl zC ?_; (with_reducible refine (impl_joining_next.calls k1 x4_1 (rd l0 x9_1) t328 _ A7.out).mono ?_); rintro e w' ⟨rfl, ⟨nd, rfl⟩⟩; refine ⟨_, rfl, ?_⟩)); go_roundg k1
       case measure => have := HK1.out; omega
       case rel => exact ⟨(y325), (t328), (wrap64 (x9_1 + 1)), zB, zB, H', ⟨zE HK1.out⟩, ⟨zF HO327.out⟩, ⟨zA HB.out⟩⟩
      ·
       rw [if_neg c6] at H; exact absurd H (by simp)
     ·
      rw [if_neg c4] at H; exact absurd H (by simp)
    ·
     rw [if_neg c3] at H; exact absurd H (by simp)
   ·
    rw [if_neg c2] at H; have c2b0 : decide (x9_1 < (l0.length : Int)) = false := decide_eq_false c2; clear c2; obtain rfl := Option.some.inj H; go_wp2; go_ret; exact ⟨_, zG, zF HO_3.out, zA HB.out⟩
end Go.Proofs.YtmcdcogedcbndaaGreat.S
