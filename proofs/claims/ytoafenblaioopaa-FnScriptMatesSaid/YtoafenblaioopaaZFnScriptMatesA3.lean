/- The scripts that ScriptsOf tells, the runs that ScriptRuns tells of them, and both brackets round letters that are no brackets in the script before them: for every text that the reference draws. No condition beyond the statement's own. (text 4 of 5 of this claim: functions of the program and of the reference as plain Lean functions, what a call of each comes to, and what follows.) -/
import Derived.Test.YtoafenblaioopaaZFnScriptMatesA0
import Derived.Test.YtoafenblaioopaaZFnScriptMatesA2
import Derived.Test.YtoafenblaioopaaZFnScriptMatesA1
namespace Go.Proofs.Ytoafenblaioopaa.S
open Go.RowKit Go.Proofs.YtoafenblaioopaaW.PrintWords Go.Proofs.YtoafenblaioopaaW.PrintLast
set_option linter.unusedVariables false
set_option linter.unusedSimpArgs false
theorem q27s {α : Type} (l : List α) (i : Nat) (a : α) : l.toArray.setIfInBounds i a = (l.set i a).toArray := List.setIfInBounds_toArray ..
theorem q27z {α : Type} (a : α) (l : List α) (b : α) : (a :: l).set 0 b = b :: l := List.set_cons_zero ..
theorem q27n {α : Type} (a : α) (l : List α) (i : Nat) (b : α) : (a :: l).set (i + 1) b = a :: l.set i b := List.set_cons_succ ..
mutual
def spec_RunsOf.l0 : Nat → List Int → List (S53) → Int → Option ((List (S53)))
 | 0, _, _, _ => none
 | k + 1, x0, x3, x4 => if x4 < (x0.length : Int) then (if (x3.length : Int) = 0 then (if 0 ≤ x4 then (if x3.length < 5864062014805 then (spec_RunsOf.l0 k x0 (x3 ++ [(⟨x4, wrap64 (x4 + 1), rd x0 x4⟩ : S53)]) (wrap64 (x4 + 1))) else (none)) else (none)) else (if 0 ≤ x4 then (if (rd x0 x4) < 0 then (spec_RunsOf.j1 k x0 x3 x4 (x3.length : Int) true) else (if 0 ≤ (wrap64 ((x3.length : Int) - 1)) then (if (wrap64 ((x3.length : Int) - 1)) < (x3.length : Int) then (spec_RunsOf.j1 k x0 x3 x4 (x3.length : Int) ((rd x0 x4) == ((rd_T53 x3 (wrap64 ((x3.length : Int) - 1))).f2))) else (none)) else (none))) else (none))) else (some x3)
def spec_RunsOf.j1 : Nat → List Int → List (S53) → Int → Int → Bool → Option ((List (S53)))
 | 0, _, _, _, _, _ => none
 | k + 1, x0, x3, x4, x5, x44 => if x44 = true then (if 0 ≤ (wrap64 (x5 - 1)) then (if (wrap64 (x5 - 1)) < (x3.length : Int) then (spec_RunsOf.l0 k x0 (x3.set ((wrap64 (x5 - 1)) : Int).toNat (⟨(rd_T53 x3 (wrap64 (x5 - 1))).f0, wrap64 (x4 + 1), (rd_T53 x3 (wrap64 (x5 - 1))).f2⟩ : S53)) (wrap64 (x4 + 1))) else (none)) else (none)) else (if 0 ≤ (wrap64 (x5 - 1)) then (if (wrap64 (x5 - 1)) < (x3.length : Int) then (if ((rd_T53 x3 (wrap64 (x5 - 1))).f2) < 0 then ((some (x3.set ((wrap64 (x5 - 1)) : Int).toNat (⟨(rd_T53 x3 (wrap64 (x5 - 1))).f0, wrap64 (x4 + 1), (rd_T53 x3 (wrap64 (x5 - 1))).f2⟩ : S53) : List (S53))).bind fun y599 => (if 0 ≤ x4 then (if x4 < (x0.length : Int) then (spec_RunsOf.l0 k x0 (y599.set ((wrap64 (x5 - 1)) : Int).toNat (⟨(rd_T53 y599 (wrap64 (x5 - 1))).f0, (rd_T53 y599 (wrap64 (x5 - 1))).f1, rd x0 x4⟩ : S53)) (wrap64 (x4 + 1))) else (none)) else (none))) else (if 0 ≤ x4 then (if x4 < (x0.length : Int) then (if x3.length < 5864062014805 then (spec_RunsOf.l0 k x0 (x3 ++ [(⟨x4, wrap64 (x4 + 1), rd x0 x4⟩ : S53)]) (wrap64 (x4 + 1))) else (none)) else (none)) else (none))) else (none)) else (none))
end
def spec_RunsOf.f (k : Nat) (l0 : List Int) : Option ((List (S53))) := (some (([] : List (S53)) : List (S53))).bind fun y586 => ((spec_l4Ok.f k l0).bind fun t589 => (if t589 = true then (spec_RunsOf.l0 k l0 y586 0) else (some y586)))
theorem spec_RunsOf.mono_l : ∀ k, (∀ y0 y1 y2, LeO (spec_RunsOf.l0 k y0 y1 y2) (spec_RunsOf.l0 (k + 1) y0 y1 y2)) ∧ (∀ y0 y1 y2 y3 y4, LeO (spec_RunsOf.j1 k y0 y1 y2 y3 y4) (spec_RunsOf.j1 (k + 1) y0 y1 y2 y3 y4))
 | 0 => ⟨fun _ _ _ r h => by simp [spec_RunsOf.l0] at h, fun _ _ _ _ _ r h => by simp [spec_RunsOf.j1] at h⟩
 | k + 1 => by
  obtain ⟨ih0, ih1⟩ := spec_RunsOf.mono_l k; refine ⟨?_, ?_⟩
  ·
   intro y0 y1 y2; unfold spec_RunsOf.l0
   repeat' first
   | (with_reducible exact ih0 _ _ _)
   | (with_reducible exact ih1 _ _ _ _ _)
   | (with_reducible exact spec_l4Ok.mono _ _)
   | (with_reducible exact LeO.refl _)
   | (with_reducible exact LeO.none _)
   | (with_reducible refine LeO.ite ?_ ?_)
   | (with_reducible refine LeO.bind ?_ (fun _ => ?_))
   | exact ih0 _ _ _
   | exact ih1 _ _ _ _ _
   | exact spec_l4Ok.mono _ _
   | exact LeO.none _
   | refine LeO.ite ?_ ?_
   | refine LeO.bind ?_ (fun _ => ?_)
  ·
   intro y0 y1 y2 y3 y4; unfold spec_RunsOf.j1
   repeat' first
   | (with_reducible exact ih0 _ _ _)
   | (with_reducible exact ih1 _ _ _ _ _)
   | (with_reducible exact spec_l4Ok.mono _ _)
   | (with_reducible exact LeO.refl _)
   | (with_reducible exact LeO.none _)
   | (with_reducible refine LeO.ite ?_ ?_)
   | (with_reducible refine LeO.bind ?_ (fun _ => ?_))
   | exact ih0 _ _ _
   | exact ih1 _ _ _ _ _
   | exact spec_l4Ok.mono _ _
   | exact LeO.none _
   | refine LeO.ite ?_ ?_
   | refine LeO.bind ?_ (fun _ => ?_)
theorem spec_RunsOf.mono : ∀ a0 k, LeO (spec_RunsOf.f k a0) (spec_RunsOf.f (k + 1) a0) := by
 intro a0 k; obtain ⟨ih0, ih1⟩ := spec_RunsOf.mono_l k; unfold spec_RunsOf.f
 repeat' first
   | (with_reducible exact ih0 _ _ _)
   | (with_reducible exact ih1 _ _ _ _ _)
   | (with_reducible exact spec_l4Ok.mono _ _)
   | (with_reducible exact LeO.refl _)
   | (with_reducible exact LeO.none _)
   | (with_reducible refine LeO.ite ?_ ?_)
   | (with_reducible refine LeO.bind ?_ (fun _ => ?_))
   | exact ih0 _ _ _
   | exact ih1 _ _ _ _ _
   | exact spec_l4Ok.mono _ _
   | exact LeO.none _
   | refine LeO.ite ?_ ?_
   | refine LeO.bind ?_ (fun _ => ?_)
set_option maxHeartbeats 8000000 in
set_option maxRecDepth 100000 in
theorem spec_RunsOf.calls (k : Nat) (A0 : Option Addr) (c0 : Nat) (l0 : List Int) (r : List (S53)) (w : World) (hr0 : Kd.C (Kd.int .i64) w A0 l0.length l0) (hc0 : l0.length ≤ c0) (h : spec_RunsOf.f k l0 = some r) :
  Calls Try.prog 72 #[.slice A0 l0.length c0] w fun e w' => ∃ v0_ : Value, e = .returned (v0_) ∧ Kd.R k53 53 w' w.heap.size (fun _ => True) v0_ r ∧ Below w.heap.size w w' := by
 have hu53 := Try.underlying53; have HR0 := Aside0.mk hr0; have HC0 := Aside0.mk hc0; clear hr0 hc0; have HB := Aside0.mk (Below.refl w.heap.size w); have H : ((some (([] : List (S53)) : List (S53))).bind fun y586 => ((spec_l4Ok.f k l0).bind fun t589 => (if t589 = true then (spec_RunsOf.l0 k l0 y586 0) else (some y586)))) = some r := h; clear h; obtain ⟨y586, hy586⟩ : ∃ y_ : List (S53), y_ = (([] : List (S53))) := ⟨_, rfl⟩; replace H : ((spec_l4Ok.f k l0).bind fun t589 => (if t589 = true then (spec_RunsOf.l0 k l0 y586 0) else (some y586))) = some r := by first | (rw [hy586]; with_reducible exact H) | (have H2_ := (Option.bind_some _ _).symm.trans H; rw [hy586]; with_reducible exact H2_) | (have H2_ := (Option.bind_some _ _).symm.trans H; with_reducible exact H2_) | with_reducible exact H | (rw [hy586]; exact H) | exact H
 have Ny586 := Aside0.mk hy586; clear hy586; replace H := Option.bind_eq_some_iff.mp H; obtain ⟨t589, A20, H⟩ := H; replace H : (if t589 = true then (spec_RunsOf.l0 k l0 y586 0) else (some y586)) = some r := H; have A2 := Aside0.mk A20; clear A20; by_cases c3 : t589 = true
 ·
  subst c3; have H1 : (spec_RunsOf.l0 k l0 y586 0) = some r := by rw [if_pos rfl] at H; exact H
  clear H; have H := H1; clear H1; have H' := Aside0.mk H; clear H; go_enter Try.func72, Try.ntmps72; go_wp2_with (first | ((with_reducible refine gate_dst (N := 6) rfl ?_); refine Kd.R_lit k53 _ 53 ?hg (N := 6) ?hd (xs := ([] : List (S53))) (inner := []) (ok := fun _ => True) (okp := fun _ => True) ?hr ?hp (fun _ hk => hk) trivial (Below.refl _ _) (Nat.le_refl _) (by simp) ?_; (case hd => rfl); (case hg => rfl); (case hr => first | (go_simp; done) | (go_simp; rfl)); (case hp => exact (Reps.none _ _)); intro v587 w4 ho5 hb hg_ hnew_; clear hg_ hnew_; (first | rw [← Ny586.out] at ho5 | (simp only [Int.reduceToNat] at ho5; rw [← Ny586.out] at ho5)); have n0_ := Aside0.mk (Kd.R_lower ho5 (below_size (by repeat (first | (with_reducible first | exact HB.out | apply below_alloc | apply pw_below_drewN | apply below_drew1) | exact HB.out)))); have n1_ := Aside0.mk (below_step (by repeat (first | (with_reducible first | exact HB.out | apply below_alloc | apply pw_below_drewN | apply below_drew1) | exact HB.out)) hb); clear HB; have HO588 := n0_; have HB := n1_; clear n0_ n1_; clear hb ho5) | (go_at_call 100; (with_reducible refine (spec_l4Ok.calls k _ _ l0 true _ ?side1 ?side2 A2.out).mono ?_); (case side1 => repeat (first | exact (Kd.C_below HR0.out HB.out) | (with_reducible refine Kd.C_alloc ?_ _) | (with_reducible refine Kd.C_drewN ?_ _) | (with_reducible refine Kd.C_drew ?_))); (case side2 => exact HC0.out); rintro e w' ⟨rfl, ⟨nd, rfl⟩⟩; (try first | exact ⟨rfl, _, World.drewN_drewN _ _ _⟩ | exact ⟨rfl, _, Eq.trans (World.drewN_drewN _ _ _) (congrArg (World.drewN _) (Nat.add_assoc _ _ _))⟩))); repeat (go_quiet (first | ((with_reducible refine gate_dst (N := 6) rfl ?_); refine Kd.R_lit k53 _ 53 ?hg (N := 6) ?hd (xs := ([] : List (S53))) (inner := []) (ok := fun _ => True) (okp := fun _ => True) ?hr ?hp (fun _ hk => hk) trivial (Below.refl _ _) (Nat.le_refl _) (by simp) ?_; (case hd => rfl); (case hg => rfl); (case hr => first | (go_simp; done) | (go_simp; rfl)); (case hp => exact (Reps.none _ _)); intro v587 w4 ho5 hb hg_ hnew_; clear hg_ hnew_; (first | rw [← Ny586.out] at ho5 | (simp only [Int.reduceToNat] at ho5; rw [← Ny586.out] at ho5)); have n0_ := Aside0.mk (Kd.R_lower ho5 (below_size (by repeat (first | (with_reducible first | exact HB.out | apply below_alloc | apply pw_below_drewN | apply below_drew1) | exact HB.out)))); have n1_ := Aside0.mk (below_step (by repeat (first | (with_reducible first | exact HB.out | apply below_alloc | apply pw_below_drewN | apply below_drew1) | exact HB.out)) hb); clear HB; have HO588 := n0_; have HB := n1_; clear n0_ n1_; clear hb ho5) | (go_at_call 100; (with_reducible refine (spec_l4Ok.calls k _ _ l0 true _ ?side1 ?side2 A2.out).mono ?_); (case side1 => repeat (first | exact (Kd.C_below HR0.out HB.out) | (with_reducible refine Kd.C_alloc ?_ _) | (with_reducible refine Kd.C_drewN ?_ _) | (with_reducible refine Kd.C_drew ?_))); (case side2 => exact HC0.out); rintro e w' ⟨rfl, ⟨nd, rfl⟩⟩; (try first | exact ⟨rfl, _, World.drewN_drewN _ _ _⟩ | exact ⟨rfl, _, Eq.trans (World.drewN_drewN _ _ _) (congrArg (World.drewN _) (Nat.add_assoc _ _ _))⟩))); try go_wp2_with (first | ((with_reducible refine gate_dst (N := 6) rfl ?_); refine Kd.R_lit k53 _ 53 ?hg (N := 6) ?hd (xs := ([] : List (S53))) (inner := []) (ok := fun _ => True) (okp := fun _ => True) ?hr ?hp (fun _ hk => hk) trivial (Below.refl _ _) (Nat.le_refl _) (by simp) ?_; (case hd => rfl); (case hg => rfl); (case hr => first | (go_simp; done) | (go_simp; rfl)); (case hp => exact (Reps.none _ _)); intro v587 w4 ho5 hb hg_ hnew_; clear hg_ hnew_; (first | rw [← Ny586.out] at ho5 | (simp only [Int.reduceToNat] at ho5; rw [← Ny586.out] at ho5)); have n0_ := Aside0.mk (Kd.R_lower ho5 (below_size (by repeat (first | (with_reducible first | exact HB.out | apply below_alloc | apply pw_below_drewN | apply below_drew1) | exact HB.out)))); have n1_ := Aside0.mk (below_step (by repeat (first | (with_reducible first | exact HB.out | apply below_alloc | apply pw_below_drewN | apply below_drew1) | exact HB.out)) hb); clear HB; have HO588 := n0_; have HB := n1_; clear n0_ n1_; clear hb ho5) | (go_at_call 100; (with_reducible refine (spec_l4Ok.calls k _ _ l0 true _ ?side1 ?side2 A2.out).mono ?_); (case side1 => repeat (first | exact (Kd.C_below HR0.out HB.out) | (with_reducible refine Kd.C_alloc ?_ _) | (with_reducible refine Kd.C_drewN ?_ _) | (with_reducible refine Kd.C_drew ?_))); (case side2 => exact HC0.out); rintro e w' ⟨rfl, ⟨nd, rfl⟩⟩; (try first | exact ⟨rfl, _, World.drewN_drewN _ _ _⟩ | exact ⟨rfl, _, Eq.trans (World.drewN_drewN _ _ _) (congrArg (World.drewN _) (Nat.add_assoc _ _ _))⟩))))
  go_loopg [3, 4] k (fun kq v3 v4 w' => ∃ (x3_1 : List (S53)) (x4_1 : Int), v4 = .int .i64 x4_1 ∧ Aside0 (spec_RunsOf.l0 kq l0 x3_1 x4_1 = some r) ∧ Aside0 (kq ≤ k) ∧ Aside0 (Kd.R k53 53 w' w.heap.size (fun _ => True) v3 x3_1) ∧ Aside0 (Below w.heap.size w w'))
  case atStart => exact ⟨(y586), (0), (by first | rfl | (simp; done) | (simp [*]; done)), H', ⟨Nat.le_refl _⟩, ⟨by (with_reducible repeat (first | apply Kd.R_alloc | apply Kd.R_drewN | apply Kd.R_drew)); exact HO588.out⟩, ⟨by repeat (first | (with_reducible first | exact HB.out | apply below_alloc | apply pw_below_drewN | apply below_drew1) | exact HB.out)⟩⟩
  case round =>
   clear H'; (try clear p2); (try clear c3); obtain ⟨x3_1, x4_1, rfl, HA, HK1, HO_3, HB⟩ := hrel
   cases gk with
   | zero => exact absurd HA.out (by simp [spec_RunsOf.l0])
   | succ k1 =>
    have H := HA.out; clear HA; simp only [spec_RunsOf.l0] at H; by_cases c6 : x4_1 < (l0.length : Int)
    ·
     rw [if_pos c6] at H; have c6b0 : decide (x4_1 < (l0.length : Int)) = true := decide_eq_true c6; clear c6; by_cases c7 : (x3_1.length : Int) = 0
     ·
      rw [if_pos c7] at H; have c7b0 : ((x3_1.length : Int) == 0) = true := beq_iff_eq.mpr c7; have c7b1 : ((x3_1.length : Int) != 0) = false := bne_eq_false_iff_eq.mpr c7; clear c7; by_cases c8 : 0 ≤ x4_1
      ·
       rw [if_pos c8] at H; have c8b0 : decide (0 ≤ x4_1) = true := decide_eq_true c8; clear c8; by_cases c9 : x3_1.length < 5864062014805
       ·
        rw [if_pos c9] at H; have LMc9 := Aside0.mk c9; clear c9; obtain ⟨y591, hy591⟩ : ∃ y_ : List (S53), y_ = (x3_1 ++ [(⟨x4_1, wrap64 (x4_1 + 1), rd l0 x4_1⟩ : S53)]) := ⟨_, rfl⟩; replace H : (spec_RunsOf.l0 k1 l0 y591 (wrap64 (x4_1 + 1))) = some r := by first | (rw [hy591]; with_reducible exact H) | (have H2_ := (Option.bind_some _ _).symm.trans H; rw [hy591]; with_reducible exact H2_) | (have H2_ := (Option.bind_some _ _).symm.trans H; with_reducible exact H2_) | with_reducible exact H | (rw [hy591]; exact H) | exact H
        have Ny591 := Aside0.mk hy591; clear hy591; have H' := Aside0.mk H; clear H; obtain ⟨Ao10, co10, eo10⟩ := Kd.R_slice HO_3.out; subst eo10; have p590 : 0 ≤ (x4_1 : Int) := of_decide_eq_true (by first | (with_reducible assumption) | assumption); have q590 : x4_1 < (l0.length : Int) := of_decide_eq_true (by first | (with_reducible assumption) | assumption); obtain ⟨ad590, e590, hx590_0⟩ := Kd.at_int HR0.out x4_1 p590 q590
        cases e590
        replace hx590_0 := (HB.out.cell (World.block_lt_of_cell? w _ hx590_0)).trans hx590_0; replace p590 := eq_true p590; replace q590 := eq_true q590; go_wp2_with (first | ((with_reducible refine gate_builtin (b := .append) (xs := #[.tmp 33, .tmp 42]) rfl ?_); at_builtin; refine Kd.R_append k53 (w0 := w) w.heap.size rfl (.tmp 33) (.tmp 42) 48 53 (.agg #[(.int .i64 0), (.int .i64 0), (.int .i64 0)]) 24 rfl Try.underlying48 info53 rfl (by decide) (by omega) (.slice Ao10 x3_1.length co10) x3_1 (⟨x4_1, wrap64 (x4_1 + 1), rd l0 x4_1⟩ : S53) [.int .i64 x4_1, .int .i64 (wrap64 (x4_1 + 1)), .int .i64 (rd l0 x4_1)] (fun _ => True) (fun _ => False) rfl rfl ?aP (fun _ hk => hk.elim) ?aF ?aO ?aB ?aS ?aL ?_; (case aP => exact k53_mkM _ _ _ (⟨x4_1, wrap64 (x4_1 + 1), rd l0 x4_1⟩ : S53)); (case aB => exact (by repeat (first | (with_reducible first | exact HB.out | apply below_alloc | apply pw_below_drewN | apply below_drew1) | exact HB.out))); (case aF => exact (fun _ _ => trivial)); (case aO => exact (by (with_reducible repeat (first | apply Kd.R_alloc | apply Kd.R_drewN | apply Kd.R_drew)); exact HO_3.out)); (case aS => exact (below_size (by repeat (first | (with_reducible first | exact HB.out | apply below_alloc | apply pw_below_drewN | apply below_drew1) | exact HB.out)))); (case aL => have := LMc9.out; omega); intro v592 w11 ho hb hg hat; rw [← Ny591.out] at ho; have n0_ := Aside0.mk (hb); have n1_ := Aside0.mk (ho); clear HB; clear HO_3; have HB := n0_; have HO593 := n1_; clear n0_ n1_; clear ho hb hg hat)); repeat (go_quiet (first | ((with_reducible refine gate_builtin (b := .append) (xs := #[.tmp 33, .tmp 42]) rfl ?_); at_builtin; refine Kd.R_append k53 (w0 := w) w.heap.size rfl (.tmp 33) (.tmp 42) 48 53 (.agg #[(.int .i64 0), (.int .i64 0), (.int .i64 0)]) 24 rfl Try.underlying48 info53 rfl (by decide) (by omega) (.slice Ao10 x3_1.length co10) x3_1 (⟨x4_1, wrap64 (x4_1 + 1), rd l0 x4_1⟩ : S53) [.int .i64 x4_1, .int .i64 (wrap64 (x4_1 + 1)), .int .i64 (rd l0 x4_1)] (fun _ => True) (fun _ => False) rfl rfl ?aP (fun _ hk => hk.elim) ?aF ?aO ?aB ?aS ?aL ?_; (case aP => exact k53_mkM _ _ _ (⟨x4_1, wrap64 (x4_1 + 1), rd l0 x4_1⟩ : S53)); (case aB => exact (by repeat (first | (with_reducible first | exact HB.out | apply below_alloc | apply pw_below_drewN | apply below_drew1) | exact HB.out))); (case aF => exact (fun _ _ => trivial)); (case aO => exact (by (with_reducible repeat (first | apply Kd.R_alloc | apply Kd.R_drewN | apply Kd.R_drew)); exact HO_3.out)); (case aS => exact (below_size (by repeat (first | (with_reducible first | exact HB.out | apply below_alloc | apply pw_below_drewN | apply below_drew1) | exact HB.out)))); (case aL => have := LMc9.out; omega); intro v592 w11 ho hb hg hat; rw [← Ny591.out] at ho; have n0_ := Aside0.mk (hb); have n1_ := Aside0.mk (ho); clear HB; clear HO_3; have HB := n0_; have HO593 := n1_; clear n0_ n1_; clear ho hb hg hat)); try go_wp2_with (first | ((with_reducible refine gate_builtin (b := .append) (xs := #[.tmp 33, .tmp 42]) rfl ?_); at_builtin; refine Kd.R_append k53 (w0 := w) w.heap.size rfl (.tmp 33) (.tmp 42) 48 53 (.agg #[(.int .i64 0), (.int .i64 0), (.int .i64 0)]) 24 rfl Try.underlying48 info53 rfl (by decide) (by omega) (.slice Ao10 x3_1.length co10) x3_1 (⟨x4_1, wrap64 (x4_1 + 1), rd l0 x4_1⟩ : S53) [.int .i64 x4_1, .int .i64 (wrap64 (x4_1 + 1)), .int .i64 (rd l0 x4_1)] (fun _ => True) (fun _ => False) rfl rfl ?aP (fun _ hk => hk.elim) ?aF ?aO ?aB ?aS ?aL ?_; (case aP => exact k53_mkM _ _ _ (⟨x4_1, wrap64 (x4_1 + 1), rd l0 x4_1⟩ : S53)); (case aB => exact (by repeat (first | (with_reducible first | exact HB.out | apply below_alloc | apply pw_below_drewN | apply below_drew1) | exact HB.out))); (case aF => exact (fun _ _ => trivial)); (case aO => exact (by (with_reducible repeat (first | apply Kd.R_alloc | apply Kd.R_drewN | apply Kd.R_drew)); exact HO_3.out)); (case aS => exact (below_size (by repeat (first | (with_reducible first | exact HB.out | apply below_alloc | apply pw_below_drewN | apply below_drew1) | exact HB.out)))); (case aL => have := LMc9.out; omega); intro v592 w11 ho hb hg hat; rw [← Ny591.out] at ho; have n0_ := Aside0.mk (hb); have n1_ := Aside0.mk (ho); clear HB; clear HO_3; have HB := n0_; have HO593 := n1_; clear n0_ n1_; clear ho hb hg hat)))
        go_roundg k1
        case measure => have := HK1.out; omega
        case rel => exact ⟨(y591), (wrap64 (x4_1 + 1)), (by first | rfl | (simp; done) | (simp [*]; done)), H', ⟨by have := HK1.out; omega⟩, ⟨by (with_reducible repeat (first | apply Kd.R_alloc | apply Kd.R_drewN | apply Kd.R_drew)); exact HO593.out⟩, ⟨by repeat (first | (with_reducible first | exact HB.out | apply below_alloc | apply pw_below_drewN | apply below_drew1) | exact HB.out)⟩⟩
       ·
        rw [if_neg c9] at H; exact absurd H (by simp)
      ·
       rw [if_neg c8] at H; exact absurd H (by simp)
     ·
      rw [if_neg c7] at H; have c7b0 : ((x3_1.length : Int) == 0) = false := beq_eq_false_iff_ne.mpr c7; have c7b1 : ((x3_1.length : Int) != 0) = true := bne_iff_ne.mpr c7; have c7b2 : ¬ (x3_1 = []) := fun h_ => c7 (by rw [h_]; rfl)
      have HC12 := Aside0.mk H; clear H; obtain ⟨Ao13, co13, eo13⟩ := Kd.R_slice HO_3.out; subst eo13; go_upto_region 11 with (fail)
      repeat (go_quiet (fail); go_upto_region 11 with (fail))
      go_cut [44] (fun v44 wc => ∃ (kq : Nat) (x44_11 : Bool), v44 = .bool x44_11 ∧ Aside0 (spec_RunsOf.j1 kq l0 x3_1 x4_1 (x3_1.length : Int) x44_11 = some r) ∧ Aside0 (kq ≤ k1) ∧ Aside0 (Kd.R k53 53 wc w.heap.size (fun _ => True) (.slice Ao13 x3_1.length co13) x3_1) ∧ Aside0 (Below w.heap.size w wc))
      case first =>
       have H := HC12.out; clear HC12; by_cases c14 : 0 ≤ x4_1
       ·
        rw [if_pos c14] at H; have c14b0 : decide (0 ≤ x4_1) = true := decide_eq_true c14; clear c14; (first | rw [c14b0] | (simp only [i64_w, i32_w]; rw [c14b0]) | skip); by_cases c15 : (rd l0 x4_1) < 0
        ·
         rw [if_pos c15] at H; have c15b0 : decide ((rd l0 x4_1) < 0) = true := decide_eq_true c15; clear c15; have H' := Aside0.mk H; clear H; have p594 : 0 ≤ (x4_1 : Int) := of_decide_eq_true (by first | (with_reducible assumption) | assumption); have q594 : x4_1 < (l0.length : Int) := of_decide_eq_true (by first | (with_reducible assumption) | assumption); obtain ⟨ad594, e594, hx594_0⟩ := Kd.at_int HR0.out x4_1 p594 q594
         cases e594
         replace hx594_0 := (HB.out.cell (World.block_lt_of_cell? w _ hx594_0)).trans hx594_0; replace p594 := eq_true p594; replace q594 := eq_true q594; go_wp2; repeat (go_quiet (fail); try go_wp2)
         go_meet
         case rel => exact ⟨_, (true), (by first | rfl | (simp; done) | (simp [*]; done)), H', ⟨by have := HK1.out; first | omega | exact Nat.le_refl _⟩, ⟨by (with_reducible repeat (first | apply Kd.R_alloc | apply Kd.R_drewN | apply Kd.R_drew)); exact HO_3.out⟩, ⟨by repeat (first | (with_reducible first | exact HB.out | apply below_alloc | apply pw_below_drewN | apply below_drew1) | exact HB.out)⟩⟩
        ·
         rw [if_neg c15] at H; have c15b0 : decide ((rd l0 x4_1) < 0) = false := decide_eq_false c15; clear c15; obtain ⟨ji16, hji16⟩ : ∃ j_ : Int, (wrap64 ((x3_1.length : Int) - 1)) = j_ := ⟨_, rfl⟩; replace H : (if 0 ≤ (ji16) then (if (ji16) < (x3_1.length : Int) then (spec_RunsOf.j1 k1 l0 x3_1 x4_1 (x3_1.length : Int) ((rd l0 x4_1) == ((rd_T53 x3_1 (ji16)).f2))) else (none)) else (none)) = some r := by first | (rw [hji16] at H; exact H) | (simp only [hji16] at H ⊢; exact H)
         have hji16w : (IntKind.i64.wrap ((x3_1.length : Int) - 1)) = ji16 := (i64_w _).trans hji16; by_cases c17 : 0 ≤ (ji16)
         ·
          rw [if_pos c17] at H; have c17b0 : decide (0 ≤ (ji16)) = true := decide_eq_true c17; clear c17; by_cases c18 : (ji16) < (x3_1.length : Int)
          ·
           rw [if_pos c18] at H; have c18b0 : decide ((ji16) < (x3_1.length : Int)) = true := decide_eq_true c18; clear c18; have H' := Aside0.mk H; clear H; have p594 : 0 ≤ (x4_1 : Int) := of_decide_eq_true (by first | (with_reducible assumption) | assumption); have q594 : x4_1 < (l0.length : Int) := of_decide_eq_true (by first | (with_reducible assumption) | assumption); obtain ⟨ad594, e594, hx594_0⟩ := Kd.at_int HR0.out x4_1 p594 q594
           cases e594
           replace hx594_0 := (HB.out.cell (World.block_lt_of_cell? w _ hx594_0)).trans hx594_0; replace p594 := eq_true p594; replace q594 := eq_true q594; have p595 : 0 ≤ (x4_1 : Int) := of_decide_eq_true (by first | (with_reducible assumption) | assumption); have q595 : x4_1 < (l0.length : Int) := of_decide_eq_true (by first | (with_reducible assumption) | assumption); obtain ⟨ad595, e595, hx595_0⟩ := Kd.at_int HR0.out x4_1 p595 q595; obtain rfl : ad594 = ad595 := (by injection e595); replace hx595_0 := (HB.out.cell (World.block_lt_of_cell? w _ hx595_0)).trans hx595_0; replace p595 := eq_true p595; replace q595 := eq_true q595; have p596 : 0 ≤ ((ji16) : Int) := of_decide_eq_true (by first | (with_reducible assumption) | assumption); have q596 : (ji16) < (x3_1.length : Int) := of_decide_eq_true (by first | (with_reducible assumption) | assumption); obtain ⟨ad596, e596, hx596_0, hx596_1, hx596_2⟩ := at_T53 (Kd.R_reads' HO_3.out).2.2 (ji16) p596 q596
           cases e596
           replace p596 := eq_true p596; replace q596 := eq_true q596; go_wp2; repeat (go_quiet (fail); try go_wp2)
           go_meet
           case rel => exact ⟨_, (((rd l0 x4_1) == ((rd_T53 x3_1 (ji16)).f2))), (by first | rfl | (simp; done) | (simp only [← hji16] <;> (first | rfl | simp)) | (simp [*]; done)), H', ⟨by have := HK1.out; first | omega | exact Nat.le_refl _⟩, ⟨by (with_reducible repeat (first | apply Kd.R_alloc | apply Kd.R_drewN | apply Kd.R_drew)); exact HO_3.out⟩, ⟨by repeat (first | (with_reducible first | exact HB.out | apply below_alloc | apply pw_below_drewN | apply below_drew1) | exact HB.out)⟩⟩
          ·
           rw [if_neg c18] at H; exact absurd H (by simp)
         ·
          rw [if_neg c17] at H; exact absurd H (by simp)
       ·
        rw [if_neg c14] at H; exact absurd H (by simp)
      case rest =>
       clear HC12; (try clear c1); (try clear p2); (try clear c3); (try clear p5); (try clear q5); (try clear hx5); (try clear c6); (try clear c6b0); (try clear p6); (try clear c7); (try clear c7b0); (try clear c7b1); (try clear c7b2); (try clear c8); (try clear c8b0); (try clear c9); (try clear c14); (try clear c14b0); (try clear c15); (try clear c15b0); (try clear c17); (try clear c17b0); (try clear c18); (try clear c18b0); (try clear hx590_0); (try clear hx594_0); (try clear hx595_0); (try clear hx596_0); (try clear hx596_1); (try clear hx596_2); (try clear p2); (try clear p590); (try clear p594); (try clear p595); (try clear p596); (try clear q590); (try clear q594); (try clear q595); (try clear q596); obtain ⟨kq, x44_11, rfl, HA, HJ11, HO_3, HB⟩ := hcut
       cases kq with
       | zero => exact absurd HA.out (by simp [spec_RunsOf.j1])
       | succ kj11 =>
        have H := HA.out; clear HA; simp only [spec_RunsOf.j1] at H; by_cases c19 : x44_11 = true
        ·
         subst c19; have H1 : (if 0 ≤ (wrap64 ((x3_1.length : Int) - 1)) then (if (wrap64 ((x3_1.length : Int) - 1)) < (x3_1.length : Int) then (spec_RunsOf.l0 kj11 l0 (x3_1.set ((wrap64 ((x3_1.length : Int) - 1)) : Int).toNat (⟨(rd_T53 x3_1 (wrap64 ((x3_1.length : Int) - 1))).f0, wrap64 (x4_1 + 1), (rd_T53 x3_1 (wrap64 ((x3_1.length : Int) - 1))).f2⟩ : S53)) (wrap64 (x4_1 + 1))) else (none)) else (none)) = some r := by rw [if_pos rfl] at H; exact H
         clear H; have H := H1; clear H1; obtain ⟨ji20, hji20⟩ : ∃ j_ : Int, (wrap64 ((x3_1.length : Int) - 1)) = j_ := ⟨_, rfl⟩; replace H : (if 0 ≤ (ji20) then (if (ji20) < (x3_1.length : Int) then (spec_RunsOf.l0 kj11 l0 (x3_1.set ((ji20) : Int).toNat (⟨(rd_T53 x3_1 (ji20)).f0, wrap64 (x4_1 + 1), (rd_T53 x3_1 (ji20)).f2⟩ : S53)) (wrap64 (x4_1 + 1))) else (none)) else (none)) = some r := by first | (rw [hji20] at H; exact H) | (simp only [hji20] at H ⊢; exact H)
         have hji20w : (IntKind.i64.wrap ((x3_1.length : Int) - 1)) = ji20 := (i64_w _).trans hji20; by_cases c21 : 0 ≤ (ji20)
         ·
          rw [if_pos c21] at H; have c21b0 : decide (0 ≤ (ji20)) = true := decide_eq_true c21; clear c21; by_cases c22 : (ji20) < (x3_1.length : Int)
          ·
           rw [if_pos c22] at H; have c22b0 : decide ((ji20) < (x3_1.length : Int)) = true := decide_eq_true c22; clear c22; obtain ⟨y597, hy597⟩ : ∃ y_ : List (S53), y_ = (x3_1.set ((ji20) : Int).toNat (⟨(rd_T53 x3_1 (ji20)).f0, wrap64 (x4_1 + 1), (rd_T53 x3_1 (ji20)).f2⟩ : S53)) := ⟨_, rfl⟩; replace H : (spec_RunsOf.l0 kj11 l0 y597 (wrap64 (x4_1 + 1))) = some r := by first | (rw [hy597]; with_reducible exact H) | (have H2_ := (Option.bind_some _ _).symm.trans H; rw [hy597]; with_reducible exact H2_) | (have H2_ := (Option.bind_some _ _).symm.trans H; with_reducible exact H2_) | with_reducible exact H | (rw [hy597]; exact H) | exact H
           have Ny597 := Aside0.mk hy597; clear hy597; have H' := Aside0.mk H; clear H; have p23 : 0 ≤ ((ji20) : Int) := of_decide_eq_true (by first | (with_reducible assumption) | assumption); have q23 : ((ji20) : Int) < ((x3_1.length : Int) : Int) := of_decide_eq_true (by first | (with_reducible assumption) | assumption); obtain ⟨go23, co23, eo23, gb23, gl23, cl23, HG23⟩ := Kd.R_form HO_3.out (by omega); (first | cases eo23 | (injection eo23 with ea_ en_ ec_; (first | subst ea_ | (injection ea_ with ea_; subst ea_)); subst ec_; clear en_)); have GB23 := Aside0.mk gb23; have GG23 := Aside0.mk HG23; clear gb23 gl23 HG23; obtain ⟨ce23, hcl23, hM23, hcc23, hfr23⟩ := Kd.R_elem HO_3.out z53 ((ji20) : Int) p23 q23; obtain rfl := k53_openM hM23; have hx23_0 : wc.cell? ⟨go23, ((ji20) : Int).toNat * 3, none⟩ = some (.int .i64 ((rd_T53 x3_1 (ji20)).f0)) := hcc23 0 _ rfl; have hx23_1 : wc.cell? ⟨go23, ((ji20) : Int).toNat * 3 + 1, none⟩ = some (.int .i64 ((rd_T53 x3_1 (ji20)).f1)) := hcc23 1 _ rfl; have hx23_2 : wc.cell? ⟨go23, ((ji20) : Int).toNat * 3 + 2, none⟩ = some (.int .i64 ((rd_T53 x3_1 (ji20)).f2)) := hcc23 2 _ rfl; have hf23_0 : wc.frozen? ⟨go23, ((ji20) : Int).toNat * 3, none⟩ = false := hfr23 0; have hf23_1 : wc.frozen? ⟨go23, ((ji20) : Int).toNat * 3 + 1, none⟩ = false := hfr23 1; have hf23_2 : wc.frozen? ⟨go23, ((ji20) : Int).toNat * 3 + 2, none⟩ = false := hfr23 2; clear hcl23 hcc23 hfr23 hM23; replace p23 := eq_true p23; replace q23 := eq_true q23; have HX24 := Aside0.mk (show Kd.R k53 53 wc w.heap.size (fun _ => True) (.slice (some ⟨go23, 0, none⟩) x3_1.length co13) x3_1 from (by (with_reducible repeat (first | apply Kd.R_alloc | apply Kd.R_drewN | apply Kd.R_drew)); exact HO_3.out)); obtain ⟨ce24, hcl24, hM24, hcc24, hfr24⟩ := Kd.R_elem HX24.out z53 ((ji20) : Int) (of_decide_eq_true (by first | (with_reducible assumption) | assumption)) (by have h_ : ((ji20) : Int) < ((x3_1.length : Int) : Int) := of_decide_eq_true (by first | (with_reducible assumption) | assumption); first | exact h_ | (have e_ := (Kd.R_reads' HO_3.out).1; omega) | simpa using h_); obtain rfl := k53_openM hM24; have HP24 := Kd.R_seg HX24.out ((ji20) : Int) (of_decide_eq_true (by first | (with_reducible assumption) | assumption)) (by have h_ : ((ji20) : Int) < ((x3_1.length : Int) : Int) := of_decide_eq_true (by first | (with_reducible assumption) | assumption); first | exact h_ | (have e_ := (Kd.R_reads' HO_3.out).1; omega) | simpa using h_) (seg := [.int .i64 (wrap64 (x4_1 + 1))]) (j := 1) hcl24 hcc24 (show 2 ≤ 3 from by decide) (x' := (⟨(rd_T53 x3_1 (ji20)).f0, wrap64 (x4_1 + 1), (rd_T53 x3_1 (ji20)).f2⟩ : S53)) (k53_mkM _ _ _ (⟨(rd_T53 x3_1 (ji20)).f0, wrap64 (x4_1 + 1), (rd_T53 x3_1 (ji20)).f2⟩ : S53) ) (fun _ hk => hk); have hx24_1 := hcc24 1 _ rfl; (try simp only [show (k53).sz = 3 from rfl, Nat.mul_one, Nat.add_zero] at hx24_1); have hf24_1 := hfr24 1; (try simp only [show (k53).sz = 3 from rfl, Nat.mul_one, Nat.add_zero] at hf24_1); clear hcl24 hcc24 hfr24 hM24; go_wp2_with (first | ((with_reducible refine gate_store (t := 3) (p := 69) rfl ?_); (try (rw [drewN_self wc]; generalize hq_ : World.drewN wc _ = wc; have n0_ := Aside0.mk (Kd.R_at hq_ HO_3.out); have n1_ := Aside0.mk (below_at hq_ HB.out); clear hq_ HO_3 HB; have HO_3 := n0_; have HB := n1_; clear n0_ n1_; (try (have HX24 := Aside0.mk (show Kd.R k53 53 wc w.heap.size (fun _ => True) (.slice (some ⟨go23, 0, none⟩) x3_1.length co13) x3_1 from (by (with_reducible repeat (first | apply Kd.R_alloc | apply Kd.R_drewN | apply Kd.R_drew)); exact HO_3.out)))); (try (obtain ⟨ce24, hcl24, hM24, hcc24, hfr24⟩ := Kd.R_elem HX24.out z53 ((ji20) : Int) (of_decide_eq_true (by first | (with_reducible assumption) | assumption)) (by have h_ : ((ji20) : Int) < ((x3_1.length : Int) : Int) := of_decide_eq_true (by first | (with_reducible assumption) | assumption); first | exact h_ | (have e_ := (Kd.R_reads' HO_3.out).1; omega) | simpa using h_))); (try (obtain rfl := k53_openM hM24)); (try (have HP24 := Kd.R_seg HX24.out ((ji20) : Int) (of_decide_eq_true (by first | (with_reducible assumption) | assumption)) (by have h_ : ((ji20) : Int) < ((x3_1.length : Int) : Int) := of_decide_eq_true (by first | (with_reducible assumption) | assumption); first | exact h_ | (have e_ := (Kd.R_reads' HO_3.out).1; omega) | simpa using h_) (seg := [.int .i64 (wrap64 (x4_1 + 1))]) (j := 1) hcl24 hcc24 (show 2 ≤ 3 from by decide) (x' := (⟨(rd_T53 x3_1 (ji20)).f0, wrap64 (x4_1 + 1), (rd_T53 x3_1 (ji20)).f2⟩ : S53)) (k53_mkM _ _ _ (⟨(rd_T53 x3_1 (ji20)).f0, wrap64 (x4_1 + 1), (rd_T53 x3_1 (ji20)).f2⟩ : S53) ) (fun _ hk => hk))); (try (have hx24_1 := hcc24 1 _ rfl)); (try (try simp only [show (k53).sz = 3 from rfl, Nat.mul_one, Nat.add_zero] at hx24_1)); (try (have hf24_1 := hfr24 1)); (try (try simp only [show (k53).sz = 3 from rfl, Nat.mul_one, Nat.add_zero] at hf24_1)); (try (clear hcl24 hcc24 hfr24 hM24)))); refine store_event (t := 3) (p := 69) (v := ?vo_w25) (w1 := (wc.setCell ⟨go23, ((ji20) : Int).toNat * 3 + 1, none⟩ (.int .i64 (wrap64 (x4_1 + 1))))) ?hg ?ho ?hn ?hr ?_; (case ho => rfl); (case hg => rfl); (case hn => rfl); (case hr => first | (go_simp; done) | (go_simp; rfl)); intro w25 hw; have hg : wc.grownBy w25 (some go23) := (by rw [hw]; exact HP24.2); have hp_ : Kd.R k53 53 w25 w.heap.size (fun _ => True) (.slice (some ⟨go23, 0, none⟩) x3_1.length co13) y597 := (by rw [hw, Ny597.out]; exact HP24.1); clear HP24; have n0_ := Aside0.mk (hp_); have n1_ := Aside0.mk ((by rw [hw]; exact below_set (HB.out) GB23.out : Below w.heap.size w w25)); clear HO_3; clear HB; have HO_3 := n0_; have HB := n1_; clear n0_ n1_; clear hg hw hp_))
           repeat (go_quiet (first | ((with_reducible refine gate_store (t := 3) (p := 69) rfl ?_); (try (rw [drewN_self wc]; generalize hq_ : World.drewN wc _ = wc; have n0_ := Aside0.mk (Kd.R_at hq_ HO_3.out); have n1_ := Aside0.mk (below_at hq_ HB.out); clear hq_ HO_3 HB; have HO_3 := n0_; have HB := n1_; clear n0_ n1_; (try (have HX24 := Aside0.mk (show Kd.R k53 53 wc w.heap.size (fun _ => True) (.slice (some ⟨go23, 0, none⟩) x3_1.length co13) x3_1 from (by (with_reducible repeat (first | apply Kd.R_alloc | apply Kd.R_drewN | apply Kd.R_drew)); exact HO_3.out)))); (try (obtain ⟨ce24, hcl24, hM24, hcc24, hfr24⟩ := Kd.R_elem HX24.out z53 ((ji20) : Int) (of_decide_eq_true (by first | (with_reducible assumption) | assumption)) (by have h_ : ((ji20) : Int) < ((x3_1.length : Int) : Int) := of_decide_eq_true (by first | (with_reducible assumption) | assumption); first | exact h_ | (have e_ := (Kd.R_reads' HO_3.out).1; omega) | simpa using h_))); (try (obtain rfl := k53_openM hM24)); (try (have HP24 := Kd.R_seg HX24.out ((ji20) : Int) (of_decide_eq_true (by first | (with_reducible assumption) | assumption)) (by have h_ : ((ji20) : Int) < ((x3_1.length : Int) : Int) := of_decide_eq_true (by first | (with_reducible assumption) | assumption); first | exact h_ | (have e_ := (Kd.R_reads' HO_3.out).1; omega) | simpa using h_) (seg := [.int .i64 (wrap64 (x4_1 + 1))]) (j := 1) hcl24 hcc24 (show 2 ≤ 3 from by decide) (x' := (⟨(rd_T53 x3_1 (ji20)).f0, wrap64 (x4_1 + 1), (rd_T53 x3_1 (ji20)).f2⟩ : S53)) (k53_mkM _ _ _ (⟨(rd_T53 x3_1 (ji20)).f0, wrap64 (x4_1 + 1), (rd_T53 x3_1 (ji20)).f2⟩ : S53) ) (fun _ hk => hk))); (try (have hx24_1 := hcc24 1 _ rfl)); (try (try simp only [show (k53).sz = 3 from rfl, Nat.mul_one, Nat.add_zero] at hx24_1)); (try (have hf24_1 := hfr24 1)); (try (try simp only [show (k53).sz = 3 from rfl, Nat.mul_one, Nat.add_zero] at hf24_1)); (try (clear hcl24 hcc24 hfr24 hM24)))); refine store_event (t := 3) (p := 69) (v := ?vo_w25) (w1 := (wc.setCell ⟨go23, ((ji20) : Int).toNat * 3 + 1, none⟩ (.int .i64 (wrap64 (x4_1 + 1))))) ?hg ?ho ?hn ?hr ?_; (case ho => rfl); (case hg => rfl); (case hn => rfl); (case hr => first | (go_simp; done) | (go_simp; rfl)); intro w25 hw; have hg : wc.grownBy w25 (some go23) := (by rw [hw]; exact HP24.2); have hp_ : Kd.R k53 53 w25 w.heap.size (fun _ => True) (.slice (some ⟨go23, 0, none⟩) x3_1.length co13) y597 := (by rw [hw, Ny597.out]; exact HP24.1); clear HP24; have n0_ := Aside0.mk (hp_); have n1_ := Aside0.mk ((by rw [hw]; exact below_set (HB.out) GB23.out : Below w.heap.size w w25)); clear HO_3; clear HB; have HO_3 := n0_; have HB := n1_; clear n0_ n1_; clear hg hw hp_)); try go_wp2_with (first | ((with_reducible refine gate_store (t := 3) (p := 69) rfl ?_); (try (rw [drewN_self wc]; generalize hq_ : World.drewN wc _ = wc; have n0_ := Aside0.mk (Kd.R_at hq_ HO_3.out); have n1_ := Aside0.mk (below_at hq_ HB.out); clear hq_ HO_3 HB; have HO_3 := n0_; have HB := n1_; clear n0_ n1_; (try (have HX24 := Aside0.mk (show Kd.R k53 53 wc w.heap.size (fun _ => True) (.slice (some ⟨go23, 0, none⟩) x3_1.length co13) x3_1 from (by (with_reducible repeat (first | apply Kd.R_alloc | apply Kd.R_drewN | apply Kd.R_drew)); exact HO_3.out)))); (try (obtain ⟨ce24, hcl24, hM24, hcc24, hfr24⟩ := Kd.R_elem HX24.out z53 ((ji20) : Int) (of_decide_eq_true (by first | (with_reducible assumption) | assumption)) (by have h_ : ((ji20) : Int) < ((x3_1.length : Int) : Int) := of_decide_eq_true (by first | (with_reducible assumption) | assumption); first | exact h_ | (have e_ := (Kd.R_reads' HO_3.out).1; omega) | simpa using h_))); (try (obtain rfl := k53_openM hM24)); (try (have HP24 := Kd.R_seg HX24.out ((ji20) : Int) (of_decide_eq_true (by first | (with_reducible assumption) | assumption)) (by have h_ : ((ji20) : Int) < ((x3_1.length : Int) : Int) := of_decide_eq_true (by first | (with_reducible assumption) | assumption); first | exact h_ | (have e_ := (Kd.R_reads' HO_3.out).1; omega) | simpa using h_) (seg := [.int .i64 (wrap64 (x4_1 + 1))]) (j := 1) hcl24 hcc24 (show 2 ≤ 3 from by decide) (x' := (⟨(rd_T53 x3_1 (ji20)).f0, wrap64 (x4_1 + 1), (rd_T53 x3_1 (ji20)).f2⟩ : S53)) (k53_mkM _ _ _ (⟨(rd_T53 x3_1 (ji20)).f0, wrap64 (x4_1 + 1), (rd_T53 x3_1 (ji20)).f2⟩ : S53) ) (fun _ hk => hk))); (try (have hx24_1 := hcc24 1 _ rfl)); (try (try simp only [show (k53).sz = 3 from rfl, Nat.mul_one, Nat.add_zero] at hx24_1)); (try (have hf24_1 := hfr24 1)); (try (try simp only [show (k53).sz = 3 from rfl, Nat.mul_one, Nat.add_zero] at hf24_1)); (try (clear hcl24 hcc24 hfr24 hM24)))); refine store_event (t := 3) (p := 69) (v := ?vo_w25) (w1 := (wc.setCell ⟨go23, ((ji20) : Int).toNat * 3 + 1, none⟩ (.int .i64 (wrap64 (x4_1 + 1))))) ?hg ?ho ?hn ?hr ?_; (case ho => rfl); (case hg => rfl); (case hn => rfl); (case hr => first | (go_simp; done) | (go_simp; rfl)); intro w25 hw; have hg : wc.grownBy w25 (some go23) := (by rw [hw]; exact HP24.2); have hp_ : Kd.R k53 53 w25 w.heap.size (fun _ => True) (.slice (some ⟨go23, 0, none⟩) x3_1.length co13) y597 := (by rw [hw, Ny597.out]; exact HP24.1); clear HP24; have n0_ := Aside0.mk (hp_); have n1_ := Aside0.mk ((by rw [hw]; exact below_set (HB.out) GB23.out : Below w.heap.size w w25)); clear HO_3; clear HB; have HO_3 := n0_; have HB := n1_; clear n0_ n1_; clear hg hw hp_)))
           go_roundg kj11
           case measure => have := HK1.out; have := HJ11.out; omega
           case rel => exact ⟨(y597), (wrap64 (x4_1 + 1)), (by first | rfl | (simp; done) | (simp [*]; done)), H', ⟨by have := HK1.out; have := HJ11.out; omega⟩, ⟨by (with_reducible repeat (first | apply Kd.R_alloc | apply Kd.R_drewN | apply Kd.R_drew)); exact HO_3.out⟩, ⟨by repeat (first | (with_reducible first | exact HB.out | apply below_alloc | apply pw_below_drewN | apply below_drew1) | exact HB.out)⟩⟩
          ·
           rw [if_neg c22] at H; exact absurd H (by simp)
         ·
          rw [if_neg c21] at H; exact absurd H (by simp)
        ·
         replace c19 := Bool.eq_false_iff.mpr c19; subst c19; have H1 : (if 0 ≤ (wrap64 ((x3_1.length : Int) - 1)) then (if (wrap64 ((x3_1.length : Int) - 1)) < (x3_1.length : Int) then (if ((rd_T53 x3_1 (wrap64 ((x3_1.length : Int) - 1))).f2) < 0 then ((some (x3_1.set ((wrap64 ((x3_1.length : Int) - 1)) : Int).toNat (⟨(rd_T53 x3_1 (wrap64 ((x3_1.length : Int) - 1))).f0, wrap64 (x4_1 + 1), (rd_T53 x3_1 (wrap64 ((x3_1.length : Int) - 1))).f2⟩ : S53) : List (S53))).bind fun y599 => (if 0 ≤ x4_1 then (if x4_1 < (l0.length : Int) then (spec_RunsOf.l0 kj11 l0 (y599.set ((wrap64 ((x3_1.length : Int) - 1)) : Int).toNat (⟨(rd_T53 y599 (wrap64 ((x3_1.length : Int) - 1))).f0, (rd_T53 y599 (wrap64 ((x3_1.length : Int) - 1))).f1, rd l0 x4_1⟩ : S53)) (wrap64 (x4_1 + 1))) else (none)) else (none))) else (if 0 ≤ x4_1 then (if x4_1 < (l0.length : Int) then (if x3_1.length < 5864062014805 then (spec_RunsOf.l0 kj11 l0 (x3_1 ++ [(⟨x4_1, wrap64 (x4_1 + 1), rd l0 x4_1⟩ : S53)]) (wrap64 (x4_1 + 1))) else (none)) else (none)) else (none))) else (none)) else (none)) = some r := by rw [if_neg (show ¬ (false = true) by decide)] at H; exact H
         clear H; have H := H1; clear H1; obtain ⟨ji26, hji26⟩ : ∃ j_ : Int, (wrap64 ((x3_1.length : Int) - 1)) = j_ := ⟨_, rfl⟩; replace H : (if 0 ≤ (ji26) then (if (ji26) < (x3_1.length : Int) then (if ((rd_T53 x3_1 (ji26)).f2) < 0 then ((some (x3_1.set ((ji26) : Int).toNat (⟨(rd_T53 x3_1 (ji26)).f0, wrap64 (x4_1 + 1), (rd_T53 x3_1 (ji26)).f2⟩ : S53) : List (S53))).bind fun y599 => (if 0 ≤ x4_1 then (if x4_1 < (l0.length : Int) then (spec_RunsOf.l0 kj11 l0 (y599.set ((ji26) : Int).toNat (⟨(rd_T53 y599 (ji26)).f0, (rd_T53 y599 (ji26)).f1, rd l0 x4_1⟩ : S53)) (wrap64 (x4_1 + 1))) else (none)) else (none))) else (if 0 ≤ x4_1 then (if x4_1 < (l0.length : Int) then (if x3_1.length < 5864062014805 then (spec_RunsOf.l0 kj11 l0 (x3_1 ++ [(⟨x4_1, wrap64 (x4_1 + 1), rd l0 x4_1⟩ : S53)]) (wrap64 (x4_1 + 1))) else (none)) else (none)) else (none))) else (none)) else (none)) = some r := by first | (rw [hji26] at H; exact H) | (simp only [hji26] at H ⊢; exact H)
         have hji26w : (IntKind.i64.wrap ((x3_1.length : Int) - 1)) = ji26 := (i64_w _).trans hji26; by_cases c27 : 0 ≤ (ji26)
         ·
          rw [if_pos c27] at H; have c27b0 : decide (0 ≤ (ji26)) = true := decide_eq_true c27; clear c27; by_cases c28 : (ji26) < (x3_1.length : Int)
          ·
           rw [if_pos c28] at H; have c28b0 : decide ((ji26) < (x3_1.length : Int)) = true := decide_eq_true c28; clear c28; by_cases c29 : ((rd_T53 x3_1 (ji26)).f2) < 0
           ·
            rw [if_pos c29] at H; have c29b0 : decide (((rd_T53 x3_1 (ji26)).f2) < 0) = true := decide_eq_true c29; clear c29; obtain ⟨y599, hy599⟩ : ∃ y_ : List (S53), y_ = (x3_1.set ((ji26) : Int).toNat (⟨(rd_T53 x3_1 (ji26)).f0, wrap64 (x4_1 + 1), (rd_T53 x3_1 (ji26)).f2⟩ : S53)) := ⟨_, rfl⟩; replace H : (if 0 ≤ x4_1 then (if x4_1 < (l0.length : Int) then (spec_RunsOf.l0 kj11 l0 (y599.set ((ji26) : Int).toNat (⟨(rd_T53 y599 (ji26)).f0, (rd_T53 y599 (ji26)).f1, rd l0 x4_1⟩ : S53)) (wrap64 (x4_1 + 1))) else (none)) else (none)) = some r := by first | (rw [hy599]; with_reducible exact H) | (have H2_ := (Option.bind_some _ _).symm.trans H; rw [hy599]; with_reducible exact H2_) | (have H2_ := (Option.bind_some _ _).symm.trans H; with_reducible exact H2_) | with_reducible exact H | (rw [hy599]; exact H) | exact H
            have Ny599 := Aside0.mk hy599; clear hy599; by_cases c31 : 0 ≤ x4_1
            ·
             rw [if_pos c31] at H; have c31b0 : decide (0 ≤ x4_1) = true := decide_eq_true c31; clear c31; by_cases c32 : x4_1 < (l0.length : Int)
             ·
              rw [if_pos c32] at H; have c32b0 : decide (x4_1 < (l0.length : Int)) = true := decide_eq_true c32; clear c32; obtain ⟨y601, hy601⟩ : ∃ y_ : List (S53), y_ = (y599.set ((ji26) : Int).toNat (⟨(rd_T53 y599 (ji26)).f0, (rd_T53 y599 (ji26)).f1, rd l0 x4_1⟩ : S53)) := ⟨_, rfl⟩; replace H : (spec_RunsOf.l0 kj11 l0 y601 (wrap64 (x4_1 + 1))) = some r := by first | (rw [hy601]; with_reducible exact H) | (have H2_ := (Option.bind_some _ _).symm.trans H; rw [hy601]; with_reducible exact H2_) | (have H2_ := (Option.bind_some _ _).symm.trans H; with_reducible exact H2_) | with_reducible exact H | (rw [hy601]; exact H) | exact H
              have Ny601 := Aside0.mk hy601; clear hy601; have H' := Aside0.mk H; clear H; have p598 : 0 ≤ ((ji26) : Int) := of_decide_eq_true (by first | (with_reducible assumption) | assumption); have q598 : (ji26) < (x3_1.length : Int) := of_decide_eq_true (by first | (with_reducible assumption) | assumption); obtain ⟨ad598, e598, hx598_0, hx598_1, hx598_2⟩ := at_T53 (Kd.R_reads' HO_3.out).2.2 (ji26) p598 q598
              cases e598
              replace p598 := eq_true p598; replace q598 := eq_true q598; have p30 : 0 ≤ ((ji26) : Int) := of_decide_eq_true (by first | (with_reducible assumption) | assumption); have q30 : ((ji26) : Int) < ((x3_1.length : Int) : Int) := of_decide_eq_true (by first | (with_reducible assumption) | assumption); obtain ⟨go30, co30, eo30, gb30, gl30, cl30, HG30⟩ := Kd.R_form HO_3.out (by omega); (first | cases eo30 | (injection eo30 with ea_ en_ ec_; (first | subst ea_ | (injection ea_ with ea_; subst ea_)); subst ec_; clear en_)); have GB30 := Aside0.mk gb30; have GG30 := Aside0.mk HG30; clear gb30 gl30 HG30; (first | simp only [add_plain] at hx598_0 | skip); (first | simp only [add_plain] at hx598_1 | skip); (first | simp only [add_plain] at hx598_2 | skip); obtain ⟨ce30, hcl30, hM30, hcc30, hfr30⟩ := Kd.R_elem HO_3.out z53 ((ji26) : Int) p30 q30; obtain rfl := k53_openM hM30; have hx30_0 : wc.cell? ⟨go30, ((ji26) : Int).toNat * 3, none⟩ = some (.int .i64 ((rd_T53 x3_1 (ji26)).f0)) := hcc30 0 _ rfl; have hx30_1 : wc.cell? ⟨go30, ((ji26) : Int).toNat * 3 + 1, none⟩ = some (.int .i64 ((rd_T53 x3_1 (ji26)).f1)) := hcc30 1 _ rfl; have hx30_2 : wc.cell? ⟨go30, ((ji26) : Int).toNat * 3 + 2, none⟩ = some (.int .i64 ((rd_T53 x3_1 (ji26)).f2)) := hcc30 2 _ rfl; have hf30_0 : wc.frozen? ⟨go30, ((ji26) : Int).toNat * 3, none⟩ = false := hfr30 0; have hf30_1 : wc.frozen? ⟨go30, ((ji26) : Int).toNat * 3 + 1, none⟩ = false := hfr30 1; have hf30_2 : wc.frozen? ⟨go30, ((ji26) : Int).toNat * 3 + 2, none⟩ = false := hfr30 2; clear hcl30 hcc30 hfr30 hM30; replace p30 := eq_true p30; replace q30 := eq_true q30; have HX34 := Aside0.mk (show Kd.R k53 53 wc w.heap.size (fun _ => True) (.slice (some ⟨go30, 0, none⟩) x3_1.length co13) x3_1 from (by (with_reducible repeat (first | apply Kd.R_alloc | apply Kd.R_drewN | apply Kd.R_drew)); exact HO_3.out)); obtain ⟨ce34, hcl34, hM34, hcc34, hfr34⟩ := Kd.R_elem HX34.out z53 ((ji26) : Int) (of_decide_eq_true (by first | (with_reducible assumption) | assumption)) (by have h_ : ((ji26) : Int) < ((x3_1.length : Int) : Int) := of_decide_eq_true (by first | (with_reducible assumption) | assumption); first | exact h_ | (have e_ := (Kd.R_reads' HO_3.out).1; omega) | simpa using h_); obtain rfl := k53_openM hM34; have HP34 := Kd.R_seg HX34.out ((ji26) : Int) (of_decide_eq_true (by first | (with_reducible assumption) | assumption)) (by have h_ : ((ji26) : Int) < ((x3_1.length : Int) : Int) := of_decide_eq_true (by first | (with_reducible assumption) | assumption); first | exact h_ | (have e_ := (Kd.R_reads' HO_3.out).1; omega) | simpa using h_) (seg := [.int .i64 (wrap64 (x4_1 + 1))]) (j := 1) hcl34 hcc34 (show 2 ≤ 3 from by decide) (x' := (⟨(rd_T53 x3_1 (ji26)).f0, wrap64 (x4_1 + 1), (rd_T53 x3_1 (ji26)).f2⟩ : S53)) (k53_mkM _ _ _ (⟨(rd_T53 x3_1 (ji26)).f0, wrap64 (x4_1 + 1), (rd_T53 x3_1 (ji26)).f2⟩ : S53) ) (fun _ hk => hk); have hx34_1 := hcc34 1 _ rfl; (try simp only [show (k53).sz = 3 from rfl, Nat.mul_one, Nat.add_zero] at hx34_1); have hf34_1 := hfr34 1; (try simp only [show (k53).sz = 3 from rfl, Nat.mul_one, Nat.add_zero] at hf34_1); clear hcl34 hcc34 hfr34 hM34; go_wp2_with (first | ((with_reducible refine gate_store (t := 3) (p := 84) rfl ?_); (try (rw [drewN_self wc]; generalize hq_ : World.drewN wc _ = wc; have n0_ := Aside0.mk (Kd.R_at hq_ HO_3.out); have n1_ := Aside0.mk (below_at hq_ HB.out); clear hq_ HO_3 HB; have HO_3 := n0_; have HB := n1_; clear n0_ n1_; (try (have HX34 := Aside0.mk (show Kd.R k53 53 wc w.heap.size (fun _ => True) (.slice (some ⟨go30, 0, none⟩) x3_1.length co13) x3_1 from (by (with_reducible repeat (first | apply Kd.R_alloc | apply Kd.R_drewN | apply Kd.R_drew)); exact HO_3.out)))); (try (obtain ⟨ce34, hcl34, hM34, hcc34, hfr34⟩ := Kd.R_elem HX34.out z53 ((ji26) : Int) (of_decide_eq_true (by first | (with_reducible assumption) | assumption)) (by have h_ : ((ji26) : Int) < ((x3_1.length : Int) : Int) := of_decide_eq_true (by first | (with_reducible assumption) | assumption); first | exact h_ | (have e_ := (Kd.R_reads' HO_3.out).1; omega) | simpa using h_))); (try (obtain rfl := k53_openM hM34)); (try (have HP34 := Kd.R_seg HX34.out ((ji26) : Int) (of_decide_eq_true (by first | (with_reducible assumption) | assumption)) (by have h_ : ((ji26) : Int) < ((x3_1.length : Int) : Int) := of_decide_eq_true (by first | (with_reducible assumption) | assumption); first | exact h_ | (have e_ := (Kd.R_reads' HO_3.out).1; omega) | simpa using h_) (seg := [.int .i64 (wrap64 (x4_1 + 1))]) (j := 1) hcl34 hcc34 (show 2 ≤ 3 from by decide) (x' := (⟨(rd_T53 x3_1 (ji26)).f0, wrap64 (x4_1 + 1), (rd_T53 x3_1 (ji26)).f2⟩ : S53)) (k53_mkM _ _ _ (⟨(rd_T53 x3_1 (ji26)).f0, wrap64 (x4_1 + 1), (rd_T53 x3_1 (ji26)).f2⟩ : S53) ) (fun _ hk => hk))); (try (have hx34_1 := hcc34 1 _ rfl)); (try (try simp only [show (k53).sz = 3 from rfl, Nat.mul_one, Nat.add_zero] at hx34_1)); (try (have hf34_1 := hfr34 1)); (try (try simp only [show (k53).sz = 3 from rfl, Nat.mul_one, Nat.add_zero] at hf34_1)); (try (clear hcl34 hcc34 hfr34 hM34)))); refine store_event (t := 3) (p := 84) (v := ?vo_w35) (w1 := (wc.setCell ⟨go30, ((ji26) : Int).toNat * 3 + 1, none⟩ (.int .i64 (wrap64 (x4_1 + 1))))) ?hg ?ho ?hn ?hr ?_; (case ho => rfl); (case hg => rfl); (case hn => rfl); (case hr => first | (go_simp; done) | (go_simp; rfl)); intro w35 hw; have hg : wc.grownBy w35 (some go30) := (by rw [hw]; exact HP34.2); have hp_ : Kd.R k53 53 w35 w.heap.size (fun _ => True) (.slice (some ⟨go30, 0, none⟩) x3_1.length co13) y599 := (by rw [hw, Ny599.out]; exact HP34.1); clear HP34; have n0_ := Aside0.mk (hp_); have n1_ := Aside0.mk ((by rw [hw]; exact below_set (HB.out) GB30.out : Below w.heap.size w w35)); clear HO_3; clear HB; have HO_3 := n0_; have HB := n1_; clear n0_ n1_; clear hg hw hp_; have p600 : 0 ≤ (x4_1 : Int) := of_decide_eq_true (by first | (with_reducible assumption) | assumption); have q600 : x4_1 < (l0.length : Int) := of_decide_eq_true (by first | (with_reducible assumption) | assumption); obtain ⟨ad600, e600, hx600_0⟩ := Kd.at_int HR0.out x4_1 p600 q600; cases e600; replace hx600_0 := (HB.out.cell (World.block_lt_of_cell? w _ hx600_0)).trans hx600_0; replace p600 := eq_true p600; replace q600 := eq_true q600; have p33 : 0 ≤ ((ji26) : Int) := of_decide_eq_true (by first | (with_reducible assumption) | assumption); have q33 : ((ji26) : Int) < ((x3_1.length : Int) : Int) := of_decide_eq_true (by first | (with_reducible assumption) | assumption); obtain ⟨ce33, hcl33, hM33, hcc33, hfr33⟩ := Kd.R_elem HO_3.out z53 ((ji26) : Int) p33 q33; obtain rfl := k53_openM hM33; have hx33_0 : w35.cell? ⟨go30, ((ji26) : Int).toNat * 3, none⟩ = some (.int .i64 ((rd_T53 y599 (ji26)).f0)) := hcc33 0 _ rfl; have hx33_1 : w35.cell? ⟨go30, ((ji26) : Int).toNat * 3 + 1, none⟩ = some (.int .i64 ((rd_T53 y599 (ji26)).f1)) := hcc33 1 _ rfl; have hx33_2 : w35.cell? ⟨go30, ((ji26) : Int).toNat * 3 + 2, none⟩ = some (.int .i64 ((rd_T53 y599 (ji26)).f2)) := hcc33 2 _ rfl; have hf33_0 : w35.frozen? ⟨go30, ((ji26) : Int).toNat * 3, none⟩ = false := hfr33 0; have hf33_1 : w35.frozen? ⟨go30, ((ji26) : Int).toNat * 3 + 1, none⟩ = false := hfr33 1; have hf33_2 : w35.frozen? ⟨go30, ((ji26) : Int).toNat * 3 + 2, none⟩ = false := hfr33 2; clear hcl33 hcc33 hfr33 hM33; replace p33 := eq_true p33; replace q33 := eq_true q33; have HX36 := Aside0.mk (show Kd.R k53 53 w35 w.heap.size (fun _ => True) (.slice (some ⟨go30, 0, none⟩) x3_1.length co13) y599 from (by (with_reducible repeat (first | apply Kd.R_alloc | apply Kd.R_drewN | apply Kd.R_drew)); exact HO_3.out)); obtain ⟨ce36, hcl36, hM36, hcc36, hfr36⟩ := Kd.R_elem HX36.out z53 ((ji26) : Int) (of_decide_eq_true (by first | (with_reducible assumption) | assumption)) (by have h_ : ((ji26) : Int) < ((x3_1.length : Int) : Int) := of_decide_eq_true (by first | (with_reducible assumption) | assumption); first | exact h_ | (have e_ := (Kd.R_reads' HO_3.out).1; omega) | simpa using h_); obtain rfl := k53_openM hM36; have HP36 := Kd.R_seg HX36.out ((ji26) : Int) (of_decide_eq_true (by first | (with_reducible assumption) | assumption)) (by have h_ : ((ji26) : Int) < ((x3_1.length : Int) : Int) := of_decide_eq_true (by first | (with_reducible assumption) | assumption); first | exact h_ | (have e_ := (Kd.R_reads' HO_3.out).1; omega) | simpa using h_) (seg := [.int .i64 (rd l0 x4_1)]) (j := 2) hcl36 hcc36 (show 3 ≤ 3 from by decide) (x' := (⟨(rd_T53 y599 (ji26)).f0, (rd_T53 y599 (ji26)).f1, rd l0 x4_1⟩ : S53)) (k53_mkM _ _ _ (⟨(rd_T53 y599 (ji26)).f0, (rd_T53 y599 (ji26)).f1, rd l0 x4_1⟩ : S53) ) (fun _ hk => hk); have hx36_2 := hcc36 2 _ rfl; (try simp only [show (k53).sz = 3 from rfl, Nat.mul_one, Nat.add_zero] at hx36_2); have hf36_2 := hfr36 2; (try simp only [show (k53).sz = 3 from rfl, Nat.mul_one, Nat.add_zero] at hf36_2); clear hcl36 hcc36 hfr36 hM36) | ((with_reducible refine gate_store (t := 3) (p := 93) rfl ?_); (try (rw [drewN_self w35]; generalize hq_ : World.drewN w35 _ = w35; have n0_ := Aside0.mk (Kd.R_at hq_ HO_3.out); have n1_ := Aside0.mk (below_at hq_ HB.out); clear hq_ HO_3 HB; have HO_3 := n0_; have HB := n1_; clear n0_ n1_; (try (have HX36 := Aside0.mk (show Kd.R k53 53 w35 w.heap.size (fun _ => True) (.slice (some ⟨go30, 0, none⟩) x3_1.length co13) y599 from (by (with_reducible repeat (first | apply Kd.R_alloc | apply Kd.R_drewN | apply Kd.R_drew)); exact HO_3.out)))); (try (obtain ⟨ce36, hcl36, hM36, hcc36, hfr36⟩ := Kd.R_elem HX36.out z53 ((ji26) : Int) (of_decide_eq_true (by first | (with_reducible assumption) | assumption)) (by have h_ : ((ji26) : Int) < ((x3_1.length : Int) : Int) := of_decide_eq_true (by first | (with_reducible assumption) | assumption); first | exact h_ | (have e_ := (Kd.R_reads' HO_3.out).1; omega) | simpa using h_))); (try (obtain rfl := k53_openM hM36)); (try (have HP36 := Kd.R_seg HX36.out ((ji26) : Int) (of_decide_eq_true (by first | (with_reducible assumption) | assumption)) (by have h_ : ((ji26) : Int) < ((x3_1.length : Int) : Int) := of_decide_eq_true (by first | (with_reducible assumption) | assumption); first | exact h_ | (have e_ := (Kd.R_reads' HO_3.out).1; omega) | simpa using h_) (seg := [.int .i64 (rd l0 x4_1)]) (j := 2) hcl36 hcc36 (show 3 ≤ 3 from by decide) (x' := (⟨(rd_T53 y599 (ji26)).f0, (rd_T53 y599 (ji26)).f1, rd l0 x4_1⟩ : S53)) (k53_mkM _ _ _ (⟨(rd_T53 y599 (ji26)).f0, (rd_T53 y599 (ji26)).f1, rd l0 x4_1⟩ : S53) ) (fun _ hk => hk))); (try (have hx36_2 := hcc36 2 _ rfl)); (try (try simp only [show (k53).sz = 3 from rfl, Nat.mul_one, Nat.add_zero] at hx36_2)); (try (have hf36_2 := hfr36 2)); (try (try simp only [show (k53).sz = 3 from rfl, Nat.mul_one, Nat.add_zero] at hf36_2)); (try (clear hcl36 hcc36 hfr36 hM36)))); refine store_event (t := 3) (p := 93) (v := ?vo_w37) (w1 := (w35.setCell ⟨go30, ((ji26) : Int).toNat * 3 + 2, none⟩ (.int .i64 (rd l0 x4_1)))) ?hg ?ho ?hn ?hr ?_; (case ho => rfl); (case hg => rfl); (case hn => rfl); (case hr => first | (go_simp; done) | (go_simp; rfl)); intro w37 hw; have hg : w35.grownBy w37 (some go30) := (by rw [hw]; exact HP36.2); have hp_ : Kd.R k53 53 w37 w.heap.size (fun _ => True) (.slice (some ⟨go30, 0, none⟩) x3_1.length co13) y601 := (by rw [hw, Ny601.out]; exact HP36.1); clear HP36; have n0_ := Aside0.mk (hp_); have n1_ := Aside0.mk ((by rw [hw]; exact below_set (HB.out) GB30.out : Below w.heap.size w w37)); clear HO_3; clear HB; have HO_3 := n0_; have HB := n1_; clear n0_ n1_; clear hg hw hp_))
              repeat (go_quiet (first | ((with_reducible refine gate_store (t := 3) (p := 84) rfl ?_); (try (rw [drewN_self wc]; generalize hq_ : World.drewN wc _ = wc; have n0_ := Aside0.mk (Kd.R_at hq_ HO_3.out); have n1_ := Aside0.mk (below_at hq_ HB.out); clear hq_ HO_3 HB; have HO_3 := n0_; have HB := n1_; clear n0_ n1_; (try (have HX34 := Aside0.mk (show Kd.R k53 53 wc w.heap.size (fun _ => True) (.slice (some ⟨go30, 0, none⟩) x3_1.length co13) x3_1 from (by (with_reducible repeat (first | apply Kd.R_alloc | apply Kd.R_drewN | apply Kd.R_drew)); exact HO_3.out)))); (try (obtain ⟨ce34, hcl34, hM34, hcc34, hfr34⟩ := Kd.R_elem HX34.out z53 ((ji26) : Int) (of_decide_eq_true (by first | (with_reducible assumption) | assumption)) (by have h_ : ((ji26) : Int) < ((x3_1.length : Int) : Int) := of_decide_eq_true (by first | (with_reducible assumption) | assumption); first | exact h_ | (have e_ := (Kd.R_reads' HO_3.out).1; omega) | simpa using h_))); (try (obtain rfl := k53_openM hM34)); (try (have HP34 := Kd.R_seg HX34.out ((ji26) : Int) (of_decide_eq_true (by first | (with_reducible assumption) | assumption)) (by have h_ : ((ji26) : Int) < ((x3_1.length : Int) : Int) := of_decide_eq_true (by first | (with_reducible assumption) | assumption); first | exact h_ | (have e_ := (Kd.R_reads' HO_3.out).1; omega) | simpa using h_) (seg := [.int .i64 (wrap64 (x4_1 + 1))]) (j := 1) hcl34 hcc34 (show 2 ≤ 3 from by decide) (x' := (⟨(rd_T53 x3_1 (ji26)).f0, wrap64 (x4_1 + 1), (rd_T53 x3_1 (ji26)).f2⟩ : S53)) (k53_mkM _ _ _ (⟨(rd_T53 x3_1 (ji26)).f0, wrap64 (x4_1 + 1), (rd_T53 x3_1 (ji26)).f2⟩ : S53) ) (fun _ hk => hk))); (try (have hx34_1 := hcc34 1 _ rfl)); (try (try simp only [show (k53).sz = 3 from rfl, Nat.mul_one, Nat.add_zero] at hx34_1)); (try (have hf34_1 := hfr34 1)); (try (try simp only [show (k53).sz = 3 from rfl, Nat.mul_one, Nat.add_zero] at hf34_1)); (try (clear hcl34 hcc34 hfr34 hM34)))); refine store_event (t := 3) (p := 84) (v := ?vo_w35) (w1 := (wc.setCell ⟨go30, ((ji26) : Int).toNat * 3 + 1, none⟩ (.int .i64 (wrap64 (x4_1 + 1))))) ?hg ?ho ?hn ?hr ?_; (case ho => rfl); (case hg => rfl); (case hn => rfl); (case hr => first | (go_simp; done) | (go_simp; rfl)); intro w35 hw; have hg : wc.grownBy w35 (some go30) := (by rw [hw]; exact HP34.2); have hp_ : Kd.R k53 53 w35 w.heap.size (fun _ => True) (.slice (some ⟨go30, 0, none⟩) x3_1.length co13) y599 := (by rw [hw, Ny599.out]; exact HP34.1); clear HP34; have n0_ := Aside0.mk (hp_); have n1_ := Aside0.mk ((by rw [hw]; exact below_set (HB.out) GB30.out : Below w.heap.size w w35)); clear HO_3; clear HB; have HO_3 := n0_; have HB := n1_; clear n0_ n1_; clear hg hw hp_; have p600 : 0 ≤ (x4_1 : Int) := of_decide_eq_true (by first | (with_reducible assumption) | assumption); have q600 : x4_1 < (l0.length : Int) := of_decide_eq_true (by first | (with_reducible assumption) | assumption); obtain ⟨ad600, e600, hx600_0⟩ := Kd.at_int HR0.out x4_1 p600 q600; cases e600; replace hx600_0 := (HB.out.cell (World.block_lt_of_cell? w _ hx600_0)).trans hx600_0; replace p600 := eq_true p600; replace q600 := eq_true q600; have p33 : 0 ≤ ((ji26) : Int) := of_decide_eq_true (by first | (with_reducible assumption) | assumption); have q33 : ((ji26) : Int) < ((x3_1.length : Int) : Int) := of_decide_eq_true (by first | (with_reducible assumption) | assumption); obtain ⟨ce33, hcl33, hM33, hcc33, hfr33⟩ := Kd.R_elem HO_3.out z53 ((ji26) : Int) p33 q33; obtain rfl := k53_openM hM33; have hx33_0 : w35.cell? ⟨go30, ((ji26) : Int).toNat * 3, none⟩ = some (.int .i64 ((rd_T53 y599 (ji26)).f0)) := hcc33 0 _ rfl; have hx33_1 : w35.cell? ⟨go30, ((ji26) : Int).toNat * 3 + 1, none⟩ = some (.int .i64 ((rd_T53 y599 (ji26)).f1)) := hcc33 1 _ rfl; have hx33_2 : w35.cell? ⟨go30, ((ji26) : Int).toNat * 3 + 2, none⟩ = some (.int .i64 ((rd_T53 y599 (ji26)).f2)) := hcc33 2 _ rfl; have hf33_0 : w35.frozen? ⟨go30, ((ji26) : Int).toNat * 3, none⟩ = false := hfr33 0; have hf33_1 : w35.frozen? ⟨go30, ((ji26) : Int).toNat * 3 + 1, none⟩ = false := hfr33 1; have hf33_2 : w35.frozen? ⟨go30, ((ji26) : Int).toNat * 3 + 2, none⟩ = false := hfr33 2; clear hcl33 hcc33 hfr33 hM33; replace p33 := eq_true p33; replace q33 := eq_true q33; have HX36 := Aside0.mk (show Kd.R k53 53 w35 w.heap.size (fun _ => True) (.slice (some ⟨go30, 0, none⟩) x3_1.length co13) y599 from (by (with_reducible repeat (first | apply Kd.R_alloc | apply Kd.R_drewN | apply Kd.R_drew)); exact HO_3.out)); obtain ⟨ce36, hcl36, hM36, hcc36, hfr36⟩ := Kd.R_elem HX36.out z53 ((ji26) : Int) (of_decide_eq_true (by first | (with_reducible assumption) | assumption)) (by have h_ : ((ji26) : Int) < ((x3_1.length : Int) : Int) := of_decide_eq_true (by first | (with_reducible assumption) | assumption); first | exact h_ | (have e_ := (Kd.R_reads' HO_3.out).1; omega) | simpa using h_); obtain rfl := k53_openM hM36; have HP36 := Kd.R_seg HX36.out ((ji26) : Int) (of_decide_eq_true (by first | (with_reducible assumption) | assumption)) (by have h_ : ((ji26) : Int) < ((x3_1.length : Int) : Int) := of_decide_eq_true (by first | (with_reducible assumption) | assumption); first | exact h_ | (have e_ := (Kd.R_reads' HO_3.out).1; omega) | simpa using h_) (seg := [.int .i64 (rd l0 x4_1)]) (j := 2) hcl36 hcc36 (show 3 ≤ 3 from by decide) (x' := (⟨(rd_T53 y599 (ji26)).f0, (rd_T53 y599 (ji26)).f1, rd l0 x4_1⟩ : S53)) (k53_mkM _ _ _ (⟨(rd_T53 y599 (ji26)).f0, (rd_T53 y599 (ji26)).f1, rd l0 x4_1⟩ : S53) ) (fun _ hk => hk); have hx36_2 := hcc36 2 _ rfl; (try simp only [show (k53).sz = 3 from rfl, Nat.mul_one, Nat.add_zero] at hx36_2); have hf36_2 := hfr36 2; (try simp only [show (k53).sz = 3 from rfl, Nat.mul_one, Nat.add_zero] at hf36_2); clear hcl36 hcc36 hfr36 hM36) | ((with_reducible refine gate_store (t := 3) (p := 93) rfl ?_); (try (rw [drewN_self w35]; generalize hq_ : World.drewN w35 _ = w35; have n0_ := Aside0.mk (Kd.R_at hq_ HO_3.out); have n1_ := Aside0.mk (below_at hq_ HB.out); clear hq_ HO_3 HB; have HO_3 := n0_; have HB := n1_; clear n0_ n1_; (try (have HX36 := Aside0.mk (show Kd.R k53 53 w35 w.heap.size (fun _ => True) (.slice (some ⟨go30, 0, none⟩) x3_1.length co13) y599 from (by (with_reducible repeat (first | apply Kd.R_alloc | apply Kd.R_drewN | apply Kd.R_drew)); exact HO_3.out)))); (try (obtain ⟨ce36, hcl36, hM36, hcc36, hfr36⟩ := Kd.R_elem HX36.out z53 ((ji26) : Int) (of_decide_eq_true (by first | (with_reducible assumption) | assumption)) (by have h_ : ((ji26) : Int) < ((x3_1.length : Int) : Int) := of_decide_eq_true (by first | (with_reducible assumption) | assumption); first | exact h_ | (have e_ := (Kd.R_reads' HO_3.out).1; omega) | simpa using h_))); (try (obtain rfl := k53_openM hM36)); (try (have HP36 := Kd.R_seg HX36.out ((ji26) : Int) (of_decide_eq_true (by first | (with_reducible assumption) | assumption)) (by have h_ : ((ji26) : Int) < ((x3_1.length : Int) : Int) := of_decide_eq_true (by first | (with_reducible assumption) | assumption); first | exact h_ | (have e_ := (Kd.R_reads' HO_3.out).1; omega) | simpa using h_) (seg := [.int .i64 (rd l0 x4_1)]) (j := 2) hcl36 hcc36 (show 3 ≤ 3 from by decide) (x' := (⟨(rd_T53 y599 (ji26)).f0, (rd_T53 y599 (ji26)).f1, rd l0 x4_1⟩ : S53)) (k53_mkM _ _ _ (⟨(rd_T53 y599 (ji26)).f0, (rd_T53 y599 (ji26)).f1, rd l0 x4_1⟩ : S53) ) (fun _ hk => hk))); (try (have hx36_2 := hcc36 2 _ rfl)); (try (try simp only [show (k53).sz = 3 from rfl, Nat.mul_one, Nat.add_zero] at hx36_2)); (try (have hf36_2 := hfr36 2)); (try (try simp only [show (k53).sz = 3 from rfl, Nat.mul_one, Nat.add_zero] at hf36_2)); (try (clear hcl36 hcc36 hfr36 hM36)))); refine store_event (t := 3) (p := 93) (v := ?vo_w37) (w1 := (w35.setCell ⟨go30, ((ji26) : Int).toNat * 3 + 2, none⟩ (.int .i64 (rd l0 x4_1)))) ?hg ?ho ?hn ?hr ?_; (case ho => rfl); (case hg => rfl); (case hn => rfl); (case hr => first | (go_simp; done) | (go_simp; rfl)); intro w37 hw; have hg : w35.grownBy w37 (some go30) := (by rw [hw]; exact HP36.2); have hp_ : Kd.R k53 53 w37 w.heap.size (fun _ => True) (.slice (some ⟨go30, 0, none⟩) x3_1.length co13) y601 := (by rw [hw, Ny601.out]; exact HP36.1); clear HP36; have n0_ := Aside0.mk (hp_); have n1_ := Aside0.mk ((by rw [hw]; exact below_set (HB.out) GB30.out : Below w.heap.size w w37)); clear HO_3; clear HB; have HO_3 := n0_; have HB := n1_; clear n0_ n1_; clear hg hw hp_)); try go_wp2_with (first | ((with_reducible refine gate_store (t := 3) (p := 84) rfl ?_); (try (rw [drewN_self wc]; generalize hq_ : World.drewN wc _ = wc; have n0_ := Aside0.mk (Kd.R_at hq_ HO_3.out); have n1_ := Aside0.mk (below_at hq_ HB.out); clear hq_ HO_3 HB; have HO_3 := n0_; have HB := n1_; clear n0_ n1_; (try (have HX34 := Aside0.mk (show Kd.R k53 53 wc w.heap.size (fun _ => True) (.slice (some ⟨go30, 0, none⟩) x3_1.length co13) x3_1 from (by (with_reducible repeat (first | apply Kd.R_alloc | apply Kd.R_drewN | apply Kd.R_drew)); exact HO_3.out)))); (try (obtain ⟨ce34, hcl34, hM34, hcc34, hfr34⟩ := Kd.R_elem HX34.out z53 ((ji26) : Int) (of_decide_eq_true (by first | (with_reducible assumption) | assumption)) (by have h_ : ((ji26) : Int) < ((x3_1.length : Int) : Int) := of_decide_eq_true (by first | (with_reducible assumption) | assumption); first | exact h_ | (have e_ := (Kd.R_reads' HO_3.out).1; omega) | simpa using h_))); (try (obtain rfl := k53_openM hM34)); (try (have HP34 := Kd.R_seg HX34.out ((ji26) : Int) (of_decide_eq_true (by first | (with_reducible assumption) | assumption)) (by have h_ : ((ji26) : Int) < ((x3_1.length : Int) : Int) := of_decide_eq_true (by first | (with_reducible assumption) | assumption); first | exact h_ | (have e_ := (Kd.R_reads' HO_3.out).1; omega) | simpa using h_) (seg := [.int .i64 (wrap64 (x4_1 + 1))]) (j := 1) hcl34 hcc34 (show 2 ≤ 3 from by decide) (x' := (⟨(rd_T53 x3_1 (ji26)).f0, wrap64 (x4_1 + 1), (rd_T53 x3_1 (ji26)).f2⟩ : S53)) (k53_mkM _ _ _ (⟨(rd_T53 x3_1 (ji26)).f0, wrap64 (x4_1 + 1), (rd_T53 x3_1 (ji26)).f2⟩ : S53) ) (fun _ hk => hk))); (try (have hx34_1 := hcc34 1 _ rfl)); (try (try simp only [show (k53).sz = 3 from rfl, Nat.mul_one, Nat.add_zero] at hx34_1)); (try (have hf34_1 := hfr34 1)); (try (try simp only [show (k53).sz = 3 from rfl, Nat.mul_one, Nat.add_zero] at hf34_1)); (try (clear hcl34 hcc34 hfr34 hM34)))); refine store_event (t := 3) (p := 84) (v := ?vo_w35) (w1 := (wc.setCell ⟨go30, ((ji26) : Int).toNat * 3 + 1, none⟩ (.int .i64 (wrap64 (x4_1 + 1))))) ?hg ?ho ?hn ?hr ?_; (case ho => rfl); (case hg => rfl); (case hn => rfl); (case hr => first | (go_simp; done) | (go_simp; rfl)); intro w35 hw; have hg : wc.grownBy w35 (some go30) := (by rw [hw]; exact HP34.2); have hp_ : Kd.R k53 53 w35 w.heap.size (fun _ => True) (.slice (some ⟨go30, 0, none⟩) x3_1.length co13) y599 := (by rw [hw, Ny599.out]; exact HP34.1); clear HP34; have n0_ := Aside0.mk (hp_); have n1_ := Aside0.mk ((by rw [hw]; exact below_set (HB.out) GB30.out : Below w.heap.size w w35)); clear HO_3; clear HB; have HO_3 := n0_; have HB := n1_; clear n0_ n1_; clear hg hw hp_; have p600 : 0 ≤ (x4_1 : Int) := of_decide_eq_true (by first | (with_reducible assumption) | assumption); have q600 : x4_1 < (l0.length : Int) := of_decide_eq_true (by first | (with_reducible assumption) | assumption); obtain ⟨ad600, e600, hx600_0⟩ := Kd.at_int HR0.out x4_1 p600 q600; cases e600; replace hx600_0 := (HB.out.cell (World.block_lt_of_cell? w _ hx600_0)).trans hx600_0; replace p600 := eq_true p600; replace q600 := eq_true q600; have p33 : 0 ≤ ((ji26) : Int) := of_decide_eq_true (by first | (with_reducible assumption) | assumption); have q33 : ((ji26) : Int) < ((x3_1.length : Int) : Int) := of_decide_eq_true (by first | (with_reducible assumption) | assumption); obtain ⟨ce33, hcl33, hM33, hcc33, hfr33⟩ := Kd.R_elem HO_3.out z53 ((ji26) : Int) p33 q33; obtain rfl := k53_openM hM33; have hx33_0 : w35.cell? ⟨go30, ((ji26) : Int).toNat * 3, none⟩ = some (.int .i64 ((rd_T53 y599 (ji26)).f0)) := hcc33 0 _ rfl; have hx33_1 : w35.cell? ⟨go30, ((ji26) : Int).toNat * 3 + 1, none⟩ = some (.int .i64 ((rd_T53 y599 (ji26)).f1)) := hcc33 1 _ rfl; have hx33_2 : w35.cell? ⟨go30, ((ji26) : Int).toNat * 3 + 2, none⟩ = some (.int .i64 ((rd_T53 y599 (ji26)).f2)) := hcc33 2 _ rfl; have hf33_0 : w35.frozen? ⟨go30, ((ji26) : Int).toNat * 3, none⟩ = false := hfr33 0; have hf33_1 : w35.frozen? ⟨go30, ((ji26) : Int).toNat * 3 + 1, none⟩ = false := hfr33 1; have hf33_2 : w35.frozen? ⟨go30, ((ji26) : Int).toNat * 3 + 2, none⟩ = false := hfr33 2; clear hcl33 hcc33 hfr33 hM33; replace p33 := eq_true p33; replace q33 := eq_true q33; have HX36 := Aside0.mk (show Kd.R k53 53 w35 w.heap.size (fun _ => True) (.slice (some ⟨go30, 0, none⟩) x3_1.length co13) y599 from (by (with_reducible repeat (first | apply Kd.R_alloc | apply Kd.R_drewN | apply Kd.R_drew)); exact HO_3.out)); obtain ⟨ce36, hcl36, hM36, hcc36, hfr36⟩ := Kd.R_elem HX36.out z53 ((ji26) : Int) (of_decide_eq_true (by first | (with_reducible assumption) | assumption)) (by have h_ : ((ji26) : Int) < ((x3_1.length : Int) : Int) := of_decide_eq_true (by first | (with_reducible assumption) | assumption); first | exact h_ | (have e_ := (Kd.R_reads' HO_3.out).1; omega) | simpa using h_); obtain rfl := k53_openM hM36; have HP36 := Kd.R_seg HX36.out ((ji26) : Int) (of_decide_eq_true (by first | (with_reducible assumption) | assumption)) (by have h_ : ((ji26) : Int) < ((x3_1.length : Int) : Int) := of_decide_eq_true (by first | (with_reducible assumption) | assumption); first | exact h_ | (have e_ := (Kd.R_reads' HO_3.out).1; omega) | simpa using h_) (seg := [.int .i64 (rd l0 x4_1)]) (j := 2) hcl36 hcc36 (show 3 ≤ 3 from by decide) (x' := (⟨(rd_T53 y599 (ji26)).f0, (rd_T53 y599 (ji26)).f1, rd l0 x4_1⟩ : S53)) (k53_mkM _ _ _ (⟨(rd_T53 y599 (ji26)).f0, (rd_T53 y599 (ji26)).f1, rd l0 x4_1⟩ : S53) ) (fun _ hk => hk); have hx36_2 := hcc36 2 _ rfl; (try simp only [show (k53).sz = 3 from rfl, Nat.mul_one, Nat.add_zero] at hx36_2); have hf36_2 := hfr36 2; (try simp only [show (k53).sz = 3 from rfl, Nat.mul_one, Nat.add_zero] at hf36_2); clear hcl36 hcc36 hfr36 hM36) | ((with_reducible refine gate_store (t := 3) (p := 93) rfl ?_); (try (rw [drewN_self w35]; generalize hq_ : World.drewN w35 _ = w35; have n0_ := Aside0.mk (Kd.R_at hq_ HO_3.out); have n1_ := Aside0.mk (below_at hq_ HB.out); clear hq_ HO_3 HB; have HO_3 := n0_; have HB := n1_; clear n0_ n1_; (try (have HX36 := Aside0.mk (show Kd.R k53 53 w35 w.heap.size (fun _ => True) (.slice (some ⟨go30, 0, none⟩) x3_1.length co13) y599 from (by (with_reducible repeat (first | apply Kd.R_alloc | apply Kd.R_drewN | apply Kd.R_drew)); exact HO_3.out)))); (try (obtain ⟨ce36, hcl36, hM36, hcc36, hfr36⟩ := Kd.R_elem HX36.out z53 ((ji26) : Int) (of_decide_eq_true (by first | (with_reducible assumption) | assumption)) (by have h_ : ((ji26) : Int) < ((x3_1.length : Int) : Int) := of_decide_eq_true (by first | (with_reducible assumption) | assumption); first | exact h_ | (have e_ := (Kd.R_reads' HO_3.out).1; omega) | simpa using h_))); (try (obtain rfl := k53_openM hM36)); (try (have HP36 := Kd.R_seg HX36.out ((ji26) : Int) (of_decide_eq_true (by first | (with_reducible assumption) | assumption)) (by have h_ : ((ji26) : Int) < ((x3_1.length : Int) : Int) := of_decide_eq_true (by first | (with_reducible assumption) | assumption); first | exact h_ | (have e_ := (Kd.R_reads' HO_3.out).1; omega) | simpa using h_) (seg := [.int .i64 (rd l0 x4_1)]) (j := 2) hcl36 hcc36 (show 3 ≤ 3 from by decide) (x' := (⟨(rd_T53 y599 (ji26)).f0, (rd_T53 y599 (ji26)).f1, rd l0 x4_1⟩ : S53)) (k53_mkM _ _ _ (⟨(rd_T53 y599 (ji26)).f0, (rd_T53 y599 (ji26)).f1, rd l0 x4_1⟩ : S53) ) (fun _ hk => hk))); (try (have hx36_2 := hcc36 2 _ rfl)); (try (try simp only [show (k53).sz = 3 from rfl, Nat.mul_one, Nat.add_zero] at hx36_2)); (try (have hf36_2 := hfr36 2)); (try (try simp only [show (k53).sz = 3 from rfl, Nat.mul_one, Nat.add_zero] at hf36_2)); (try (clear hcl36 hcc36 hfr36 hM36)))); refine store_event (t := 3) (p := 93) (v := ?vo_w37) (w1 := (w35.setCell ⟨go30, ((ji26) : Int).toNat * 3 + 2, none⟩ (.int .i64 (rd l0 x4_1)))) ?hg ?ho ?hn ?hr ?_; (case ho => rfl); (case hg => rfl); (case hn => rfl); (case hr => first | (go_simp; done) | (go_simp; rfl)); intro w37 hw; have hg : w35.grownBy w37 (some go30) := (by rw [hw]; exact HP36.2); have hp_ : Kd.R k53 53 w37 w.heap.size (fun _ => True) (.slice (some ⟨go30, 0, none⟩) x3_1.length co13) y601 := (by rw [hw, Ny601.out]; exact HP36.1); clear HP36; have n0_ := Aside0.mk (hp_); have n1_ := Aside0.mk ((by rw [hw]; exact below_set (HB.out) GB30.out : Below w.heap.size w w37)); clear HO_3; clear HB; have HO_3 := n0_; have HB := n1_; clear n0_ n1_; clear hg hw hp_)))
              go_roundg kj11
              case measure => have := HK1.out; have := HJ11.out; omega
              case rel => exact ⟨(y601), (wrap64 (x4_1 + 1)), (by first | rfl | (simp; done) | (simp [*]; done)), H', ⟨by have := HK1.out; have := HJ11.out; omega⟩, ⟨by (with_reducible repeat (first | apply Kd.R_alloc | apply Kd.R_drewN | apply Kd.R_drew)); exact HO_3.out⟩, ⟨by repeat (first | (with_reducible first | exact HB.out | apply below_alloc | apply pw_below_drewN | apply below_drew1) | exact HB.out)⟩⟩
             ·
              rw [if_neg c32] at H; exact absurd H (by simp)
            ·
             rw [if_neg c31] at H; exact absurd H (by simp)
           ·
            rw [if_neg c29] at H; have c29b0 : decide (((rd_T53 x3_1 (ji26)).f2) < 0) = false := decide_eq_false c29; clear c29; by_cases c38 : 0 ≤ x4_1
            ·
             rw [if_pos c38] at H; have c38b0 : decide (0 ≤ x4_1) = true := decide_eq_true c38; clear c38; by_cases c39 : x4_1 < (l0.length : Int)
             ·
              rw [if_pos c39] at H; have c39b0 : decide (x4_1 < (l0.length : Int)) = true := decide_eq_true c39; clear c39; by_cases c40 : x3_1.length < 5864062014805
              ·
               rw [if_pos c40] at H; have LMc40 := Aside0.mk c40; clear c40; obtain ⟨y603, hy603⟩ : ∃ y_ : List (S53), y_ = (x3_1 ++ [(⟨x4_1, wrap64 (x4_1 + 1), rd l0 x4_1⟩ : S53)]) := ⟨_, rfl⟩; replace H : (spec_RunsOf.l0 kj11 l0 y603 (wrap64 (x4_1 + 1))) = some r := by first | (rw [hy603]; with_reducible exact H) | (have H2_ := (Option.bind_some _ _).symm.trans H; rw [hy603]; with_reducible exact H2_) | (have H2_ := (Option.bind_some _ _).symm.trans H; with_reducible exact H2_) | with_reducible exact H | (rw [hy603]; exact H) | exact H
               have Ny603 := Aside0.mk hy603; clear hy603; have H' := Aside0.mk H; clear H; have p598 : 0 ≤ ((ji26) : Int) := of_decide_eq_true (by first | (with_reducible assumption) | assumption); have q598 : (ji26) < (x3_1.length : Int) := of_decide_eq_true (by first | (with_reducible assumption) | assumption); obtain ⟨ad598, e598, hx598_0, hx598_1, hx598_2⟩ := at_T53 (Kd.R_reads' HO_3.out).2.2 (ji26) p598 q598
               cases e598
               replace p598 := eq_true p598; replace q598 := eq_true q598; have p602 : 0 ≤ (x4_1 : Int) := of_decide_eq_true (by first | (with_reducible assumption) | assumption); have q602 : x4_1 < (l0.length : Int) := of_decide_eq_true (by first | (with_reducible assumption) | assumption); obtain ⟨ad602, e602, hx602_0⟩ := Kd.at_int HR0.out x4_1 p602 q602
               cases e602
               replace hx602_0 := (HB.out.cell (World.block_lt_of_cell? w _ hx602_0)).trans hx602_0; replace p602 := eq_true p602; replace q602 := eq_true q602; go_wp2_with (first | ((with_reducible refine gate_builtin (b := .append) (xs := #[.tmp 19, .tmp 28]) rfl ?_); at_builtin; refine Kd.R_append k53 (w0 := w) w.heap.size rfl (.tmp 19) (.tmp 28) 48 53 (.agg #[(.int .i64 0), (.int .i64 0), (.int .i64 0)]) 24 rfl Try.underlying48 info53 rfl (by decide) (by omega) (.slice (some ad598) x3_1.length co13) x3_1 (⟨x4_1, wrap64 (x4_1 + 1), rd l0 x4_1⟩ : S53) [.int .i64 x4_1, .int .i64 (wrap64 (x4_1 + 1)), .int .i64 (rd l0 x4_1)] (fun _ => True) (fun _ => False) rfl rfl ?aP (fun _ hk => hk.elim) ?aF ?aO ?aB ?aS ?aL ?_; (case aP => exact k53_mkM _ _ _ (⟨x4_1, wrap64 (x4_1 + 1), rd l0 x4_1⟩ : S53)); (case aB => exact (by repeat (first | (with_reducible first | exact HB.out | apply below_alloc | apply pw_below_drewN | apply below_drew1) | exact HB.out))); (case aF => exact (fun _ _ => trivial)); (case aO => exact (by (with_reducible repeat (first | apply Kd.R_alloc | apply Kd.R_drewN | apply Kd.R_drew)); exact HO_3.out)); (case aS => exact (below_size (by repeat (first | (with_reducible first | exact HB.out | apply below_alloc | apply pw_below_drewN | apply below_drew1) | exact HB.out)))); (case aL => have := LMc40.out; omega); intro v604 w41 ho hb hg hat; rw [← Ny603.out] at ho; have n0_ := Aside0.mk (hb); have n1_ := Aside0.mk (ho); clear HB; clear HO_3; have HB := n0_; have HO605 := n1_; clear n0_ n1_; clear ho hb hg hat)); repeat (go_quiet (first | ((with_reducible refine gate_builtin (b := .append) (xs := #[.tmp 19, .tmp 28]) rfl ?_); at_builtin; refine Kd.R_append k53 (w0 := w) w.heap.size rfl (.tmp 19) (.tmp 28) 48 53 (.agg #[(.int .i64 0), (.int .i64 0), (.int .i64 0)]) 24 rfl Try.underlying48 info53 rfl (by decide) (by omega) (.slice (some ad598) x3_1.length co13) x3_1 (⟨x4_1, wrap64 (x4_1 + 1), rd l0 x4_1⟩ : S53) [.int .i64 x4_1, .int .i64 (wrap64 (x4_1 + 1)), .int .i64 (rd l0 x4_1)] (fun _ => True) (fun _ => False) rfl rfl ?aP (fun _ hk => hk.elim) ?aF ?aO ?aB ?aS ?aL ?_; (case aP => exact k53_mkM _ _ _ (⟨x4_1, wrap64 (x4_1 + 1), rd l0 x4_1⟩ : S53)); (case aB => exact (by repeat (first | (with_reducible first | exact HB.out | apply below_alloc | apply pw_below_drewN | apply below_drew1) | exact HB.out))); (case aF => exact (fun _ _ => trivial)); (case aO => exact (by (with_reducible repeat (first | apply Kd.R_alloc | apply Kd.R_drewN | apply Kd.R_drew)); exact HO_3.out)); (case aS => exact (below_size (by repeat (first | (with_reducible first | exact HB.out | apply below_alloc | apply pw_below_drewN | apply below_drew1) | exact HB.out)))); (case aL => have := LMc40.out; omega); intro v604 w41 ho hb hg hat; rw [← Ny603.out] at ho; have n0_ := Aside0.mk (hb); have n1_ := Aside0.mk (ho); clear HB; clear HO_3; have HB := n0_; have HO605 := n1_; clear n0_ n1_; clear ho hb hg hat)); try go_wp2_with (first | ((with_reducible refine gate_builtin (b := .append) (xs := #[.tmp 19, .tmp 28]) rfl ?_); at_builtin; refine Kd.R_append k53 (w0 := w) w.heap.size rfl (.tmp 19) (.tmp 28) 48 53 (.agg #[(.int .i64 0), (.int .i64 0), (.int .i64 0)]) 24 rfl Try.underlying48 info53 rfl (by decide) (by omega) (.slice (some ad598) x3_1.length co13) x3_1 (⟨x4_1, wrap64 (x4_1 + 1), rd l0 x4_1⟩ : S53) [.int .i64 x4_1, .int .i64 (wrap64 (x4_1 + 1)), .int .i64 (rd l0 x4_1)] (fun _ => True) (fun _ => False) rfl rfl ?aP (fun _ hk => hk.elim) ?aF ?aO ?aB ?aS ?aL ?_; (case aP => exact k53_mkM _ _ _ (⟨x4_1, wrap64 (x4_1 + 1), rd l0 x4_1⟩ : S53)); (case aB => exact (by repeat (first | (with_reducible first | exact HB.out | apply below_alloc | apply pw_below_drewN | apply below_drew1) | exact HB.out))); (case aF => exact (fun _ _ => trivial)); (case aO => exact (by (with_reducible repeat (first | apply Kd.R_alloc | apply Kd.R_drewN | apply Kd.R_drew)); exact HO_3.out)); (case aS => exact (below_size (by repeat (first | (with_reducible first | exact HB.out | apply below_alloc | apply pw_below_drewN | apply below_drew1) | exact HB.out)))); (case aL => have := LMc40.out; omega); intro v604 w41 ho hb hg hat; rw [← Ny603.out] at ho; have n0_ := Aside0.mk (hb); have n1_ := Aside0.mk (ho); clear HB; clear HO_3; have HB := n0_; have HO605 := n1_; clear n0_ n1_; clear ho hb hg hat)))
               go_roundg kj11
               case measure => have := HK1.out; have := HJ11.out; omega
               case rel => exact ⟨(y603), (wrap64 (x4_1 + 1)), (by first | rfl | (simp; done) | (simp [*]; done)), H', ⟨by have := HK1.out; have := HJ11.out; omega⟩, ⟨by (with_reducible repeat (first | apply Kd.R_alloc | apply Kd.R_drewN | apply Kd.R_drew)); exact HO605.out⟩, ⟨by repeat (first | (with_reducible first | exact HB.out | apply below_alloc | apply pw_below_drewN | apply below_drew1) | exact HB.out)⟩⟩
              ·
               rw [if_neg c40] at H; exact absurd H (by simp)
             ·
              rw [if_neg c39] at H; exact absurd H (by simp)
            ·
             rw [if_neg c38] at H; exact absurd H (by simp)
          ·
           rw [if_neg c28] at H; exact absurd H (by simp)
         ·
          rw [if_neg c27] at H; exact absurd H (by simp)
    ·
     rw [if_neg c6] at H; have c6b0 : decide (x4_1 < (l0.length : Int)) = false := decide_eq_false c6; clear c6; obtain rfl := Option.some.inj H; go_wp2; repeat (go_quiet (fail); try go_wp2)
     go_ret; exact ⟨_, by first | rfl | (simp [errW_none, errW_some] <;> rfl) | (simp [*, errW_none, errW_some] <;> rfl), by (with_reducible repeat (first | apply Kd.R_alloc | apply Kd.R_drewN | apply Kd.R_drew)); exact HO_3.out, by repeat (first | (with_reducible first | exact HB.out | apply below_alloc | apply pw_below_drewN | apply below_drew1) | exact HB.out)⟩
 ·
  replace c3 := Bool.eq_false_iff.mpr c3; subst c3; have H1 : (some y586) = some r := by rw [if_neg (show ¬ (false = true) by decide)] at H; exact H
  clear H; have H := H1; clear H1; obtain rfl := Option.some.inj H; go_enter Try.func72, Try.ntmps72; go_wp2_with (first | ((with_reducible refine gate_dst (N := 6) rfl ?_); refine Kd.R_lit k53 _ 53 ?hg (N := 6) ?hd (xs := ([] : List (S53))) (inner := []) (ok := fun _ => True) (okp := fun _ => True) ?hr ?hp (fun _ hk => hk) trivial (Below.refl _ _) (Nat.le_refl _) (by simp) ?_; (case hd => rfl); (case hg => rfl); (case hr => first | (go_simp; done) | (go_simp; rfl)); (case hp => exact (Reps.none _ _)); intro v587 w42 ho43 hb hg_ hnew_; clear hg_ hnew_; (first | rw [← Ny586.out] at ho43 | (simp only [Int.reduceToNat] at ho43; rw [← Ny586.out] at ho43)); have n0_ := Aside0.mk (Kd.R_lower ho43 (below_size (by repeat (first | (with_reducible first | exact HB.out | apply below_alloc | apply pw_below_drewN | apply below_drew1) | exact HB.out)))); have n1_ := Aside0.mk (below_step (by repeat (first | (with_reducible first | exact HB.out | apply below_alloc | apply pw_below_drewN | apply below_drew1) | exact HB.out)) hb); clear HB; have HO588 := n0_; have HB := n1_; clear n0_ n1_; clear hb ho43) | (go_at_call 100; (with_reducible refine (spec_l4Ok.calls k _ _ l0 false _ ?side1 ?side2 A2.out).mono ?_); (case side1 => repeat (first | exact (Kd.C_below HR0.out HB.out) | (with_reducible refine Kd.C_alloc ?_ _) | (with_reducible refine Kd.C_drewN ?_ _) | (with_reducible refine Kd.C_drew ?_))); (case side2 => exact HC0.out); rintro e w' ⟨rfl, ⟨nd, rfl⟩⟩; (try first | exact ⟨rfl, _, World.drewN_drewN _ _ _⟩ | exact ⟨rfl, _, Eq.trans (World.drewN_drewN _ _ _) (congrArg (World.drewN _) (Nat.add_assoc _ _ _))⟩))); repeat (go_quiet (first | ((with_reducible refine gate_dst (N := 6) rfl ?_); refine Kd.R_lit k53 _ 53 ?hg (N := 6) ?hd (xs := ([] : List (S53))) (inner := []) (ok := fun _ => True) (okp := fun _ => True) ?hr ?hp (fun _ hk => hk) trivial (Below.refl _ _) (Nat.le_refl _) (by simp) ?_; (case hd => rfl); (case hg => rfl); (case hr => first | (go_simp; done) | (go_simp; rfl)); (case hp => exact (Reps.none _ _)); intro v587 w42 ho43 hb hg_ hnew_; clear hg_ hnew_; (first | rw [← Ny586.out] at ho43 | (simp only [Int.reduceToNat] at ho43; rw [← Ny586.out] at ho43)); have n0_ := Aside0.mk (Kd.R_lower ho43 (below_size (by repeat (first | (with_reducible first | exact HB.out | apply below_alloc | apply pw_below_drewN | apply below_drew1) | exact HB.out)))); have n1_ := Aside0.mk (below_step (by repeat (first | (with_reducible first | exact HB.out | apply below_alloc | apply pw_below_drewN | apply below_drew1) | exact HB.out)) hb); clear HB; have HO588 := n0_; have HB := n1_; clear n0_ n1_; clear hb ho43) | (go_at_call 100; (with_reducible refine (spec_l4Ok.calls k _ _ l0 false _ ?side1 ?side2 A2.out).mono ?_); (case side1 => repeat (first | exact (Kd.C_below HR0.out HB.out) | (with_reducible refine Kd.C_alloc ?_ _) | (with_reducible refine Kd.C_drewN ?_ _) | (with_reducible refine Kd.C_drew ?_))); (case side2 => exact HC0.out); rintro e w' ⟨rfl, ⟨nd, rfl⟩⟩; (try first | exact ⟨rfl, _, World.drewN_drewN _ _ _⟩ | exact ⟨rfl, _, Eq.trans (World.drewN_drewN _ _ _) (congrArg (World.drewN _) (Nat.add_assoc _ _ _))⟩))); try go_wp2_with (first | ((with_reducible refine gate_dst (N := 6) rfl ?_); refine Kd.R_lit k53 _ 53 ?hg (N := 6) ?hd (xs := ([] : List (S53))) (inner := []) (ok := fun _ => True) (okp := fun _ => True) ?hr ?hp (fun _ hk => hk) trivial (Below.refl _ _) (Nat.le_refl _) (by simp) ?_; (case hd => rfl); (case hg => rfl); (case hr => first | (go_simp; done) | (go_simp; rfl)); (case hp => exact (Reps.none _ _)); intro v587 w42 ho43 hb hg_ hnew_; clear hg_ hnew_; (first | rw [← Ny586.out] at ho43 | (simp only [Int.reduceToNat] at ho43; rw [← Ny586.out] at ho43)); have n0_ := Aside0.mk (Kd.R_lower ho43 (below_size (by repeat (first | (with_reducible first | exact HB.out | apply below_alloc | apply pw_below_drewN | apply below_drew1) | exact HB.out)))); have n1_ := Aside0.mk (below_step (by repeat (first | (with_reducible first | exact HB.out | apply below_alloc | apply pw_below_drewN | apply below_drew1) | exact HB.out)) hb); clear HB; have HO588 := n0_; have HB := n1_; clear n0_ n1_; clear hb ho43) | (go_at_call 100; (with_reducible refine (spec_l4Ok.calls k _ _ l0 false _ ?side1 ?side2 A2.out).mono ?_); (case side1 => repeat (first | exact (Kd.C_below HR0.out HB.out) | (with_reducible refine Kd.C_alloc ?_ _) | (with_reducible refine Kd.C_drewN ?_ _) | (with_reducible refine Kd.C_drew ?_))); (case side2 => exact HC0.out); rintro e w' ⟨rfl, ⟨nd, rfl⟩⟩; (try first | exact ⟨rfl, _, World.drewN_drewN _ _ _⟩ | exact ⟨rfl, _, Eq.trans (World.drewN_drewN _ _ _) (congrArg (World.drewN _) (Nat.add_assoc _ _ _))⟩))))
  go_ret; exact ⟨_, by first | rfl | (simp [errW_none, errW_some] <;> rfl) | (simp [*, errW_none, errW_some] <;> rfl), by (with_reducible repeat (first | apply Kd.R_alloc | apply Kd.R_drewN | apply Kd.R_drew)); exact HO588.out, by repeat (first | (with_reducible first | exact HB.out | apply below_alloc | apply pw_below_drewN | apply below_drew1) | exact HB.out)⟩
theorem q29s {α : Type} (l : List α) (i : Nat) (a : α) : l.toArray.setIfInBounds i a = (l.set i a).toArray := List.setIfInBounds_toArray ..
theorem q29z {α : Type} (a : α) (l : List α) (b : α) : (a :: l).set 0 b = b :: l := List.set_cons_zero ..
theorem q29n {α : Type} (a : α) (l : List α) (i : Nat) (b : α) : (a :: l).set (i + 1) b = a :: l.set i b := List.set_cons_succ ..
def laws_eqRun.f (a0_0 : Int) (a0_1 : Int) (a0_2 : Int) (a1_0 : Int) (a1_1 : Int) (a1_2 : Int) : Option (Bool) := if a0_0 = a1_0 then (if a0_1 = a1_1 then (if a0_2 = a1_2 then (some true) else (some false)) else (some false)) else (some false)
set_option maxHeartbeats 8000000 in
set_option maxRecDepth 100000 in
theorem laws_eqRun.calls (a0_0 : Int) (a0_1 : Int) (a0_2 : Int) (a1_0 : Int) (a1_1 : Int) (a1_2 : Int) (r : Bool) (w : World) (h : laws_eqRun.f a0_0 a0_1 a0_2 a1_0 a1_1 a1_2 = some r) :
  Calls Try.prog 74 #[.agg #[.int .i64 a0_0, .int .i64 a0_1, .int .i64 a0_2], .agg #[.int .i64 a1_0, .int .i64 a1_1, .int .i64 a1_2]] w fun e w' => e = .returned (.bool r) ∧ Below w.heap.size w w' := by
 have hu53 := Try.underlying53; have HB := Aside0.mk (Below.refl w.heap.size w); have H : (if a0_0 = a1_0 then (if a0_1 = a1_1 then (if a0_2 = a1_2 then (some true) else (some false)) else (some false)) else (some false)) = some r := h; clear h; by_cases c3 : a0_0 = a1_0
 ·
  rw [if_pos c3] at H; have c3b0 : (a0_0 == a1_0) = true := beq_iff_eq.mpr c3; have c3b1 : (a0_0 != a1_0) = false := bne_eq_false_iff_eq.mpr c3; clear c3; by_cases c4 : a0_1 = a1_1
  ·
   rw [if_pos c4] at H; have c4b0 : (a0_1 == a1_1) = true := beq_iff_eq.mpr c4; have c4b1 : (a0_1 != a1_1) = false := bne_eq_false_iff_eq.mpr c4; clear c4; by_cases c5 : a0_2 = a1_2
   ·
    rw [if_pos c5] at H; have c5b0 : (a0_2 == a1_2) = true := beq_iff_eq.mpr c5; have c5b1 : (a0_2 != a1_2) = false := bne_eq_false_iff_eq.mpr c5; clear c5; obtain rfl := Option.some.inj H; go_enter Try.func74, Try.ntmps74; go_wp2_with (first | ((with_reducible refine gate_dst (N := 2) rfl ?_); refine box_event ?hg (N := 2) ?hd (cs := #[.int .i64 a0_0, .int .i64 a0_1, .int .i64 a0_2]) (t := 53) ?hr ?_; (case hd => rfl); (case hg => rfl); (case hr => first | (go_simp; done) | (go_simp; rfl)); intro gb634 hg w6 hbox hb; have n0_ := Aside0.mk (below_step (by repeat (first | (with_reducible first | exact HB.out | apply below_alloc | apply pw_below_drewN | apply below_drew1) | exact HB.out)) hb); have n1_ := Aside0.mk (hbox); have n2_ := Aside0.mk ((by rw [hg]; exact (below_size (by repeat (first | (with_reducible first | exact HB.out | apply below_alloc | apply pw_below_drewN | apply below_drew1) | exact HB.out))) : w.heap.size ≤ gb634)); have n3_ := Aside0.mk ((by rw [hg]; exact (below_size (by repeat (first | (with_reducible first | exact HB.out | apply below_alloc | apply pw_below_drewN | apply below_drew1) | exact HB.out))) : w.heap.size ≤ gb634)); clear HB; have HB := n0_; have BK634 := n1_; have GW634 := n2_; have GE634 := n3_; clear n0_ n1_ n2_ n3_; clear hb hbox hg) | ((with_reducible refine gate_dst (N := 3) rfl ?_); refine box_event ?hg (N := 3) ?hd (cs := #[.int .i64 a1_0, .int .i64 a1_1, .int .i64 a1_2]) (t := 53) ?hr ?_; (case hd => rfl); (case hg => rfl); (case hr => first | (go_simp; done) | (go_simp; rfl)); intro gb635 hg w7 hbox hb; have n0_ := Aside0.mk (blk_below (g := gb634) (o := .cells #[.int .i64 a0_0, .int .i64 a0_1, .int .i64 a0_2] 53 (0, 0)) (by (with_reducible repeat (first | refine blk_drewN ?_ _ | refine blk_drew ?_ | refine blk_alloc ?_ _)); exact BK634.out) hb); have n1_ := Aside0.mk (below_step (by repeat (first | (with_reducible first | exact HB.out | apply below_alloc | apply pw_below_drewN | apply below_drew1 | refine below_set ?_ GE634.out) | exact HB.out)) hb); have n2_ := Aside0.mk (hbox); have n3_ := Aside0.mk ((by rw [hg]; exact (below_size (by repeat (first | (with_reducible first | exact HB.out | apply below_alloc | apply pw_below_drewN | apply below_drew1 | refine below_set ?_ GE634.out) | exact HB.out))) : w.heap.size ≤ gb635)); have n4_ := Aside0.mk ((by rw [hg]; exact (below_size (by repeat (first | (with_reducible first | exact HB.out | apply below_alloc | apply pw_below_drewN | apply below_drew1 | refine below_set ?_ GE634.out) | exact HB.out))) : w.heap.size ≤ gb635)); have n5_ := Aside0.mk ((by rw [hg]; exact Nat.ne_of_lt (blk_lt (g := gb634) (o := .cells #[.int .i64 a0_0, .int .i64 a0_1, .int .i64 a0_2] 53 (0, 0)) (by (with_reducible repeat (first | refine blk_drewN ?_ _ | refine blk_drew ?_ | refine blk_alloc ?_ _)); exact BK634.out)) : gb634 ≠ gb635)); have n6_ := Aside0.mk ((by rw [hg]; exact Nat.ne_of_gt (blk_lt (g := gb634) (o := .cells #[.int .i64 a0_0, .int .i64 a0_1, .int .i64 a0_2] 53 (0, 0)) (by (with_reducible repeat (first | refine blk_drewN ?_ _ | refine blk_drew ?_ | refine blk_alloc ?_ _)); exact BK634.out)) : gb635 ≠ gb634)); clear BK634; clear HB; have BK634 := n0_; have HB := n1_; have BK635 := n2_; have GW635 := n3_; have GE635 := n4_; have NB634_635 := n5_; have NB635_634 := n6_; clear n0_ n1_ n2_ n3_ n4_ n5_ n6_; clear hb hbox hg; have hnb8 := NB634_635.out; have hnc8 := NB635_634.out; have hcz9_0 : w7.cell? ⟨gb634, 0, none⟩ = some (.int .i64 a0_0) := (blk_cell BK634.out 0).trans rfl; have hcz9_1 : w7.cell? ⟨gb634, 1, none⟩ = some (.int .i64 a0_1) := (blk_cell BK634.out 1).trans rfl; have hcz9_2 : w7.cell? ⟨gb634, 2, none⟩ = some (.int .i64 a0_2) := (blk_cell BK634.out 2).trans rfl; have hfz9_0 := blk_frozen BK634.out 0; have hfz9_1 := blk_frozen BK634.out 1; have hfz9_2 := blk_frozen BK634.out 2; have hcz10_0 : w7.cell? ⟨gb635, 0, none⟩ = some (.int .i64 a1_0) := (blk_cell BK635.out 0).trans rfl; have hcz10_1 : w7.cell? ⟨gb635, 1, none⟩ = some (.int .i64 a1_1) := (blk_cell BK635.out 1).trans rfl; have hcz10_2 : w7.cell? ⟨gb635, 2, none⟩ = some (.int .i64 a1_2) := (blk_cell BK635.out 2).trans rfl; have hfz10_0 := blk_frozen BK635.out 0; have hfz10_1 := blk_frozen BK635.out 1; have hfz10_2 := blk_frozen BK635.out 2))
    go_ret; exact ⟨by first | rfl | (simp [errW_none, errW_some] <;> rfl) | (simp [*, errW_none, errW_some] <;> rfl), by repeat (first | (with_reducible first | exact HB.out | apply below_alloc | apply pw_below_drewN | apply below_drew1 | refine below_set ?_ GE634.out | refine below_set ?_ GE635.out) | exact HB.out)⟩
   ·
    rw [if_neg c5] at H; have c5b0 : (a0_2 == a1_2) = false := beq_eq_false_iff_ne.mpr c5; have c5b1 : (a0_2 != a1_2) = true := bne_iff_ne.mpr c5; obtain rfl := Option.some.inj H; go_enter Try.func74, Try.ntmps74; go_wp2_with (first | ((with_reducible refine gate_dst (N := 2) rfl ?_); refine box_event ?hg (N := 2) ?hd (cs := #[.int .i64 a0_0, .int .i64 a0_1, .int .i64 a0_2]) (t := 53) ?hr ?_; (case hd => rfl); (case hg => rfl); (case hr => first | (go_simp; done) | (go_simp; rfl)); intro gb634 hg w11 hbox hb; have n0_ := Aside0.mk (below_step (by repeat (first | (with_reducible first | exact HB.out | apply below_alloc | apply pw_below_drewN | apply below_drew1) | exact HB.out)) hb); have n1_ := Aside0.mk (hbox); have n2_ := Aside0.mk ((by rw [hg]; exact (below_size (by repeat (first | (with_reducible first | exact HB.out | apply below_alloc | apply pw_below_drewN | apply below_drew1) | exact HB.out))) : w.heap.size ≤ gb634)); have n3_ := Aside0.mk ((by rw [hg]; exact (below_size (by repeat (first | (with_reducible first | exact HB.out | apply below_alloc | apply pw_below_drewN | apply below_drew1) | exact HB.out))) : w.heap.size ≤ gb634)); clear HB; have HB := n0_; have BK634 := n1_; have GW634 := n2_; have GE634 := n3_; clear n0_ n1_ n2_ n3_; clear hb hbox hg) | ((with_reducible refine gate_dst (N := 3) rfl ?_); refine box_event ?hg (N := 3) ?hd (cs := #[.int .i64 a1_0, .int .i64 a1_1, .int .i64 a1_2]) (t := 53) ?hr ?_; (case hd => rfl); (case hg => rfl); (case hr => first | (go_simp; done) | (go_simp; rfl)); intro gb635 hg w12 hbox hb; have n0_ := Aside0.mk (blk_below (g := gb634) (o := .cells #[.int .i64 a0_0, .int .i64 a0_1, .int .i64 a0_2] 53 (0, 0)) (by (with_reducible repeat (first | refine blk_drewN ?_ _ | refine blk_drew ?_ | refine blk_alloc ?_ _)); exact BK634.out) hb); have n1_ := Aside0.mk (below_step (by repeat (first | (with_reducible first | exact HB.out | apply below_alloc | apply pw_below_drewN | apply below_drew1 | refine below_set ?_ GE634.out) | exact HB.out)) hb); have n2_ := Aside0.mk (hbox); have n3_ := Aside0.mk ((by rw [hg]; exact (below_size (by repeat (first | (with_reducible first | exact HB.out | apply below_alloc | apply pw_below_drewN | apply below_drew1 | refine below_set ?_ GE634.out) | exact HB.out))) : w.heap.size ≤ gb635)); have n4_ := Aside0.mk ((by rw [hg]; exact (below_size (by repeat (first | (with_reducible first | exact HB.out | apply below_alloc | apply pw_below_drewN | apply below_drew1 | refine below_set ?_ GE634.out) | exact HB.out))) : w.heap.size ≤ gb635)); have n5_ := Aside0.mk ((by rw [hg]; exact Nat.ne_of_lt (blk_lt (g := gb634) (o := .cells #[.int .i64 a0_0, .int .i64 a0_1, .int .i64 a0_2] 53 (0, 0)) (by (with_reducible repeat (first | refine blk_drewN ?_ _ | refine blk_drew ?_ | refine blk_alloc ?_ _)); exact BK634.out)) : gb634 ≠ gb635)); have n6_ := Aside0.mk ((by rw [hg]; exact Nat.ne_of_gt (blk_lt (g := gb634) (o := .cells #[.int .i64 a0_0, .int .i64 a0_1, .int .i64 a0_2] 53 (0, 0)) (by (with_reducible repeat (first | refine blk_drewN ?_ _ | refine blk_drew ?_ | refine blk_alloc ?_ _)); exact BK634.out)) : gb635 ≠ gb634)); clear BK634; clear HB; have BK634 := n0_; have HB := n1_; have BK635 := n2_; have GW635 := n3_; have GE635 := n4_; have NB634_635 := n5_; have NB635_634 := n6_; clear n0_ n1_ n2_ n3_ n4_ n5_ n6_; clear hb hbox hg; have hnb13 := NB634_635.out; have hnc13 := NB635_634.out; have hcz14_0 : w12.cell? ⟨gb634, 0, none⟩ = some (.int .i64 a0_0) := (blk_cell BK634.out 0).trans rfl; have hcz14_1 : w12.cell? ⟨gb634, 1, none⟩ = some (.int .i64 a0_1) := (blk_cell BK634.out 1).trans rfl; have hcz14_2 : w12.cell? ⟨gb634, 2, none⟩ = some (.int .i64 a0_2) := (blk_cell BK634.out 2).trans rfl; have hfz14_0 := blk_frozen BK634.out 0; have hfz14_1 := blk_frozen BK634.out 1; have hfz14_2 := blk_frozen BK634.out 2; have hcz15_0 : w12.cell? ⟨gb635, 0, none⟩ = some (.int .i64 a1_0) := (blk_cell BK635.out 0).trans rfl; have hcz15_1 : w12.cell? ⟨gb635, 1, none⟩ = some (.int .i64 a1_1) := (blk_cell BK635.out 1).trans rfl; have hcz15_2 : w12.cell? ⟨gb635, 2, none⟩ = some (.int .i64 a1_2) := (blk_cell BK635.out 2).trans rfl; have hfz15_0 := blk_frozen BK635.out 0; have hfz15_1 := blk_frozen BK635.out 1; have hfz15_2 := blk_frozen BK635.out 2))
    go_ret; exact ⟨by first | rfl | (simp [errW_none, errW_some] <;> rfl) | (simp [*, errW_none, errW_some] <;> rfl), by repeat (first | (with_reducible first | exact HB.out | apply below_alloc | apply pw_below_drewN | apply below_drew1 | refine below_set ?_ GE634.out | refine below_set ?_ GE635.out) | exact HB.out)⟩
  ·
   rw [if_neg c4] at H; have c4b0 : (a0_1 == a1_1) = false := beq_eq_false_iff_ne.mpr c4; have c4b1 : (a0_1 != a1_1) = true := bne_iff_ne.mpr c4; obtain rfl := Option.some.inj H; go_enter Try.func74, Try.ntmps74; go_wp2_with (first | ((with_reducible refine gate_dst (N := 2) rfl ?_); refine box_event ?hg (N := 2) ?hd (cs := #[.int .i64 a0_0, .int .i64 a0_1, .int .i64 a0_2]) (t := 53) ?hr ?_; (case hd => rfl); (case hg => rfl); (case hr => first | (go_simp; done) | (go_simp; rfl)); intro gb634 hg w16 hbox hb; have n0_ := Aside0.mk (below_step (by repeat (first | (with_reducible first | exact HB.out | apply below_alloc | apply pw_below_drewN | apply below_drew1) | exact HB.out)) hb); have n1_ := Aside0.mk (hbox); have n2_ := Aside0.mk ((by rw [hg]; exact (below_size (by repeat (first | (with_reducible first | exact HB.out | apply below_alloc | apply pw_below_drewN | apply below_drew1) | exact HB.out))) : w.heap.size ≤ gb634)); have n3_ := Aside0.mk ((by rw [hg]; exact (below_size (by repeat (first | (with_reducible first | exact HB.out | apply below_alloc | apply pw_below_drewN | apply below_drew1) | exact HB.out))) : w.heap.size ≤ gb634)); clear HB; have HB := n0_; have BK634 := n1_; have GW634 := n2_; have GE634 := n3_; clear n0_ n1_ n2_ n3_; clear hb hbox hg) | ((with_reducible refine gate_dst (N := 3) rfl ?_); refine box_event ?hg (N := 3) ?hd (cs := #[.int .i64 a1_0, .int .i64 a1_1, .int .i64 a1_2]) (t := 53) ?hr ?_; (case hd => rfl); (case hg => rfl); (case hr => first | (go_simp; done) | (go_simp; rfl)); intro gb635 hg w17 hbox hb; have n0_ := Aside0.mk (blk_below (g := gb634) (o := .cells #[.int .i64 a0_0, .int .i64 a0_1, .int .i64 a0_2] 53 (0, 0)) (by (with_reducible repeat (first | refine blk_drewN ?_ _ | refine blk_drew ?_ | refine blk_alloc ?_ _)); exact BK634.out) hb); have n1_ := Aside0.mk (below_step (by repeat (first | (with_reducible first | exact HB.out | apply below_alloc | apply pw_below_drewN | apply below_drew1 | refine below_set ?_ GE634.out) | exact HB.out)) hb); have n2_ := Aside0.mk (hbox); have n3_ := Aside0.mk ((by rw [hg]; exact (below_size (by repeat (first | (with_reducible first | exact HB.out | apply below_alloc | apply pw_below_drewN | apply below_drew1 | refine below_set ?_ GE634.out) | exact HB.out))) : w.heap.size ≤ gb635)); have n4_ := Aside0.mk ((by rw [hg]; exact (below_size (by repeat (first | (with_reducible first | exact HB.out | apply below_alloc | apply pw_below_drewN | apply below_drew1 | refine below_set ?_ GE634.out) | exact HB.out))) : w.heap.size ≤ gb635)); have n5_ := Aside0.mk ((by rw [hg]; exact Nat.ne_of_lt (blk_lt (g := gb634) (o := .cells #[.int .i64 a0_0, .int .i64 a0_1, .int .i64 a0_2] 53 (0, 0)) (by (with_reducible repeat (first | refine blk_drewN ?_ _ | refine blk_drew ?_ | refine blk_alloc ?_ _)); exact BK634.out)) : gb634 ≠ gb635)); have n6_ := Aside0.mk ((by rw [hg]; exact Nat.ne_of_gt (blk_lt (g := gb634) (o := .cells #[.int .i64 a0_0, .int .i64 a0_1, .int .i64 a0_2] 53 (0, 0)) (by (with_reducible repeat (first | refine blk_drewN ?_ _ | refine blk_drew ?_ | refine blk_alloc ?_ _)); exact BK634.out)) : gb635 ≠ gb634)); clear BK634; clear HB; have BK634 := n0_; have HB := n1_; have BK635 := n2_; have GW635 := n3_; have GE635 := n4_; have NB634_635 := n5_; have NB635_634 := n6_; clear n0_ n1_ n2_ n3_ n4_ n5_ n6_; clear hb hbox hg; have hnb18 := NB634_635.out; have hnc18 := NB635_634.out; have hcz19_0 : w17.cell? ⟨gb634, 0, none⟩ = some (.int .i64 a0_0) := (blk_cell BK634.out 0).trans rfl; have hcz19_1 : w17.cell? ⟨gb634, 1, none⟩ = some (.int .i64 a0_1) := (blk_cell BK634.out 1).trans rfl; have hcz19_2 : w17.cell? ⟨gb634, 2, none⟩ = some (.int .i64 a0_2) := (blk_cell BK634.out 2).trans rfl; have hfz19_0 := blk_frozen BK634.out 0; have hfz19_1 := blk_frozen BK634.out 1; have hfz19_2 := blk_frozen BK634.out 2; have hcz20_0 : w17.cell? ⟨gb635, 0, none⟩ = some (.int .i64 a1_0) := (blk_cell BK635.out 0).trans rfl; have hcz20_1 : w17.cell? ⟨gb635, 1, none⟩ = some (.int .i64 a1_1) := (blk_cell BK635.out 1).trans rfl; have hcz20_2 : w17.cell? ⟨gb635, 2, none⟩ = some (.int .i64 a1_2) := (blk_cell BK635.out 2).trans rfl; have hfz20_0 := blk_frozen BK635.out 0; have hfz20_1 := blk_frozen BK635.out 1; have hfz20_2 := blk_frozen BK635.out 2))
   go_ret; exact ⟨by first | rfl | (simp [errW_none, errW_some] <;> rfl) | (simp [*, errW_none, errW_some] <;> rfl), by repeat (first | (with_reducible first | exact HB.out | apply below_alloc | apply pw_below_drewN | apply below_drew1 | refine below_set ?_ GE634.out | refine below_set ?_ GE635.out) | exact HB.out)⟩
 ·
  rw [if_neg c3] at H; have c3b0 : (a0_0 == a1_0) = false := beq_eq_false_iff_ne.mpr c3; have c3b1 : (a0_0 != a1_0) = true := bne_iff_ne.mpr c3; obtain rfl := Option.some.inj H; go_enter Try.func74, Try.ntmps74; go_wp2_with (first | ((with_reducible refine gate_dst (N := 2) rfl ?_); refine box_event ?hg (N := 2) ?hd (cs := #[.int .i64 a0_0, .int .i64 a0_1, .int .i64 a0_2]) (t := 53) ?hr ?_; (case hd => rfl); (case hg => rfl); (case hr => first | (go_simp; done) | (go_simp; rfl)); intro gb634 hg w21 hbox hb; have n0_ := Aside0.mk (below_step (by repeat (first | (with_reducible first | exact HB.out | apply below_alloc | apply pw_below_drewN | apply below_drew1) | exact HB.out)) hb); have n1_ := Aside0.mk (hbox); have n2_ := Aside0.mk ((by rw [hg]; exact (below_size (by repeat (first | (with_reducible first | exact HB.out | apply below_alloc | apply pw_below_drewN | apply below_drew1) | exact HB.out))) : w.heap.size ≤ gb634)); have n3_ := Aside0.mk ((by rw [hg]; exact (below_size (by repeat (first | (with_reducible first | exact HB.out | apply below_alloc | apply pw_below_drewN | apply below_drew1) | exact HB.out))) : w.heap.size ≤ gb634)); clear HB; have HB := n0_; have BK634 := n1_; have GW634 := n2_; have GE634 := n3_; clear n0_ n1_ n2_ n3_; clear hb hbox hg) | ((with_reducible refine gate_dst (N := 3) rfl ?_); refine box_event ?hg (N := 3) ?hd (cs := #[.int .i64 a1_0, .int .i64 a1_1, .int .i64 a1_2]) (t := 53) ?hr ?_; (case hd => rfl); (case hg => rfl); (case hr => first | (go_simp; done) | (go_simp; rfl)); intro gb635 hg w22 hbox hb; have n0_ := Aside0.mk (blk_below (g := gb634) (o := .cells #[.int .i64 a0_0, .int .i64 a0_1, .int .i64 a0_2] 53 (0, 0)) (by (with_reducible repeat (first | refine blk_drewN ?_ _ | refine blk_drew ?_ | refine blk_alloc ?_ _)); exact BK634.out) hb); have n1_ := Aside0.mk (below_step (by repeat (first | (with_reducible first | exact HB.out | apply below_alloc | apply pw_below_drewN | apply below_drew1 | refine below_set ?_ GE634.out) | exact HB.out)) hb); have n2_ := Aside0.mk (hbox); have n3_ := Aside0.mk ((by rw [hg]; exact (below_size (by repeat (first | (with_reducible first | exact HB.out | apply below_alloc | apply pw_below_drewN | apply below_drew1 | refine below_set ?_ GE634.out) | exact HB.out))) : w.heap.size ≤ gb635)); have n4_ := Aside0.mk ((by rw [hg]; exact (below_size (by repeat (first | (with_reducible first | exact HB.out | apply below_alloc | apply pw_below_drewN | apply below_drew1 | refine below_set ?_ GE634.out) | exact HB.out))) : w.heap.size ≤ gb635)); have n5_ := Aside0.mk ((by rw [hg]; exact Nat.ne_of_lt (blk_lt (g := gb634) (o := .cells #[.int .i64 a0_0, .int .i64 a0_1, .int .i64 a0_2] 53 (0, 0)) (by (with_reducible repeat (first | refine blk_drewN ?_ _ | refine blk_drew ?_ | refine blk_alloc ?_ _)); exact BK634.out)) : gb634 ≠ gb635)); have n6_ := Aside0.mk ((by rw [hg]; exact Nat.ne_of_gt (blk_lt (g := gb634) (o := .cells #[.int .i64 a0_0, .int .i64 a0_1, .int .i64 a0_2] 53 (0, 0)) (by (with_reducible repeat (first | refine blk_drewN ?_ _ | refine blk_drew ?_ | refine blk_alloc ?_ _)); exact BK634.out)) : gb635 ≠ gb634)); clear BK634; clear HB; have BK634 := n0_; have HB := n1_; have BK635 := n2_; have GW635 := n3_; have GE635 := n4_; have NB634_635 := n5_; have NB635_634 := n6_; clear n0_ n1_ n2_ n3_ n4_ n5_ n6_; clear hb hbox hg; have hnb23 := NB634_635.out; have hnc23 := NB635_634.out; have hcz24_0 : w22.cell? ⟨gb634, 0, none⟩ = some (.int .i64 a0_0) := (blk_cell BK634.out 0).trans rfl; have hcz24_1 : w22.cell? ⟨gb634, 1, none⟩ = some (.int .i64 a0_1) := (blk_cell BK634.out 1).trans rfl; have hcz24_2 : w22.cell? ⟨gb634, 2, none⟩ = some (.int .i64 a0_2) := (blk_cell BK634.out 2).trans rfl; have hfz24_0 := blk_frozen BK634.out 0; have hfz24_1 := blk_frozen BK634.out 1; have hfz24_2 := blk_frozen BK634.out 2; have hcz25_0 : w22.cell? ⟨gb635, 0, none⟩ = some (.int .i64 a1_0) := (blk_cell BK635.out 0).trans rfl; have hcz25_1 : w22.cell? ⟨gb635, 1, none⟩ = some (.int .i64 a1_1) := (blk_cell BK635.out 1).trans rfl; have hcz25_2 : w22.cell? ⟨gb635, 2, none⟩ = some (.int .i64 a1_2) := (blk_cell BK635.out 2).trans rfl; have hfz25_0 := blk_frozen BK635.out 0; have hfz25_1 := blk_frozen BK635.out 1; have hfz25_2 := blk_frozen BK635.out 2))
  go_ret; exact ⟨by first | rfl | (simp [errW_none, errW_some] <;> rfl) | (simp [*, errW_none, errW_some] <;> rfl), by repeat (first | (with_reducible first | exact HB.out | apply below_alloc | apply pw_below_drewN | apply below_drew1 | refine below_set ?_ GE634.out | refine below_set ?_ GE635.out) | exact HB.out)⟩
abbrev q30M0 : Array Bool := #[false, false, false, false, false, false, false, false, false, false]
abbrev q30M1 : Array Bool := #[true, false, false, false, false, false, false, false, false, false]
abbrev q30M2 : Array Bool := #[true, true, false, false, false, false, false, false, false, false]
abbrev q30M3 : Array Bool := #[true, true, true, false, false, false, false, false, false, false]
abbrev q30M4 : Array Bool := #[true, true, true, false, true, false, false, false, false, false]
abbrev q30M5 : Array Bool := #[true, true, true, false, true, true, false, false, false, false]
abbrev q30M6 : Array Bool := #[true, true, true, false, true, true, true, false, false, false]
abbrev q30M7 : Array Bool := #[true, true, true, true, true, true, true, false, false, false]
abbrev q30M8 : Array Bool := #[true, true, true, true, true, true, true, true, false, false]
abbrev q30M9 : Array Bool := #[true, true, true, true, true, true, true, true, true, false]
abbrev q30M10 : Array Bool := #[true, true, true, true, true, true, true, true, true, true]
theorem q30s {α : Type} (l : List α) (i : Nat) (a : α) : l.toArray.setIfInBounds i a = (l.set i a).toArray := List.setIfInBounds_toArray ..
theorem q30z {α : Type} (a : α) (l : List α) (b : α) : (a :: l).set 0 b = b :: l := List.set_cons_zero ..
theorem q30n {α : Type} (a : α) (l : List α) (i : Nat) (b : α) : (a :: l).set (i + 1) b = a :: l.set i b := List.set_cons_succ ..
def laws_eqRunS.l0 : Nat → List (S53) → List (S53) → Int → Option (Bool)
 | 0, _, _, _ => none
 | k + 1, x0, x1, x5 => if x5 < (x0.length : Int) then (if 0 ≤ x5 then (if x5 < (x1.length : Int) then ((laws_eqRun.f ((rd_T53 x0 x5).f0) ((rd_T53 x0 x5).f1) ((rd_T53 x0 x5).f2) ((rd_T53 x1 x5).f0) ((rd_T53 x1 x5).f1) ((rd_T53 x1 x5).f2)).bind fun t638 => (if t638 = true then (laws_eqRunS.l0 k x0 x1 (wrap64 (x5 + 1))) else (some false))) else (none)) else (none)) else (some true)
def laws_eqRunS.f (k : Nat) (l0 : List (S53)) (l1 : List (S53)) : Option (Bool) := if (l0.length : Int) = (l1.length : Int) then (laws_eqRunS.l0 k l0 l1 0) else (some false)
theorem laws_eqRunS.mono_l : ∀ k, (∀ y0 y1 y2, LeO (laws_eqRunS.l0 k y0 y1 y2) (laws_eqRunS.l0 (k + 1) y0 y1 y2))
 | 0 => fun _ _ _ r h => by simp [laws_eqRunS.l0] at h
 | k + 1 => by
  have ih0 := laws_eqRunS.mono_l k
  ·
   intro y0 y1 y2; unfold laws_eqRunS.l0
   repeat' first
   | (with_reducible exact ih0 _ _ _)
   | (with_reducible exact LeO.refl _)
   | (with_reducible exact LeO.none _)
   | (with_reducible refine LeO.ite ?_ ?_)
   | (with_reducible refine LeO.bind ?_ (fun _ => ?_))
   | exact ih0 _ _ _
   | exact LeO.none _
   | refine LeO.ite ?_ ?_
   | refine LeO.bind ?_ (fun _ => ?_)
theorem laws_eqRunS.mono : ∀ a0 a1 k, LeO (laws_eqRunS.f k a0 a1) (laws_eqRunS.f (k + 1) a0 a1) := by
 intro a0 a1 k; have ih0 := laws_eqRunS.mono_l k; unfold laws_eqRunS.f
 repeat' first
   | (with_reducible exact ih0 _ _ _)
   | (with_reducible exact LeO.refl _)
   | (with_reducible exact LeO.none _)
   | (with_reducible refine LeO.ite ?_ ?_)
   | (with_reducible refine LeO.bind ?_ (fun _ => ?_))
   | exact ih0 _ _ _
   | exact LeO.none _
   | refine LeO.ite ?_ ?_
   | refine LeO.bind ?_ (fun _ => ?_)
def laws_eqRunS.T6 : Bool × List (List Nat × List Nat) := (true, [([], []), ([], []), ([0, 1], [0, 1]), ([2], [2]), ([], []), ([], []), ([4, 5], [4, 5]), ([6], [6]), ([3, 7], [3, 7]), ([8], [8])])
def laws_eqRunS.B6 : List Nat := [0, 0, 3, 7, 0, 0, 48, 112, 255, 511]
theorem laws_eqRunS.tab6 : rtab .any (opsOf Try.f39 6) = laws_eqRunS.T6 := by kernel_rfl
theorem laws_eqRunS.bits6 : waitsOk laws_eqRunS.T6.2 laws_eqRunS.B6 = true := by kernel_rfl
set_option maxHeartbeats 8000000 in
set_option maxRecDepth 100000 in
theorem laws_eqRunS.calls (k : Nat) (A0 : Option Addr) (c0 : Nat) (l0 : List (S53)) (A1 : Option Addr) (c1 : Nat) (l1 : List (S53)) (r : Bool) (w : World) (hr0 : Kd.C k53 w A0 l0.length l0) (hc0 : l0.length ≤ c0) (hr1 : Kd.C k53 w A1 l1.length l1) (hc1 : l1.length ≤ c1) (h : laws_eqRunS.f k l0 l1 = some r) :
  Calls Try.prog 39 #[.slice A0 l0.length c0, .slice A1 l1.length c1] w fun e w' => e = .returned (.bool r) ∧ Below w.heap.size w w' := by
 have hu53 := Try.underlying53; have HR0 := Aside0.mk hr0; have HC0 := Aside0.mk hc0; clear hr0 hc0; have HR1 := Aside0.mk hr1; have HC1 := Aside0.mk hc1; clear hr1 hc1; have HB := Aside0.mk (Below.refl w.heap.size w); have H : (if (l0.length : Int) = (l1.length : Int) then (laws_eqRunS.l0 k l0 l1 0) else (some false)) = some r := h; clear h; by_cases c3 : (l0.length : Int) = (l1.length : Int)
 ·
  rw [if_pos c3] at H; have c3b0 : ((l0.length : Int) == (l1.length : Int)) = true := beq_iff_eq.mpr c3; have c3b1 : ((l0.length : Int) != (l1.length : Int)) = false := bne_eq_false_iff_eq.mpr c3; have c3b2 : (l0.length == l1.length) = true := by first | simpa using c3 | (simp at c3 ⊢; omega)
  clear c3; have H' := Aside0.mk H; clear H; go_enter Try.func39, Try.ntmps39; go_wp2; go_loopg [5] k (fun kq v5 w' => ∃ (x5_1 : Int), v5 = .int .i64 x5_1 ∧ Aside0 (laws_eqRunS.l0 kq l0 l1 x5_1 = some r) ∧ Aside0 (kq ≤ k) ∧ Aside0 (Below w.heap.size w w'))
  case atStart => exact ⟨(0), (by first | rfl | (simp; done) | (simp [*]; done)), H', ⟨Nat.le_refl _⟩, ⟨by repeat (first | (with_reducible first | exact HB.out | apply below_alloc | apply pw_below_drewN | apply below_drew1) | exact HB.out)⟩⟩
  case round =>
   clear H'; (try clear c1); (try clear p2); (try clear c3); (try clear c3b0); (try clear c3b1); (try clear c3b2); obtain ⟨x5_1, rfl, HA, HK1, HB⟩ := hrel
   cases gk with
   | zero => exact absurd HA.out (by simp [laws_eqRunS.l0])
   | succ k1 =>
    have H := HA.out; clear HA; simp only [laws_eqRunS.l0] at H; by_cases c4 : x5_1 < (l0.length : Int)
    ·
     rw [if_pos c4] at H; have c4b0 : decide (x5_1 < (l0.length : Int)) = true := decide_eq_true c4; clear c4; by_cases c5 : 0 ≤ x5_1
     ·
      rw [if_pos c5] at H; have c5b0 : decide (0 ≤ x5_1) = true := decide_eq_true c5; clear c5; by_cases c6 : x5_1 < (l1.length : Int)
      ·
       rw [if_pos c6] at H; have c6b0 : decide (x5_1 < (l1.length : Int)) = true := decide_eq_true c6; clear c6; replace H := Option.bind_eq_some_iff.mp H; obtain ⟨t638, A70, H⟩ := H; replace H : (if t638 = true then (laws_eqRunS.l0 k1 l0 l1 (wrap64 (x5_1 + 1))) else (some false)) = some r := H; have A7 := Aside0.mk A70; clear A70; by_cases c8 : t638 = true
       ·
        subst c8; have H1 : (laws_eqRunS.l0 k1 l0 l1 (wrap64 (x5_1 + 1))) = some r := by rw [if_pos rfl] at H; exact H
        clear H; have H := H1; clear H1; have H' := Aside0.mk H; clear H; (try go_wp2); have n0_ := Aside0.mk (below_drew1 HB.out); clear HB; have HB := n0_; clear n0_; have p636 : 0 ≤ (x5_1 : Int) := of_decide_eq_true (by first | (with_reducible assumption) | assumption); have q636 : x5_1 < (l0.length : Int) := of_decide_eq_true (by first | (with_reducible assumption) | assumption); obtain ⟨ad636, e636, hx636_0, hx636_1, hx636_2⟩ := at_T53 HR0.out x5_1 p636 q636; have hw636_2 := hx636_2; have hw636_1 := hx636_1; have hw636_0 := hx636_0
        cases e636
        replace hx636_0 := (HB.out.cell (World.block_lt_of_cell? w _ hx636_0)).trans hx636_0; replace hx636_1 := (HB.out.cell (World.block_lt_of_cell? w _ hx636_1)).trans hx636_1; replace hx636_2 := (HB.out.cell (World.block_lt_of_cell? w _ hx636_2)).trans hx636_2; replace p636 := eq_true p636; replace q636 := eq_true q636; have p637 : 0 ≤ (x5_1 : Int) := of_decide_eq_true (by first | (with_reducible assumption) | assumption); have q637 : x5_1 < (l1.length : Int) := of_decide_eq_true (by first | (with_reducible assumption) | assumption); obtain ⟨ad637, e637, hx637_0, hx637_1, hx637_2⟩ := at_T53 HR1.out x5_1 p637 q637; have hw637_2 := hx637_2; have hw637_1 := hx637_1; have hw637_0 := hx637_0
        cases e637
        replace hx637_0 := (HB.out.cell (World.block_lt_of_cell? w _ hx637_0)).trans hx637_0; replace hx637_1 := (HB.out.cell (World.block_lt_of_cell? w _ hx637_1)).trans hx637_1; replace hx637_2 := (HB.out.cell (World.block_lt_of_cell? w _ hx637_2)).trans hx637_2; replace p637 := eq_true p637; replace q637 := eq_true q637; refine start_ (n := 10) (S := fun w' => w'.cell? (ad636.add ((x5_1).toNat * 3)) = some (.int .i64 ((rd_T53 l0 x5_1).f0)) ∧ w'.cell? ⟨(ad636.add ((x5_1).toNat * 3)).block, (ad636.add ((x5_1).toNat * 3)).off + 1, none⟩ = some (.int .i64 ((rd_T53 l0 x5_1).f1)) ∧ w'.cell? ⟨(ad636.add ((x5_1).toNat * 3)).block, (ad636.add ((x5_1).toNat * 3)).off + 2, none⟩ = some (.int .i64 ((rd_T53 l0 x5_1).f2)) ∧ w'.cell? (ad637.add ((x5_1).toNat * 3)) = some (.int .i64 ((rd_T53 l1 x5_1).f0)) ∧ w'.cell? ⟨(ad637.add ((x5_1).toNat * 3)).block, (ad637.add ((x5_1).toNat * 3)).off + 1, none⟩ = some (.int .i64 ((rd_T53 l1 x5_1).f1)) ∧ w'.cell? ⟨(ad637.add ((x5_1).toNat * 3)).block, (ad637.add ((x5_1).toNat * 3)).off + 2, none⟩ = some (.int .i64 ((rd_T53 l1 x5_1).f2))) (ds := []) q30M0 (by kernel_rfl) rfl rfl ⟨((HB.out.cell (World.block_lt_of_cell? w _ hw636_0)).trans hw636_0), ((HB.out.cell (World.block_lt_of_cell? w _ hw636_1)).trans hw636_1), ((HB.out.cell (World.block_lt_of_cell? w _ hw636_2)).trans hw636_2), ((HB.out.cell (World.block_lt_of_cell? w _ hw637_0)).trans hw637_0), ((HB.out.cell (World.block_lt_of_cell? w _ hw637_1)).trans hw637_1), ((HB.out.cell (World.block_lt_of_cell? w _ hw637_2)).trans hw637_2)⟩ (fun hHeld => ?_); refine with_tabW laws_eqRunS.tab6 laws_eqRunS.bits6 (fun HT_ HW_ => ?_); generalize wr.drew = w9 at HB hx636_0 hx636_1 hx636_2 hx637_0 hx637_1 hx637_2 hHeld ⊢; refine pure_ (i := 0) (N := some 17) (v := ?_) (a' := ?_) q30M1 rfl rfl (any_of HT_.out (by kernel_rfl)) (fun _ _ _ => id) (Or.inl ⟨by rfl, ?_⟩) ?_ ?_; rotate_left; intro w'; go_simp; (with_reducible rfl); rotate_left; simp only [Act.put, q30s, q30z, q30n, i64_w, i32_w]; rfl; refine pure_ (i := 1) (N := some 18) (v := ?_) (a' := ?_) q30M2 rfl rfl (any_of HT_.out (by kernel_rfl)) (fun _ _ _ => id) (Or.inl ⟨by rfl, ?_⟩) ?_ ?_; rotate_left; intro w'; go_simp; (with_reducible rfl); rotate_left; simp only [Act.put, q30s, q30z, q30n, i64_w, i32_w]; rfl; refine pure_ (i := 2) (N := some 19) (v := ?_) (a' := ?_) q30M3 rfl rfl (any_of HT_.out (by kernel_rfl)) (fun _ _ _ => id) (Or.inl ⟨by rfl, ?_⟩) ?_ ?_; rotate_left; intro w'; go_simp; (with_reducible rfl); rotate_left; simp only [Act.put, q30s, q30z, q30n, i64_w, i32_w]; rfl; refine pure_ (i := 4) (N := some 21) (v := ?_) (a' := ?_) q30M4 rfl rfl (any_of HT_.out (by kernel_rfl)) (fun _ _ _ => id) (Or.inl ⟨by rfl, ?_⟩) ?_ ?_; rotate_left; intro w'; go_simp; (with_reducible rfl); rotate_left; simp only [Act.put, q30s, q30z, q30n, i64_w, i32_w]; rfl; refine pure_ (i := 5) (N := some 22) (v := ?_) (a' := ?_) q30M5 rfl rfl (any_of HT_.out (by kernel_rfl)) (fun _ _ _ => id) (Or.inl ⟨by rfl, ?_⟩) ?_ ?_; rotate_left; intro w'; go_simp; (with_reducible rfl); rotate_left; simp only [Act.put, q30s, q30z, q30n, i64_w, i32_w]; rfl; refine pure_ (i := 6) (N := some 23) (v := ?_) (a' := ?_) q30M6 rfl rfl (any_of HT_.out (by kernel_rfl)) (fun _ _ _ => id) (Or.inl ⟨by rfl, ?_⟩) ?_ ?_; rotate_left; intro w'; go_simp; (with_reducible rfl); rotate_left; simp only [Act.put, q30s, q30z, q30n, i64_w, i32_w]; rfl; refine take_ (i := 3) (N := some 20) (v := ?_) (a' := ?_) q30M7 rfl rfl (take_ofW HT_.out HW_.out (by kernel_rfl)) (fun _ _ _ => id) (Or.inl ⟨by rfl, ?_⟩) hHeld ?_ ?_; rotate_left
        ·
         rintro w' ⟨s0, s1, s2, s3, s4, s5⟩; go_simp; with_reducible rfl
        rotate_left
        · simp only [Act.put, q30s, q30z, q30n, i64_w, i32_w]; rfl
        refine take_ (i := 7) (N := some 24) (v := ?_) (a' := ?_) q30M8 rfl rfl (take_ofW HT_.out HW_.out (by kernel_rfl)) (fun _ _ _ => id) (Or.inl ⟨by rfl, ?_⟩) hHeld ?_ ?_; rotate_left
        ·
         rintro w' ⟨s0, s1, s2, s3, s4, s5⟩; go_simp; with_reducible rfl
        rotate_left
        · simp only [Act.put, q30s, q30z, q30n, i64_w, i32_w]; rfl
        refine one_ (i := 8) (N := some 25) q30M9 rfl rfl (one_of HT_.out (by kernel_rfl)) (by decide) (fun K hK => ?_); refine goes_ Try.func74 (by kernel_rfl) rfl #[.agg #[.int .i64 ((rd_T53 l0 x5_1).f0), .int .i64 ((rd_T53 l0 x5_1).f1), .int .i64 ((rd_T53 l0 x5_1).f2)], .agg #[.int .i64 ((rd_T53 l1 x5_1).f0), .int .i64 ((rd_T53 l1 x5_1).f1), .int .i64 ((rd_T53 l1 x5_1).f2)]] (by rfl) rfl rfl (by (try simp only [List.map_toArray, List.map_cons, List.map_nil]); first | done | rfl) ?_; with_reducible refine (laws_eqRun.calls ((rd_T53 l0 x5_1).f0) ((rd_T53 l0 x5_1).f1) ((rd_T53 l0 x5_1).f2) ((rd_T53 l1 x5_1).f0) ((rd_T53 l1 x5_1).f1) ((rd_T53 l1 x5_1).f2) true _ A7.out).mono ?_
        rintro e w10 ⟨rfl, hb⟩; refine ⟨_, rfl, ?_⟩; have n0_ := Aside0.mk (below_step (by repeat (first | (with_reducible first | exact HB.out | apply below_alloc | apply pw_below_drewN | apply below_drew1) | exact HB.out)) hb); clear HB; have HB := n0_; clear n0_; (try clear hb); (try clear hb2); (try clear hk); (try clear hi); refine hK.out _ _ ⟨((HB.out.cell (World.block_lt_of_cell? w _ hw636_0)).trans hw636_0), ((HB.out.cell (World.block_lt_of_cell? w _ hw636_1)).trans hw636_1), ((HB.out.cell (World.block_lt_of_cell? w _ hw636_2)).trans hw636_2), ((HB.out.cell (World.block_lt_of_cell? w _ hw637_0)).trans hw637_0), ((HB.out.cell (World.block_lt_of_cell? w _ hw637_1)).trans hw637_1), ((HB.out.cell (World.block_lt_of_cell? w _ hw637_2)).trans hw637_2)⟩ (fun hHeld => ?_); clear hK K; refine norm_ (a' := ?_) ?_ ?_; rotate_left
        ·
         show Act.put _ (some 25) _ = _; simp only [Act.put, q30s, q30z, q30n, i64_w, i32_w]; rfl
        refine pure_ (i := 9) (N := some 26) (v := ?_) (a' := ?_) q30M10 rfl rfl (any_of HT_.out (by kernel_rfl)) (fun _ _ _ => id) (Or.inl ⟨by rfl, ?_⟩) ?_ ?_; rotate_left; intro w'; go_simp; (with_reducible rfl); rotate_left; simp only [Act.put, q30s, q30z, q30n, i64_w, i32_w]; rfl; refine done_ (done_of HT_.out (by kernel_rfl)) ?_; (try go_wp2); go_roundg k1
        case measure => have := HK1.out; omega
        case rel => exact ⟨(wrap64 (x5_1 + 1)), (by first | rfl | (simp; done) | (simp [*]; done)), H', ⟨by have := HK1.out; omega⟩, ⟨by repeat (first | (with_reducible first | exact HB.out | apply below_alloc | apply pw_below_drewN | apply below_drew1) | exact HB.out)⟩⟩
       ·
        replace c8 := Bool.eq_false_iff.mpr c8; subst c8; have H1 : (some false) = some r := by rw [if_neg (show ¬ (false = true) by decide)] at H; exact H
        clear H; have H := H1; clear H1; obtain rfl := Option.some.inj H; (try go_wp2); have n0_ := Aside0.mk (below_drew1 HB.out); clear HB; have HB := n0_; clear n0_; have p636 : 0 ≤ (x5_1 : Int) := of_decide_eq_true (by first | (with_reducible assumption) | assumption); have q636 : x5_1 < (l0.length : Int) := of_decide_eq_true (by first | (with_reducible assumption) | assumption); obtain ⟨ad636, e636, hx636_0, hx636_1, hx636_2⟩ := at_T53 HR0.out x5_1 p636 q636; have hw636_2 := hx636_2; have hw636_1 := hx636_1; have hw636_0 := hx636_0
        cases e636
        replace hx636_0 := (HB.out.cell (World.block_lt_of_cell? w _ hx636_0)).trans hx636_0; replace hx636_1 := (HB.out.cell (World.block_lt_of_cell? w _ hx636_1)).trans hx636_1; replace hx636_2 := (HB.out.cell (World.block_lt_of_cell? w _ hx636_2)).trans hx636_2; replace p636 := eq_true p636; replace q636 := eq_true q636; have p637 : 0 ≤ (x5_1 : Int) := of_decide_eq_true (by first | (with_reducible assumption) | assumption); have q637 : x5_1 < (l1.length : Int) := of_decide_eq_true (by first | (with_reducible assumption) | assumption); obtain ⟨ad637, e637, hx637_0, hx637_1, hx637_2⟩ := at_T53 HR1.out x5_1 p637 q637; have hw637_2 := hx637_2; have hw637_1 := hx637_1; have hw637_0 := hx637_0
        cases e637
        replace hx637_0 := (HB.out.cell (World.block_lt_of_cell? w _ hx637_0)).trans hx637_0; replace hx637_1 := (HB.out.cell (World.block_lt_of_cell? w _ hx637_1)).trans hx637_1; replace hx637_2 := (HB.out.cell (World.block_lt_of_cell? w _ hx637_2)).trans hx637_2; replace p637 := eq_true p637; replace q637 := eq_true q637; refine start_ (n := 10) (S := fun w' => w'.cell? (ad636.add ((x5_1).toNat * 3)) = some (.int .i64 ((rd_T53 l0 x5_1).f0)) ∧ w'.cell? ⟨(ad636.add ((x5_1).toNat * 3)).block, (ad636.add ((x5_1).toNat * 3)).off + 1, none⟩ = some (.int .i64 ((rd_T53 l0 x5_1).f1)) ∧ w'.cell? ⟨(ad636.add ((x5_1).toNat * 3)).block, (ad636.add ((x5_1).toNat * 3)).off + 2, none⟩ = some (.int .i64 ((rd_T53 l0 x5_1).f2)) ∧ w'.cell? (ad637.add ((x5_1).toNat * 3)) = some (.int .i64 ((rd_T53 l1 x5_1).f0)) ∧ w'.cell? ⟨(ad637.add ((x5_1).toNat * 3)).block, (ad637.add ((x5_1).toNat * 3)).off + 1, none⟩ = some (.int .i64 ((rd_T53 l1 x5_1).f1)) ∧ w'.cell? ⟨(ad637.add ((x5_1).toNat * 3)).block, (ad637.add ((x5_1).toNat * 3)).off + 2, none⟩ = some (.int .i64 ((rd_T53 l1 x5_1).f2))) (ds := []) q30M0 (by kernel_rfl) rfl rfl ⟨((HB.out.cell (World.block_lt_of_cell? w _ hw636_0)).trans hw636_0), ((HB.out.cell (World.block_lt_of_cell? w _ hw636_1)).trans hw636_1), ((HB.out.cell (World.block_lt_of_cell? w _ hw636_2)).trans hw636_2), ((HB.out.cell (World.block_lt_of_cell? w _ hw637_0)).trans hw637_0), ((HB.out.cell (World.block_lt_of_cell? w _ hw637_1)).trans hw637_1), ((HB.out.cell (World.block_lt_of_cell? w _ hw637_2)).trans hw637_2)⟩ (fun hHeld => ?_); refine with_tabW laws_eqRunS.tab6 laws_eqRunS.bits6 (fun HT_ HW_ => ?_); generalize wr.drew = w11 at HB hx636_0 hx636_1 hx636_2 hx637_0 hx637_1 hx637_2 hHeld ⊢; refine pure_ (i := 0) (N := some 17) (v := ?_) (a' := ?_) q30M1 rfl rfl (any_of HT_.out (by kernel_rfl)) (fun _ _ _ => id) (Or.inl ⟨by rfl, ?_⟩) ?_ ?_; rotate_left; intro w'; go_simp; (with_reducible rfl); rotate_left; simp only [Act.put, q30s, q30z, q30n, i64_w, i32_w]; rfl; refine pure_ (i := 1) (N := some 18) (v := ?_) (a' := ?_) q30M2 rfl rfl (any_of HT_.out (by kernel_rfl)) (fun _ _ _ => id) (Or.inl ⟨by rfl, ?_⟩) ?_ ?_; rotate_left; intro w'; go_simp; (with_reducible rfl); rotate_left; simp only [Act.put, q30s, q30z, q30n, i64_w, i32_w]; rfl; refine pure_ (i := 2) (N := some 19) (v := ?_) (a' := ?_) q30M3 rfl rfl (any_of HT_.out (by kernel_rfl)) (fun _ _ _ => id) (Or.inl ⟨by rfl, ?_⟩) ?_ ?_; rotate_left; intro w'; go_simp; (with_reducible rfl); rotate_left; simp only [Act.put, q30s, q30z, q30n, i64_w, i32_w]; rfl; refine pure_ (i := 4) (N := some 21) (v := ?_) (a' := ?_) q30M4 rfl rfl (any_of HT_.out (by kernel_rfl)) (fun _ _ _ => id) (Or.inl ⟨by rfl, ?_⟩) ?_ ?_; rotate_left; intro w'; go_simp; (with_reducible rfl); rotate_left; simp only [Act.put, q30s, q30z, q30n, i64_w, i32_w]; rfl; refine pure_ (i := 5) (N := some 22) (v := ?_) (a' := ?_) q30M5 rfl rfl (any_of HT_.out (by kernel_rfl)) (fun _ _ _ => id) (Or.inl ⟨by rfl, ?_⟩) ?_ ?_; rotate_left; intro w'; go_simp; (with_reducible rfl); rotate_left; simp only [Act.put, q30s, q30z, q30n, i64_w, i32_w]; rfl; refine pure_ (i := 6) (N := some 23) (v := ?_) (a' := ?_) q30M6 rfl rfl (any_of HT_.out (by kernel_rfl)) (fun _ _ _ => id) (Or.inl ⟨by rfl, ?_⟩) ?_ ?_; rotate_left; intro w'; go_simp; (with_reducible rfl); rotate_left; simp only [Act.put, q30s, q30z, q30n, i64_w, i32_w]; rfl; refine take_ (i := 3) (N := some 20) (v := ?_) (a' := ?_) q30M7 rfl rfl (take_ofW HT_.out HW_.out (by kernel_rfl)) (fun _ _ _ => id) (Or.inl ⟨by rfl, ?_⟩) hHeld ?_ ?_; rotate_left
        ·
         rintro w' ⟨s0, s1, s2, s3, s4, s5⟩; go_simp; with_reducible rfl
        rotate_left
        · simp only [Act.put, q30s, q30z, q30n, i64_w, i32_w]; rfl
        refine take_ (i := 7) (N := some 24) (v := ?_) (a' := ?_) q30M8 rfl rfl (take_ofW HT_.out HW_.out (by kernel_rfl)) (fun _ _ _ => id) (Or.inl ⟨by rfl, ?_⟩) hHeld ?_ ?_; rotate_left
        ·
         rintro w' ⟨s0, s1, s2, s3, s4, s5⟩; go_simp; with_reducible rfl
        rotate_left
        · simp only [Act.put, q30s, q30z, q30n, i64_w, i32_w]; rfl
        refine one_ (i := 8) (N := some 25) q30M9 rfl rfl (one_of HT_.out (by kernel_rfl)) (by decide) (fun K hK => ?_); refine goes_ Try.func74 (by kernel_rfl) rfl #[.agg #[.int .i64 ((rd_T53 l0 x5_1).f0), .int .i64 ((rd_T53 l0 x5_1).f1), .int .i64 ((rd_T53 l0 x5_1).f2)], .agg #[.int .i64 ((rd_T53 l1 x5_1).f0), .int .i64 ((rd_T53 l1 x5_1).f1), .int .i64 ((rd_T53 l1 x5_1).f2)]] (by rfl) rfl rfl (by (try simp only [List.map_toArray, List.map_cons, List.map_nil]); first | done | rfl) ?_; with_reducible refine (laws_eqRun.calls ((rd_T53 l0 x5_1).f0) ((rd_T53 l0 x5_1).f1) ((rd_T53 l0 x5_1).f2) ((rd_T53 l1 x5_1).f0) ((rd_T53 l1 x5_1).f1) ((rd_T53 l1 x5_1).f2) false _ A7.out).mono ?_
        rintro e w12 ⟨rfl, hb⟩; refine ⟨_, rfl, ?_⟩; have n0_ := Aside0.mk (below_step (by repeat (first | (with_reducible first | exact HB.out | apply below_alloc | apply pw_below_drewN | apply below_drew1) | exact HB.out)) hb); clear HB; have HB := n0_; clear n0_; (try clear hb); (try clear hb2); (try clear hk); (try clear hi); refine hK.out _ _ ⟨((HB.out.cell (World.block_lt_of_cell? w _ hw636_0)).trans hw636_0), ((HB.out.cell (World.block_lt_of_cell? w _ hw636_1)).trans hw636_1), ((HB.out.cell (World.block_lt_of_cell? w _ hw636_2)).trans hw636_2), ((HB.out.cell (World.block_lt_of_cell? w _ hw637_0)).trans hw637_0), ((HB.out.cell (World.block_lt_of_cell? w _ hw637_1)).trans hw637_1), ((HB.out.cell (World.block_lt_of_cell? w _ hw637_2)).trans hw637_2)⟩ (fun hHeld => ?_); clear hK K; refine norm_ (a' := ?_) ?_ ?_; rotate_left
        ·
         show Act.put _ (some 25) _ = _; simp only [Act.put, q30s, q30z, q30n, i64_w, i32_w]; rfl
        refine pure_ (i := 9) (N := some 26) (v := ?_) (a' := ?_) q30M10 rfl rfl (any_of HT_.out (by kernel_rfl)) (fun _ _ _ => id) (Or.inl ⟨by rfl, ?_⟩) ?_ ?_; rotate_left; intro w'; go_simp; (with_reducible rfl); rotate_left; simp only [Act.put, q30s, q30z, q30n, i64_w, i32_w]; rfl; refine done_ (done_of HT_.out (by kernel_rfl)) ?_; (try go_wp2); go_ret; exact ⟨by first | rfl | (simp [errW_none, errW_some] <;> rfl) | (simp [*, errW_none, errW_some] <;> rfl), by repeat (first | (with_reducible first | exact HB.out | apply below_alloc | apply pw_below_drewN | apply below_drew1) | exact HB.out)⟩
      ·
       rw [if_neg c6] at H; exact absurd H (by simp)
     ·
      rw [if_neg c5] at H; exact absurd H (by simp)
    ·
     rw [if_neg c4] at H; have c4b0 : decide (x5_1 < (l0.length : Int)) = false := decide_eq_false c4; clear c4; obtain rfl := Option.some.inj H; go_wp2; go_ret; exact ⟨by first | rfl | (simp [errW_none, errW_some] <;> rfl) | (simp [*, errW_none, errW_some] <;> rfl), by repeat (first | (with_reducible first | exact HB.out | apply below_alloc | apply pw_below_drewN | apply below_drew1) | exact HB.out)⟩
 ·
  rw [if_neg c3] at H; have c3b0 : ((l0.length : Int) == (l1.length : Int)) = false := beq_eq_false_iff_ne.mpr c3; have c3b1 : ((l0.length : Int) != (l1.length : Int)) = true := bne_iff_ne.mpr c3; have c3b2 : (l0.length == l1.length) = false := by first | simpa using c3 | (simp at c3 ⊢; omega)
  obtain rfl := Option.some.inj H; go_enter Try.func39, Try.ntmps39; go_wp2; go_ret; exact ⟨by first | rfl | (simp [errW_none, errW_some] <;> rfl) | (simp [*, errW_none, errW_some] <;> rfl), by repeat (first | (with_reducible first | exact HB.out | apply below_alloc | apply pw_below_drewN | apply below_drew1) | exact HB.out)⟩
theorem q31s {α : Type} (l : List α) (i : Nat) (a : α) : l.toArray.setIfInBounds i a = (l.set i a).toArray := List.setIfInBounds_toArray ..
theorem q31z {α : Type} (a : α) (l : List α) (b : α) : (a :: l).set 0 b = b :: l := List.set_cons_zero ..
theorem q31n {α : Type} (a : α) (l : List α) (i : Nat) (b : α) : (a :: l).set (i + 1) b = a :: l.set i b := List.set_cons_succ ..
def laws_markRunS.l0 : Nat → List (S53) → Int → Int → Option (Int × (List (S53)))
 | 0, _, _, _ => none
 | k + 1, x0, x1, x5 => if x5 < (x0.length : Int) then (if 0 ≤ x5 then ((some (x0.set (x5 : Int).toNat (⟨x1, (rd_T53 x0 x5).f1, (rd_T53 x0 x5).f2⟩ : S53) : List (S53))).bind fun y639 => ((some (y639.set (x5 : Int).toNat (⟨(rd_T53 y639 x5).f0, wrap64 (x1 + 1), (rd_T53 y639 x5).f2⟩ : S53) : List (S53))).bind fun y640 => (laws_markRunS.l0 k (y640.set (x5 : Int).toNat (⟨(rd_T53 y640 x5).f0, (rd_T53 y640 x5).f1, wrap64 ((wrap64 (x1 + 1)) + 1)⟩ : S53)) (wrap64 ((wrap64 ((wrap64 (x1 + 1)) + 1)) + 1)) (wrap64 (x5 + 1))))) else (none)) else (some (x1, x0))
def laws_markRunS.f (k : Nat) (l0 : List (S53)) (a1 : Int) : Option (Int × (List (S53))) := laws_markRunS.l0 k l0 a1 0
theorem laws_markRunS.mono_l : ∀ k, (∀ y0 y1 y2, LeO (laws_markRunS.l0 k y0 y1 y2) (laws_markRunS.l0 (k + 1) y0 y1 y2))
 | 0 => fun _ _ _ r h => by simp [laws_markRunS.l0] at h
 | k + 1 => by
  have ih0 := laws_markRunS.mono_l k
  ·
   intro y0 y1 y2; unfold laws_markRunS.l0
   repeat' first
   | (with_reducible exact ih0 _ _ _)
   | (with_reducible exact LeO.refl _)
   | (with_reducible exact LeO.none _)
   | (with_reducible refine LeO.ite ?_ ?_)
   | (with_reducible refine LeO.bind ?_ (fun _ => ?_))
   | exact ih0 _ _ _
   | exact LeO.none _
   | refine LeO.ite ?_ ?_
   | refine LeO.bind ?_ (fun _ => ?_)
theorem laws_markRunS.mono : ∀ a0 a1 k, LeO (laws_markRunS.f k a0 a1) (laws_markRunS.f (k + 1) a0 a1) := by
 intro a0 a1 k; have ih0 := laws_markRunS.mono_l k; unfold laws_markRunS.f
 repeat' first
   | (with_reducible exact ih0 _ _ _)
   | (with_reducible exact LeO.refl _)
   | (with_reducible exact LeO.none _)
   | (with_reducible refine LeO.ite ?_ ?_)
   | (with_reducible refine LeO.bind ?_ (fun _ => ?_))
   | exact ih0 _ _ _
   | exact LeO.none _
   | refine LeO.ite ?_ ?_
   | refine LeO.bind ?_ (fun _ => ?_)
set_option maxHeartbeats 8000000 in
set_option maxRecDepth 100000 in
theorem laws_markRunS.calls (k : Nat) (P0_ : Nat → Prop) (u9000_ : Value) (l0 : List (S53)) (a1 : Int) (r1 : Int) (r2 : List (S53)) (w0 w : World) (hB : Below w0.heap.size w0 w) (ho0 : Kd.R k53 53 w w0.heap.size P0_ u9000_ l0) (h : laws_markRunS.f k l0 a1 = some (r1, r2)) :
  Calls Try.prog 40 #[u9000_, .int .i64 a1] w fun e w' => e = .returned (.int .i64 r1) ∧ Kd.R k53 53 w' w0.heap.size (fun k_ => (P0_ k_ ∨ w.heap.size ≤ k_)) u9000_ r2 ∧ Below w0.heap.size w0 w' ∧ Kept w w' (fun k_ => P0_ k_) := by
 have HO0 := Aside0.mk (show Kd.R k53 53 w w0.heap.size (fun k_ => (P0_ k_ ∨ w.heap.size ≤ k_)) u9000_ l0 from Kd.R_mono ho0 (fun k_ hk => (.inl hk))); have HK := Aside0.mk (Kept.refl w (fun k_ => P0_ k_)); have HW0 := Aside0.mk hB.size; have HB := Aside0.mk hB; clear hB; have H : (laws_markRunS.l0 k l0 a1 0) = some (r1, r2) := h; clear h; have H' := Aside0.mk H; clear H; go_enter Try.func40, Try.ntmps40; go_wp2; go_loopg [1, 5] k (fun kq v1 v5 w' => ∃ (x0_1 : List (S53)) (x1_1 : Int) (x5_1 : Int), v1 = .int .i64 x1_1 ∧ v5 = .int .i64 x5_1 ∧ Aside0 (laws_markRunS.l0 kq x0_1 x1_1 x5_1 = some (r1, r2)) ∧ Aside0 (kq ≤ k) ∧ Aside0 (Kd.R k53 53 w' w0.heap.size (fun k_ => (P0_ k_ ∨ w.heap.size ≤ k_)) u9000_ x0_1) ∧ Aside0 (Kept w w' (fun k_ => P0_ k_)) ∧ Aside0 (Below w0.heap.size w0 w'))
 case atStart => exact ⟨(l0), (a1), (0), (by first | rfl | (simp; done) | (simp [*]; done)), (by first | rfl | (simp; done) | (simp [*]; done)), H', ⟨Nat.le_refl _⟩, ⟨by (with_reducible repeat (first | apply Kd.R_alloc | apply Kd.R_drewN | apply Kd.R_drew)); exact HO0.out⟩, ⟨by repeat (first | (with_reducible first | exact HK.out | apply Kept.alloc | apply Kept.drewN | apply Kept.drew) | exact HK.out)⟩, ⟨by repeat (first | (with_reducible first | exact HB.out | apply below_alloc | apply pw_below_drewN | apply below_drew1) | exact HB.out)⟩⟩
 case round =>
  clear H'; (try clear p2); obtain ⟨x0_1, x1_1, x5_1, rfl, rfl, HA, HK1, HO_0, HK, HB⟩ := hrel
  cases gk with
  | zero => exact absurd HA.out (by simp [laws_markRunS.l0])
  | succ k1 =>
   have H := HA.out; clear HA; simp only [laws_markRunS.l0] at H; by_cases c3 : x5_1 < (x0_1.length : Int)
   ·
    rw [if_pos c3] at H; have c3b0 : decide (x5_1 < (x0_1.length : Int)) = true := decide_eq_true c3; clear c3; by_cases c4 : 0 ≤ x5_1
    ·
     rw [if_pos c4] at H; have c4b0 : decide (0 ≤ x5_1) = true := decide_eq_true c4; clear c4; obtain ⟨y639, hy639⟩ : ∃ y_ : List (S53), y_ = (x0_1.set (x5_1 : Int).toNat (⟨x1_1, (rd_T53 x0_1 x5_1).f1, (rd_T53 x0_1 x5_1).f2⟩ : S53)) := ⟨_, rfl⟩; replace H : ((some (y639.set (x5_1 : Int).toNat (⟨(rd_T53 y639 x5_1).f0, wrap64 (x1_1 + 1), (rd_T53 y639 x5_1).f2⟩ : S53) : List (S53))).bind fun y640 => (laws_markRunS.l0 k1 (y640.set (x5_1 : Int).toNat (⟨(rd_T53 y640 x5_1).f0, (rd_T53 y640 x5_1).f1, wrap64 ((wrap64 (x1_1 + 1)) + 1)⟩ : S53)) (wrap64 ((wrap64 ((wrap64 (x1_1 + 1)) + 1)) + 1)) (wrap64 (x5_1 + 1)))) = some (r1, r2) := by first | (rw [hy639]; with_reducible exact H) | (have H2_ := (Option.bind_some _ _).symm.trans H; rw [hy639]; with_reducible exact H2_) | (have H2_ := (Option.bind_some _ _).symm.trans H; with_reducible exact H2_) | with_reducible exact H | (rw [hy639]; exact H) | exact H
     have Ny639 := Aside0.mk hy639; clear hy639; obtain ⟨y640, hy640⟩ : ∃ y_ : List (S53), y_ = (y639.set (x5_1 : Int).toNat (⟨(rd_T53 y639 x5_1).f0, wrap64 (x1_1 + 1), (rd_T53 y639 x5_1).f2⟩ : S53)) := ⟨_, rfl⟩; replace H : (laws_markRunS.l0 k1 (y640.set (x5_1 : Int).toNat (⟨(rd_T53 y640 x5_1).f0, (rd_T53 y640 x5_1).f1, wrap64 ((wrap64 (x1_1 + 1)) + 1)⟩ : S53)) (wrap64 ((wrap64 ((wrap64 (x1_1 + 1)) + 1)) + 1)) (wrap64 (x5_1 + 1))) = some (r1, r2) := by first | (rw [hy640]; with_reducible exact H) | (have H2_ := (Option.bind_some _ _).symm.trans H; rw [hy640]; with_reducible exact H2_) | (have H2_ := (Option.bind_some _ _).symm.trans H; with_reducible exact H2_) | with_reducible exact H | (rw [hy640]; exact H) | exact H
     have Ny640 := Aside0.mk hy640; clear hy640; obtain ⟨y641, hy641⟩ : ∃ y_ : List (S53), y_ = (y640.set (x5_1 : Int).toNat (⟨(rd_T53 y640 x5_1).f0, (rd_T53 y640 x5_1).f1, wrap64 ((wrap64 (x1_1 + 1)) + 1)⟩ : S53)) := ⟨_, rfl⟩; replace H : (laws_markRunS.l0 k1 y641 (wrap64 ((wrap64 ((wrap64 (x1_1 + 1)) + 1)) + 1)) (wrap64 (x5_1 + 1))) = some (r1, r2) := by first | (rw [hy641]; with_reducible exact H) | (have H2_ := (Option.bind_some _ _).symm.trans H; rw [hy641]; with_reducible exact H2_) | (have H2_ := (Option.bind_some _ _).symm.trans H; with_reducible exact H2_) | with_reducible exact H | (rw [hy641]; exact H) | exact H
     have Ny641 := Aside0.mk hy641; clear hy641; have H' := Aside0.mk H; clear H; obtain ⟨Ao8, co8, eo8⟩ := Kd.R_slice HO_0.out; subst eo8; have p5 : 0 ≤ (x5_1 : Int) := of_decide_eq_true (by first | (with_reducible assumption) | assumption); have q5 : (x5_1 : Int) < ((x0_1.length : Int) : Int) := of_decide_eq_true (by first | (with_reducible assumption) | assumption); obtain ⟨go5, co5, eo5, gb5, gl5, cl5, HG5⟩ := Kd.R_form HO_0.out (by omega); (first | cases eo5 | (injection eo5 with ea_ en_ ec_; (first | subst ea_ | (injection ea_ with ea_; subst ea_)); subst ec_; clear en_)); have GB5 := Aside0.mk gb5; have GG5 := Aside0.mk HG5; clear gb5 gl5 HG5; have HMgo5 := Aside0.mk (show (P0_ go5 ∨ w.heap.size ≤ go5) from (HO_0.out.1 _ rfl)); obtain ⟨ce5, hcl5, hM5, hcc5, hfr5⟩ := Kd.R_elem HO_0.out z53 (x5_1 : Int) p5 q5; obtain rfl := k53_openM hM5; have hx5_0 : wr.cell? ⟨go5, (x5_1 : Int).toNat * 3, none⟩ = some (.int .i64 ((rd_T53 x0_1 x5_1).f0)) := hcc5 0 _ rfl; have hx5_1 : wr.cell? ⟨go5, (x5_1 : Int).toNat * 3 + 1, none⟩ = some (.int .i64 ((rd_T53 x0_1 x5_1).f1)) := hcc5 1 _ rfl; have hx5_2 : wr.cell? ⟨go5, (x5_1 : Int).toNat * 3 + 2, none⟩ = some (.int .i64 ((rd_T53 x0_1 x5_1).f2)) := hcc5 2 _ rfl; have hf5_0 : wr.frozen? ⟨go5, (x5_1 : Int).toNat * 3, none⟩ = false := hfr5 0; have hf5_1 : wr.frozen? ⟨go5, (x5_1 : Int).toNat * 3 + 1, none⟩ = false := hfr5 1; have hf5_2 : wr.frozen? ⟨go5, (x5_1 : Int).toNat * 3 + 2, none⟩ = false := hfr5 2; clear hcl5 hcc5 hfr5 hM5; replace p5 := eq_true p5; replace q5 := eq_true q5; have HX9 := Aside0.mk (show Kd.R k53 53 wr w0.heap.size (fun k_ => (P0_ k_ ∨ w.heap.size ≤ k_)) (.slice (some ⟨go5, 0, none⟩) x0_1.length co8) x0_1 from (by (with_reducible repeat (first | apply Kd.R_alloc | apply Kd.R_drewN | apply Kd.R_drew)); exact HO_0.out)); obtain ⟨ce9, hcl9, hM9, hcc9, hfr9⟩ := Kd.R_elem HX9.out z53 (x5_1 : Int) (of_decide_eq_true (by first | (with_reducible assumption) | assumption)) (by have h_ : (x5_1 : Int) < ((x0_1.length : Int) : Int) := of_decide_eq_true (by first | (with_reducible assumption) | assumption); first | exact h_ | (have e_ := (Kd.R_reads' HO_0.out).1; omega) | simpa using h_); obtain rfl := k53_openM hM9; have HP9 := Kd.R_seg HX9.out (x5_1 : Int) (of_decide_eq_true (by first | (with_reducible assumption) | assumption)) (by have h_ : (x5_1 : Int) < ((x0_1.length : Int) : Int) := of_decide_eq_true (by first | (with_reducible assumption) | assumption); first | exact h_ | (have e_ := (Kd.R_reads' HO_0.out).1; omega) | simpa using h_) (seg := [.int .i64 x1_1]) (j := 0) hcl9 hcc9 (show 1 ≤ 3 from by decide) (x' := (⟨x1_1, (rd_T53 x0_1 x5_1).f1, (rd_T53 x0_1 x5_1).f2⟩ : S53)) (k53_mkM _ _ _ (⟨x1_1, (rd_T53 x0_1 x5_1).f1, (rd_T53 x0_1 x5_1).f2⟩ : S53) ) (fun _ hk => hk); have hx9_0 := hcc9 0 _ rfl; (try simp only [show (k53).sz = 3 from rfl, Nat.mul_one, Nat.add_zero] at hx9_0); have hf9_0 := hfr9 0; (try simp only [show (k53).sz = 3 from rfl, Nat.mul_one, Nat.add_zero] at hf9_0); clear hcl9 hcc9 hfr9 hM9; go_wp2_with (first | ((with_reducible refine gate_store (t := 3) (p := 16) rfl ?_); refine store_event (t := 3) (p := 16) (v := ?vo_w10) (w1 := (wr.setCell ⟨go5, (x5_1 : Int).toNat * 3, none⟩ (.int .i64 x1_1))) ?hg ?ho ?hn ?hr ?_; (case ho => rfl); (case hg => rfl); (case hn => rfl); (case hr => first | (go_simp; done) | (go_simp; rfl)); intro w10 hw; have hg : wr.grownBy w10 (some go5) := (by rw [hw]; exact HP9.2); have hp_ : Kd.R k53 53 w10 w0.heap.size (fun k_ => (P0_ k_ ∨ w.heap.size ≤ k_)) (.slice (some ⟨go5, 0, none⟩) x0_1.length co8) y639 := (by rw [hw, Ny639.out]; exact HP9.1); clear HP9; have n0_ := Aside0.mk (hp_); have n1_ := Aside0.mk ((by rw [hw]; exact below_set (HB.out) GB5.out : Below w0.heap.size w0 w10)); have n2_ := Aside0.mk (Kept.of_grown (S := (fun k_ => P0_ k_)) hg (by repeat (first | (with_reducible first | exact HK.out | apply Kept.alloc | apply Kept.drewN | apply Kept.drew) | exact HK.out)) (fun k_ e_ => (HO_0.out.1 k_ e_))); clear HO_0; clear HB; clear HK; have HO_0 := n0_; have HB := n1_; have HK := n2_; clear n0_ n1_ n2_; clear hg hw hp_; have p6 : 0 ≤ (x5_1 : Int) := of_decide_eq_true (by first | (with_reducible assumption) | assumption); have q6 : (x5_1 : Int) < ((x0_1.length : Int) : Int) := of_decide_eq_true (by first | (with_reducible assumption) | assumption); obtain ⟨ce6, hcl6, hM6, hcc6, hfr6⟩ := Kd.R_elem HO_0.out z53 (x5_1 : Int) p6 q6; obtain rfl := k53_openM hM6; have hx6_0 : w10.cell? ⟨go5, (x5_1 : Int).toNat * 3, none⟩ = some (.int .i64 ((rd_T53 y639 x5_1).f0)) := hcc6 0 _ rfl; have hx6_1 : w10.cell? ⟨go5, (x5_1 : Int).toNat * 3 + 1, none⟩ = some (.int .i64 ((rd_T53 y639 x5_1).f1)) := hcc6 1 _ rfl; have hx6_2 : w10.cell? ⟨go5, (x5_1 : Int).toNat * 3 + 2, none⟩ = some (.int .i64 ((rd_T53 y639 x5_1).f2)) := hcc6 2 _ rfl; have hf6_0 : w10.frozen? ⟨go5, (x5_1 : Int).toNat * 3, none⟩ = false := hfr6 0; have hf6_1 : w10.frozen? ⟨go5, (x5_1 : Int).toNat * 3 + 1, none⟩ = false := hfr6 1; have hf6_2 : w10.frozen? ⟨go5, (x5_1 : Int).toNat * 3 + 2, none⟩ = false := hfr6 2; clear hcl6 hcc6 hfr6 hM6; replace p6 := eq_true p6; replace q6 := eq_true q6; have HX11 := Aside0.mk (show Kd.R k53 53 w10 w0.heap.size (fun k_ => (P0_ k_ ∨ w.heap.size ≤ k_)) (.slice (some ⟨go5, 0, none⟩) x0_1.length co8) y639 from (by (with_reducible repeat (first | apply Kd.R_alloc | apply Kd.R_drewN | apply Kd.R_drew)); exact HO_0.out)); obtain ⟨ce11, hcl11, hM11, hcc11, hfr11⟩ := Kd.R_elem HX11.out z53 (x5_1 : Int) (of_decide_eq_true (by first | (with_reducible assumption) | assumption)) (by have h_ : (x5_1 : Int) < ((x0_1.length : Int) : Int) := of_decide_eq_true (by first | (with_reducible assumption) | assumption); first | exact h_ | (have e_ := (Kd.R_reads' HO_0.out).1; omega) | simpa using h_); obtain rfl := k53_openM hM11; have HP11 := Kd.R_seg HX11.out (x5_1 : Int) (of_decide_eq_true (by first | (with_reducible assumption) | assumption)) (by have h_ : (x5_1 : Int) < ((x0_1.length : Int) : Int) := of_decide_eq_true (by first | (with_reducible assumption) | assumption); first | exact h_ | (have e_ := (Kd.R_reads' HO_0.out).1; omega) | simpa using h_) (seg := [.int .i64 (wrap64 (x1_1 + 1))]) (j := 1) hcl11 hcc11 (show 2 ≤ 3 from by decide) (x' := (⟨(rd_T53 y639 x5_1).f0, wrap64 (x1_1 + 1), (rd_T53 y639 x5_1).f2⟩ : S53)) (k53_mkM _ _ _ (⟨(rd_T53 y639 x5_1).f0, wrap64 (x1_1 + 1), (rd_T53 y639 x5_1).f2⟩ : S53) ) (fun _ hk => hk); have hx11_1 := hcc11 1 _ rfl; (try simp only [show (k53).sz = 3 from rfl, Nat.mul_one, Nat.add_zero] at hx11_1); have hf11_1 := hfr11 1; (try simp only [show (k53).sz = 3 from rfl, Nat.mul_one, Nat.add_zero] at hf11_1); clear hcl11 hcc11 hfr11 hM11) | ((with_reducible refine gate_store (t := 3) (p := 23) rfl ?_); refine store_event (t := 3) (p := 23) (v := ?vo_w12) (w1 := (w10.setCell ⟨go5, (x5_1 : Int).toNat * 3 + 1, none⟩ (.int .i64 (wrap64 (x1_1 + 1))))) ?hg ?ho ?hn ?hr ?_; (case ho => rfl); (case hg => rfl); (case hn => rfl); (case hr => first | (go_simp; done) | (go_simp; rfl)); intro w12 hw; have hg : w10.grownBy w12 (some go5) := (by rw [hw]; exact HP11.2); have hp_ : Kd.R k53 53 w12 w0.heap.size (fun k_ => (P0_ k_ ∨ w.heap.size ≤ k_)) (.slice (some ⟨go5, 0, none⟩) x0_1.length co8) y640 := (by rw [hw, Ny640.out]; exact HP11.1); clear HP11; have n0_ := Aside0.mk (hp_); have n1_ := Aside0.mk ((by rw [hw]; exact below_set (HB.out) GB5.out : Below w0.heap.size w0 w12)); have n2_ := Aside0.mk (Kept.of_grown (S := (fun k_ => P0_ k_)) hg (by repeat (first | (with_reducible first | exact HK.out | apply Kept.alloc | apply Kept.drewN | apply Kept.drew) | exact HK.out)) (fun k_ e_ => (HO_0.out.1 k_ e_))); clear HO_0; clear HB; clear HK; have HO_0 := n0_; have HB := n1_; have HK := n2_; clear n0_ n1_ n2_; clear hg hw hp_; have p7 : 0 ≤ (x5_1 : Int) := of_decide_eq_true (by first | (with_reducible assumption) | assumption); have q7 : (x5_1 : Int) < ((x0_1.length : Int) : Int) := of_decide_eq_true (by first | (with_reducible assumption) | assumption); obtain ⟨ce7, hcl7, hM7, hcc7, hfr7⟩ := Kd.R_elem HO_0.out z53 (x5_1 : Int) p7 q7; obtain rfl := k53_openM hM7; have hx7_0 : w12.cell? ⟨go5, (x5_1 : Int).toNat * 3, none⟩ = some (.int .i64 ((rd_T53 y640 x5_1).f0)) := hcc7 0 _ rfl; have hx7_1 : w12.cell? ⟨go5, (x5_1 : Int).toNat * 3 + 1, none⟩ = some (.int .i64 ((rd_T53 y640 x5_1).f1)) := hcc7 1 _ rfl; have hx7_2 : w12.cell? ⟨go5, (x5_1 : Int).toNat * 3 + 2, none⟩ = some (.int .i64 ((rd_T53 y640 x5_1).f2)) := hcc7 2 _ rfl; have hf7_0 : w12.frozen? ⟨go5, (x5_1 : Int).toNat * 3, none⟩ = false := hfr7 0; have hf7_1 : w12.frozen? ⟨go5, (x5_1 : Int).toNat * 3 + 1, none⟩ = false := hfr7 1; have hf7_2 : w12.frozen? ⟨go5, (x5_1 : Int).toNat * 3 + 2, none⟩ = false := hfr7 2; clear hcl7 hcc7 hfr7 hM7; replace p7 := eq_true p7; replace q7 := eq_true q7; have HX13 := Aside0.mk (show Kd.R k53 53 w12 w0.heap.size (fun k_ => (P0_ k_ ∨ w.heap.size ≤ k_)) (.slice (some ⟨go5, 0, none⟩) x0_1.length co8) y640 from (by (with_reducible repeat (first | apply Kd.R_alloc | apply Kd.R_drewN | apply Kd.R_drew)); exact HO_0.out)); obtain ⟨ce13, hcl13, hM13, hcc13, hfr13⟩ := Kd.R_elem HX13.out z53 (x5_1 : Int) (of_decide_eq_true (by first | (with_reducible assumption) | assumption)) (by have h_ : (x5_1 : Int) < ((x0_1.length : Int) : Int) := of_decide_eq_true (by first | (with_reducible assumption) | assumption); first | exact h_ | (have e_ := (Kd.R_reads' HO_0.out).1; omega) | simpa using h_); obtain rfl := k53_openM hM13; have HP13 := Kd.R_seg HX13.out (x5_1 : Int) (of_decide_eq_true (by first | (with_reducible assumption) | assumption)) (by have h_ : (x5_1 : Int) < ((x0_1.length : Int) : Int) := of_decide_eq_true (by first | (with_reducible assumption) | assumption); first | exact h_ | (have e_ := (Kd.R_reads' HO_0.out).1; omega) | simpa using h_) (seg := [.int .i64 (wrap64 ((wrap64 (x1_1 + 1)) + 1))]) (j := 2) hcl13 hcc13 (show 3 ≤ 3 from by decide) (x' := (⟨(rd_T53 y640 x5_1).f0, (rd_T53 y640 x5_1).f1, wrap64 ((wrap64 (x1_1 + 1)) + 1)⟩ : S53)) (k53_mkM _ _ _ (⟨(rd_T53 y640 x5_1).f0, (rd_T53 y640 x5_1).f1, wrap64 ((wrap64 (x1_1 + 1)) + 1)⟩ : S53) ) (fun _ hk => hk); have hx13_2 := hcc13 2 _ rfl; (try simp only [show (k53).sz = 3 from rfl, Nat.mul_one, Nat.add_zero] at hx13_2); have hf13_2 := hfr13 2; (try simp only [show (k53).sz = 3 from rfl, Nat.mul_one, Nat.add_zero] at hf13_2); clear hcl13 hcc13 hfr13 hM13) | ((with_reducible refine gate_store (t := 3) (p := 30) rfl ?_); refine store_event (t := 3) (p := 30) (v := ?vo_w14) (w1 := (w12.setCell ⟨go5, (x5_1 : Int).toNat * 3 + 2, none⟩ (.int .i64 (wrap64 ((wrap64 (x1_1 + 1)) + 1))))) ?hg ?ho ?hn ?hr ?_; (case ho => rfl); (case hg => rfl); (case hn => rfl); (case hr => first | (go_simp; done) | (go_simp; rfl)); intro w14 hw; have hg : w12.grownBy w14 (some go5) := (by rw [hw]; exact HP13.2); have hp_ : Kd.R k53 53 w14 w0.heap.size (fun k_ => (P0_ k_ ∨ w.heap.size ≤ k_)) (.slice (some ⟨go5, 0, none⟩) x0_1.length co8) y641 := (by rw [hw, Ny641.out]; exact HP13.1); clear HP13; have n0_ := Aside0.mk (hp_); have n1_ := Aside0.mk ((by rw [hw]; exact below_set (HB.out) GB5.out : Below w0.heap.size w0 w14)); have n2_ := Aside0.mk (Kept.of_grown (S := (fun k_ => P0_ k_)) hg (by repeat (first | (with_reducible first | exact HK.out | apply Kept.alloc | apply Kept.drewN | apply Kept.drew) | exact HK.out)) (fun k_ e_ => (HO_0.out.1 k_ e_))); clear HO_0; clear HB; clear HK; have HO_0 := n0_; have HB := n1_; have HK := n2_; clear n0_ n1_ n2_; clear hg hw hp_))
     go_roundg k1
     case measure => have := HK1.out; omega
     case rel => exact ⟨(y641), (wrap64 ((wrap64 ((wrap64 (x1_1 + 1)) + 1)) + 1)), (wrap64 (x5_1 + 1)), (by first | rfl | (simp; done) | (simp [*]; done)), (by first | rfl | (simp; done) | (simp [*]; done)), H', ⟨by have := HK1.out; omega⟩, ⟨by (with_reducible repeat (first | apply Kd.R_alloc | apply Kd.R_drewN | apply Kd.R_drew)); exact HO_0.out⟩, ⟨by repeat (first | (with_reducible first | exact HK.out | apply Kept.alloc | apply Kept.drewN | apply Kept.drew) | exact HK.out)⟩, ⟨by repeat (first | (with_reducible first | exact HB.out | apply below_alloc | apply pw_below_drewN | apply below_drew1) | exact HB.out)⟩⟩
    ·
     rw [if_neg c4] at H; exact absurd H (by simp)
   ·
    rw [if_neg c3] at H; have c3b0 : decide (x5_1 < (x0_1.length : Int)) = false := decide_eq_false c3; clear c3; simp only [Option.some.injEq, Prod.mk.injEq] at H; obtain ⟨rfl, rfl⟩ := H; obtain ⟨Ao15, co15, eo15⟩ := Kd.R_slice HO_0.out; subst eo15; go_wp2; go_ret; exact ⟨by first | rfl | (simp [errW_none, errW_some] <;> rfl) | (simp [*, errW_none, errW_some] <;> rfl), by (with_reducible repeat (first | apply Kd.R_alloc | apply Kd.R_drewN | apply Kd.R_drew)); exact HO_0.out, by repeat (first | (with_reducible first | exact HB.out | apply below_alloc | apply pw_below_drewN | apply below_drew1) | exact HB.out), by repeat (first | (with_reducible first | exact HK.out | apply Kept.alloc | apply Kept.drewN | apply Kept.drew) | exact HK.out)⟩
def laws_heldRunS.l0 : Nat → List (S53) → Int → Int → Option (Int)
  | 0, _, _, _ => none
  | k + 1, x0, x1, x5 => if x5 < (x0.length : Int) then (if 0 ≤ x5 then (if ((rd_T53 x0 x5).f0) = x1 then (if ((rd_T53 x0 x5).f1) = (wrap64 (x1 + 1)) then (if ((rd_T53 x0 x5).f2) = (wrap64 ((wrap64 (x1 + 1)) + 1)) then (laws_heldRunS.l0 k x0 (wrap64 ((wrap64 ((wrap64 (x1 + 1)) + 1)) + 1)) (wrap64 (x5 + 1))) else (some (-1))) else (some (-1))) else (some (-1))) else (none)) else (some x1)
def laws_heldRunS.f (k : Nat) (l0 : List (S53)) (a1 : Int) : Option (Int) := laws_heldRunS.l0 k l0 a1 0
theorem laws_heldRunS.mono_l : ∀ k, (∀ y0 y1 y2, LeO (laws_heldRunS.l0 k y0 y1 y2) (laws_heldRunS.l0 (k + 1) y0 y1 y2))
  | 0 => fun _ _ _ r h => by simp [laws_heldRunS.l0] at h
  | k + 1 => by
    have ih0 := laws_heldRunS.mono_l k
    · intro y0 y1 y2
      unfold laws_heldRunS.l0
      repeat' first
      | (with_reducible exact ih0 _ _ _)
      | (with_reducible exact LeO.refl _)
      | (with_reducible exact LeO.none _)
      | (with_reducible refine LeO.ite ?_ ?_)
      | (with_reducible refine LeO.bind ?_ (fun _ => ?_))
      | exact ih0 _ _ _
      | exact LeO.none _
      | refine LeO.ite ?_ ?_
      | refine LeO.bind ?_ (fun _ => ?_)
theorem laws_heldRunS.mono : ∀ a0 a1 k, LeO (laws_heldRunS.f k a0 a1) (laws_heldRunS.f (k + 1) a0 a1) := by
  intro a0 a1 k
  have ih0 := laws_heldRunS.mono_l k
  unfold laws_heldRunS.f
  repeat' first
      | (with_reducible exact ih0 _ _ _)
      | (with_reducible exact LeO.refl _)
      | (with_reducible exact LeO.none _)
      | (with_reducible refine LeO.ite ?_ ?_)
      | (with_reducible refine LeO.bind ?_ (fun _ => ?_))
      | exact ih0 _ _ _
      | exact LeO.none _
      | refine LeO.ite ?_ ?_
      | refine LeO.bind ?_ (fun _ => ?_)
set_option maxHeartbeats 8000000 in
set_option maxRecDepth 100000 in
theorem laws_heldRunS.calls (k : Nat) (A0 : Option Addr) (c0 : Nat) (l0 : List (S53)) (a1 : Int) (r : Int) (w : World) (hr0 : Kd.C k53 w A0 l0.length l0) (hc0 : l0.length ≤ c0) (h : laws_heldRunS.f k l0 a1 = some r) :
    Calls Try.prog 41 #[.slice A0 l0.length c0, .int .i64 a1] w fun e w' => e = .returned (.int .i64 r) ∧ Drawn0 w w' := by
  have HR0 := Aside0.mk hr0
  have HC0 := Aside0.mk hc0
  clear hr0 hc0
  have H : (laws_heldRunS.l0 k l0 a1 0) = some r := h
  clear h
  have H' := Aside0.mk H
  clear H
  go_enter Try.func41, Try.ntmps41
  go_wp2
  go_loopg [1, 5] k (fun kq v1 v5 w' => ∃ (x1_1 : Int) (x5_1 : Int), v1 = .int .i64 x1_1 ∧ v5 = .int .i64 x5_1 ∧ Aside0 (laws_heldRunS.l0 kq l0 x1_1 x5_1 = some r) ∧ Aside0 (kq ≤ k) ∧ Drawn0 w w')
  case atStart => exact ⟨(a1), (0), (by first | rfl | (simp; done) | (simp [*]; done)), (by first | rfl | (simp; done) | (simp [*]; done)), H', ⟨Nat.le_refl _⟩, by repeat (first | exact Drawn0.refl _ | apply Drawn0.step)⟩
  case round =>
    clear H'
    try clear p2
    obtain ⟨x1_1, x5_1, rfl, rfl, HA, HK1, ⟨m1, rfl⟩⟩ := hrel
    cases gk with
    | zero => exact absurd HA.out (by simp [laws_heldRunS.l0])
    | succ k1 =>
      have H := HA.out
      clear HA
      simp only [laws_heldRunS.l0] at H
      by_cases c3 : x5_1 < (l0.length : Int)
      · rw [if_pos c3] at H
        have c3b0 : decide (x5_1 < (l0.length : Int)) = true := decide_eq_true c3
        clear c3
        by_cases c4 : 0 ≤ x5_1
        · rw [if_pos c4] at H
          have c4b0 : decide (0 ≤ x5_1) = true := decide_eq_true c4
          clear c4
          by_cases c5 : ((rd_T53 l0 x5_1).f0) = x1_1
          · rw [if_pos c5] at H
            have c5b0 : (((rd_T53 l0 x5_1).f0) == x1_1) = true := beq_iff_eq.mpr c5
            have c5b1 : (((rd_T53 l0 x5_1).f0) != x1_1) = false := bne_eq_false_iff_eq.mpr c5
            clear c5
            by_cases c6 : ((rd_T53 l0 x5_1).f1) = (wrap64 (x1_1 + 1))
            · rw [if_pos c6] at H
              have c6b0 : (((rd_T53 l0 x5_1).f1) == (wrap64 (x1_1 + 1))) = true := beq_iff_eq.mpr c6
              have c6b1 : (((rd_T53 l0 x5_1).f1) != (wrap64 (x1_1 + 1))) = false := bne_eq_false_iff_eq.mpr c6
              clear c6
              by_cases c7 : ((rd_T53 l0 x5_1).f2) = (wrap64 ((wrap64 (x1_1 + 1)) + 1))
              · rw [if_pos c7] at H
                have c7b0 : (((rd_T53 l0 x5_1).f2) == (wrap64 ((wrap64 (x1_1 + 1)) + 1))) = true := beq_iff_eq.mpr c7
                have c7b1 : (((rd_T53 l0 x5_1).f2) != (wrap64 ((wrap64 (x1_1 + 1)) + 1))) = false := bne_eq_false_iff_eq.mpr c7
                clear c7
                have H' := Aside0.mk H
                clear H
                have p642 : 0 ≤ (x5_1 : Int) := of_decide_eq_true (by first | (with_reducible assumption) | assumption)
                have q642 : x5_1 < (l0.length : Int) := of_decide_eq_true (by first | (with_reducible assumption) | assumption)
                obtain ⟨ad642, e642, hx642_0, hx642_1, hx642_2⟩ := at_T53 HR0.out x5_1 p642 q642
                cases e642
                replace p642 := eq_true p642
                replace q642 := eq_true q642
                have p643 : 0 ≤ (x5_1 : Int) := of_decide_eq_true (by first | (with_reducible assumption) | assumption)
                have q643 : x5_1 < (l0.length : Int) := of_decide_eq_true (by first | (with_reducible assumption) | assumption)
                obtain ⟨ad643, e643, hx643_0, hx643_1, hx643_2⟩ := at_T53 HR0.out x5_1 p643 q643
                obtain rfl : ad642 = ad643 := (by injection e643)
                replace p643 := eq_true p643
                replace q643 := eq_true q643
                have p644 : 0 ≤ (x5_1 : Int) := of_decide_eq_true (by first | (with_reducible assumption) | assumption)
                have q644 : x5_1 < (l0.length : Int) := of_decide_eq_true (by first | (with_reducible assumption) | assumption)
                obtain ⟨ad644, e644, hx644_0, hx644_1, hx644_2⟩ := at_T53 HR0.out x5_1 p644 q644
                obtain rfl : ad642 = ad644 := (by injection e644)
                replace p644 := eq_true p644
                replace q644 := eq_true q644
                go_wp2
                go_roundg k1
                case measure => have := HK1.out; omega
                case rel => exact ⟨(wrap64 ((wrap64 ((wrap64 (x1_1 + 1)) + 1)) + 1)), (wrap64 (x5_1 + 1)), (by first | rfl | (simp; done) | (simp [*]; done)), (by first | rfl | (simp; done) | (simp [*]; done)), H', ⟨by have := HK1.out; omega⟩, by repeat (first | exact Drawn0.refl _ | apply Drawn0.step)⟩
              · rw [if_neg c7] at H
                have c7b0 : (((rd_T53 l0 x5_1).f2) == (wrap64 ((wrap64 (x1_1 + 1)) + 1))) = false := beq_eq_false_iff_ne.mpr c7
                have c7b1 : (((rd_T53 l0 x5_1).f2) != (wrap64 ((wrap64 (x1_1 + 1)) + 1))) = true := bne_iff_ne.mpr c7
                obtain rfl := Option.some.inj H
                have p642 : 0 ≤ (x5_1 : Int) := of_decide_eq_true (by first | (with_reducible assumption) | assumption)
                have q642 : x5_1 < (l0.length : Int) := of_decide_eq_true (by first | (with_reducible assumption) | assumption)
                obtain ⟨ad642, e642, hx642_0, hx642_1, hx642_2⟩ := at_T53 HR0.out x5_1 p642 q642
                cases e642
                replace p642 := eq_true p642
                replace q642 := eq_true q642
                have p643 : 0 ≤ (x5_1 : Int) := of_decide_eq_true (by first | (with_reducible assumption) | assumption)
                have q643 : x5_1 < (l0.length : Int) := of_decide_eq_true (by first | (with_reducible assumption) | assumption)
                obtain ⟨ad643, e643, hx643_0, hx643_1, hx643_2⟩ := at_T53 HR0.out x5_1 p643 q643
                obtain rfl : ad642 = ad643 := (by injection e643)
                replace p643 := eq_true p643
                replace q643 := eq_true q643
                have p644 : 0 ≤ (x5_1 : Int) := of_decide_eq_true (by first | (with_reducible assumption) | assumption)
                have q644 : x5_1 < (l0.length : Int) := of_decide_eq_true (by first | (with_reducible assumption) | assumption)
                obtain ⟨ad644, e644, hx644_0, hx644_1, hx644_2⟩ := at_T53 HR0.out x5_1 p644 q644
                obtain rfl : ad642 = ad644 := (by injection e644)
                replace p644 := eq_true p644
                replace q644 := eq_true q644
                go_wp2
                go_ret
                exact ⟨by first | rfl | (simp; done) | (simp [*]; done), by repeat (first | exact Drawn0.refl _ | apply Drawn0.step)⟩
            · rw [if_neg c6] at H
              have c6b0 : (((rd_T53 l0 x5_1).f1) == (wrap64 (x1_1 + 1))) = false := beq_eq_false_iff_ne.mpr c6
              have c6b1 : (((rd_T53 l0 x5_1).f1) != (wrap64 (x1_1 + 1))) = true := bne_iff_ne.mpr c6
              obtain rfl := Option.some.inj H
              have p642 : 0 ≤ (x5_1 : Int) := of_decide_eq_true (by first | (with_reducible assumption) | assumption)
              have q642 : x5_1 < (l0.length : Int) := of_decide_eq_true (by first | (with_reducible assumption) | assumption)
              obtain ⟨ad642, e642, hx642_0, hx642_1, hx642_2⟩ := at_T53 HR0.out x5_1 p642 q642
              cases e642
              replace p642 := eq_true p642
              replace q642 := eq_true q642
              have p643 : 0 ≤ (x5_1 : Int) := of_decide_eq_true (by first | (with_reducible assumption) | assumption)
              have q643 : x5_1 < (l0.length : Int) := of_decide_eq_true (by first | (with_reducible assumption) | assumption)
              obtain ⟨ad643, e643, hx643_0, hx643_1, hx643_2⟩ := at_T53 HR0.out x5_1 p643 q643
              obtain rfl : ad642 = ad643 := (by injection e643)
              replace p643 := eq_true p643
              replace q643 := eq_true q643
              go_wp2
              go_ret
              exact ⟨by first | rfl | (simp; done) | (simp [*]; done), by repeat (first | exact Drawn0.refl _ | apply Drawn0.step)⟩
          · rw [if_neg c5] at H
            have c5b0 : (((rd_T53 l0 x5_1).f0) == x1_1) = false := beq_eq_false_iff_ne.mpr c5
            have c5b1 : (((rd_T53 l0 x5_1).f0) != x1_1) = true := bne_iff_ne.mpr c5
            obtain rfl := Option.some.inj H
            have p642 : 0 ≤ (x5_1 : Int) := of_decide_eq_true (by first | (with_reducible assumption) | assumption)
            have q642 : x5_1 < (l0.length : Int) := of_decide_eq_true (by first | (with_reducible assumption) | assumption)
            obtain ⟨ad642, e642, hx642_0, hx642_1, hx642_2⟩ := at_T53 HR0.out x5_1 p642 q642
            cases e642
            replace p642 := eq_true p642
            replace q642 := eq_true q642
            go_wp2
            go_ret
            exact ⟨by first | rfl | (simp; done) | (simp [*]; done), by repeat (first | exact Drawn0.refl _ | apply Drawn0.step)⟩
        · rw [if_neg c4] at H
          exact absurd H (by simp)
      · rw [if_neg c3] at H
        have c3b0 : decide (x5_1 < (l0.length : Int)) = false := decide_eq_false c3
        clear c3
        obtain rfl := Option.some.inj H
        go_wp2
        go_ret
        exact ⟨by first | rfl | (simp; done) | (simp [*]; done), by repeat (first | exact Drawn0.refl _ | apply Drawn0.step)⟩
end Go.Proofs.Ytoafenblaioopaa.S
/- Places of one level side by side, by both texts; and the laws' own helpers on runs. -/
namespace Go.Proofs.Ytoafenblaioopaa.Pure
open Go.RowKit Go.Proofs.Ytoafenblaioopaa.S Go.Proofs.YtoafenblaioopaaW.PrintWords Go.Proofs.YtoafenblaioopaaW.PrintLast
abbrev SR := S53
def lastR (out : List SR) : SR := out.getD (out.length - 1) z53
def rnStep (out : List SR) (i lv : Int) : List SR :=
  if out.length = 0 then out ++ [⟨i, i + 1, lv⟩] else if lv = -1 ∨ lv = (lastR out).f2 then out.set (out.length - 1) ⟨(lastR out).f0, i + 1, (lastR out).f2⟩
  else if (lastR out).f2 = -1 then out.set (out.length - 1) ⟨(lastR out).f0, i + 1, lv⟩ else out ++ [⟨i, i + 1, lv⟩]
def rnRun (out : List SR) (i : Int) : List Int → List SR
  | [] => out
  | lv :: l => rnRun (rnStep out i lv) (i + 1) l
theorem rnRun_at (out : List SR) (i : Nat) (l : List Int) (h : i < l.length) : rnRun out i (l.drop i) = rnRun (rnStep out i (l.getD i 0)) ((i + 1 : Nat) : Int) (l.drop (i + 1)) := by
  rw [List.drop_eq_getElem_cons h, rnRun]
  simp [List.getD_eq_getElem?_getD, h]
theorem rnStep_len (out : List SR) (i lv : Int) : (rnStep out i lv).length ≤ out.length + 1 := by
  unfold rnStep
  split
  · simp
  · split
    · simp
    · split <;> simp
theorem lastR_mem {out : List SR} (h : out.length ≠ 0) : lastR out ∈ out := by
  unfold lastR
  have : out.length - 1 < out.length := by omega
  simp [List.getD_eq_getElem?_getD, this]
theorem rnStep_ok {out : List SR} {i lv : Int} (h : ∀ r ∈ out, -1 ≤ r.f2) (hl : -1 ≤ lv) : ∀ r ∈ rnStep out i lv, -1 ≤ r.f2 := by
  intro r hr
  have happ : ∀ r ∈ out ++ [(⟨i, i + 1, lv⟩ : SR)], -1 ≤ r.f2 := by
    intro r hr
    rcases List.mem_append.1 hr with hr | hr
    · exact h r hr
    · rw [List.mem_singleton.1 hr]; exact hl
  unfold rnStep at hr
  split at hr
  · exact happ r hr
  · rename_i hne
    have hlast := h _ (lastR_mem hne)
    split at hr
    · rcases List.mem_or_eq_of_mem_set hr with hr | rfl
      · exact h r hr
      · exact hlast
    · split at hr
      · rcases List.mem_or_eq_of_mem_set hr with hr | rfl
        · exact h r hr
        · exact hl
      · exact happ r hr
theorem rdR (out : List SR) (h : out.length ≠ 0) : rd_T53 out ((out.length : Int) - 1) = lastR out := by
  unfold rd_T53 lastR
  rw [show ((out.length : Int) - 1).toNat = out.length - 1 by omega]
theorem rdSet (out : List SR) (x : SR) (h : out.length ≠ 0) : rd_T53 (out.set (out.length - 1) x) ((out.length : Int) - 1) = x := by
  unfold rd_T53
  rw [show ((out.length : Int) - 1).toNat = out.length - 1 by omega]
  have : out.length - 1 < out.length := by omega
  simp [List.getD_eq_getElem?_getD, this]
theorem specRuns_l (l : List Int) (hn : l.length ≤ 80) (hl : ∀ x ∈ l, -1 ≤ x) : ∀ (d i : Nat) (out : List SR), l.length - i = d → i ≤ l.length → out.length ≤ i → (∀ r ∈ out, -1 ≤ r.f2) →
    ∀ k, d * 2 + 2 ≤ k → spec_RunsOf.l0 k l out (i : Int) = some (rnRun out i (l.drop i))
  | 0, i, out, hd, hi, ho, hok, k, hk => by
    obtain ⟨k, rfl⟩ : ∃ m, k = m + 1 := ⟨k - 1, by omega⟩
    have e : i = l.length := by omega
    subst e
    rw [spec_RunsOf.l0, if_neg (by omega), List.drop_length, rnRun]
  | d + 1, i, out, hd, hi, ho, hok, k, hk => by
    obtain ⟨k, rfl⟩ : ∃ m, k = m + 2 := ⟨k - 2, by omega⟩
    have hlt : i < l.length := by omega
    have hv : -1 ≤ l.getD i 0 := by
      have : l.getD i 0 = l[i] := by simp [List.getD_eq_getElem?_getD, hlt]
      rw [this]; exact hl _ (List.getElem_mem hlt)
    have hsl := rnStep_len out i (l.getD i 0)
    have hso := rnStep_ok (i := (i : Int)) hok hv
    have ih := specRuns_l l hn hl d (i + 1) (rnStep out i (l.getD i 0)) (by omega) (by omega) (by omega) hso
    rw [rnRun_at _ _ _ hlt, spec_RunsOf.l0, if_pos (by omega), w64 (x := (i : Int) + 1) (by omega) (by omega), rd_nat]
    by_cases h0 : (out.length : Int) = 0
    · rw [if_pos h0, if_pos (by omega), if_pos (by omega)]
      have e : rnStep out i (l.getD i 0) = out ++ [⟨i, i + 1, l.getD i 0⟩] := by rw [rnStep, if_pos (by omega)]
      rw [e] at ih ⊢
      exact ih (k + 1) (by omega)
    · have h0' : out.length ≠ 0 := by omega
      have hlast := hok _ (lastR_mem h0')
      rw [if_neg h0, if_pos (by omega), w64 (x := (out.length : Int) - 1) (by omega) (by omega), rdR _ h0', if_pos (c := 0 ≤ (out.length : Int) - 1) (by omega), if_pos (c := (out.length : Int) - 1 < (out.length : Int)) (by omega)]
      have hj : ∀ b, spec_RunsOf.j1 (k + 1) l out (i : Int) (out.length : Int) b = if b = true then spec_RunsOf.l0 k l (out.set (out.length - 1) ⟨(lastR out).f0, i + 1, (lastR out).f2⟩) ((i + 1 : Nat) : Int) else if (lastR out).f2 < 0 then spec_RunsOf.l0 k l (out.set (out.length - 1) ⟨(lastR out).f0, i + 1, l.getD i 0⟩) ((i + 1 : Nat) : Int) else spec_RunsOf.l0 k l (out ++ [⟨i, i + 1, l.getD i 0⟩]) ((i + 1 : Nat) : Int) := by
        intro b
        rw [spec_RunsOf.j1, w64 (x := (out.length : Int) - 1) (by omega) (by omega), w64 (x := (i : Int) + 1) (by omega) (by omega), rdR _ h0', show ((out.length : Int) - 1).toNat = out.length - 1 by omega, rd_nat, Option.bind_some, rdSet _ _ h0', List.set_set,
          if_pos (c := 0 ≤ (out.length : Int) - 1) (by omega), if_pos (c := (out.length : Int) - 1 < (out.length : Int)) (by omega), if_pos (c := 0 ≤ (out.length : Int) - 1) (by omega), if_pos (c := (out.length : Int) - 1 < (out.length : Int)) (by omega),
          if_pos (c := 0 ≤ (i : Int)) (by omega), if_pos (c := (i : Int) < (l.length : Int)) (by omega), if_pos (c := 0 ≤ (i : Int)) (by omega), if_pos (c := (i : Int) < (l.length : Int)) (by omega), if_pos (c := out.length < 5864062014805) (by omega)]
        rfl
      rw [hj, hj]
      by_cases hy : l.getD i 0 < 0
      · have e : rnStep out i (l.getD i 0) = out.set (out.length - 1) ⟨(lastR out).f0, i + 1, (lastR out).f2⟩ := by rw [rnStep, if_neg h0', if_pos (.inl (by omega))]
        rw [if_pos hy, if_pos rfl]
        rw [e] at ih ⊢
        exact ih k (by omega)
      · rw [if_neg hy]
        by_cases hl2 : l.getD i 0 = (lastR out).f2
        · have e : rnStep out i (l.getD i 0) = out.set (out.length - 1) ⟨(lastR out).f0, i + 1, (lastR out).f2⟩ := by rw [rnStep, if_neg h0', if_pos (.inr hl2)]
          rw [if_pos (beq_iff_eq.mpr hl2)]
          rw [e] at ih ⊢
          exact ih k (by omega)
        · rw [if_neg (by simpa using hl2)]
          by_cases hl3 : (lastR out).f2 < 0
          · have e : rnStep out i (l.getD i 0) = out.set (out.length - 1) ⟨(lastR out).f0, i + 1, l.getD i 0⟩ := by rw [rnStep, if_neg h0', if_neg (by omega), if_pos (by omega)]
            rw [if_pos hl3]
            rw [e] at ih ⊢
            exact ih k (by omega)
          · have e : rnStep out i (l.getD i 0) = out ++ [⟨i, i + 1, l.getD i 0⟩] := by rw [rnStep, if_neg h0', if_neg (by omega), if_neg (by omega)]
            rw [if_neg hl3]
            rw [e] at ih ⊢
            exact ih k (by omega)
theorem implRuns_l (l : List Int) (hn : l.length ≤ 80) (hl : ∀ x ∈ l, -1 ≤ x) : ∀ (d i : Nat) (out : List SR), l.length - i = d → i ≤ l.length → out.length ≤ i → (∀ r ∈ out, -1 ≤ r.f2) →
    ∀ k, d * 2 + 2 ≤ k → impl_runsOf.l0 k out l (l.length : Int) (i : Int) = some (rnRun out i (l.drop i))
  | 0, i, out, hd, hi, ho, hok, k, hk => by
    obtain ⟨k, rfl⟩ : ∃ m, k = m + 1 := ⟨k - 1, by omega⟩
    have e : i = l.length := by omega
    subst e
    rw [impl_runsOf.l0, if_neg (by omega), List.drop_length, rnRun]
  | d + 1, i, out, hd, hi, ho, hok, k, hk => by
    obtain ⟨k, rfl⟩ : ∃ m, k = m + 2 := ⟨k - 2, by omega⟩
    have hlt : i < l.length := by omega
    have hv : -1 ≤ l.getD i 0 := by
      have : l.getD i 0 = l[i] := by simp [List.getD_eq_getElem?_getD, hlt]
      rw [this]; exact hl _ (List.getElem_mem hlt)
    have hsl := rnStep_len out i (l.getD i 0)
    have hso := rnStep_ok (i := (i : Int)) hok hv
    have ih := implRuns_l l hn hl d (i + 1) (rnStep out i (l.getD i 0)) (by omega) (by omega) (by omega) hso
    rw [rnRun_at _ _ _ hlt, impl_runsOf.l0, if_pos (by omega), if_pos (c := 0 ≤ (i : Int)) (by omega), if_pos (c := (i : Int) < (l.length : Int)) (by omega), rd_nat, w64 (x := (out.length : Int) - 1) (by omega) (by omega)]
    by_cases h0 : out.length = 0
    · rw [if_neg (by omega)]
      have e : rnStep out i (l.getD i 0) = out ++ [⟨i, i + 1, l.getD i 0⟩] := by rw [rnStep, if_pos h0]
      rw [impl_runsOf.j1, if_neg (by simp), if_neg (by omega), if_pos (by omega), w64 (by omega) (by omega)]
      rw [e] at ih ⊢
      exact ih k (by omega)
    · have hlast := hok _ (lastR_mem h0)
      rw [if_pos (c := (out.length : Int) - 1 ≥ 0) (by omega), rdR _ h0, if_pos (c := 0 ≤ (out.length : Int) - 1) (by omega), if_pos (c := (out.length : Int) - 1 < (out.length : Int)) (by omega)]
      have hj : ∀ b, impl_runsOf.j1 (k + 1) out (i : Int) (l.getD i 0) ((out.length : Int) - 1) l (l.length : Int) (i : Int) b = if b = true then impl_runsOf.l0 k (out.set (out.length - 1) ⟨(lastR out).f0, i + 1, (lastR out).f2⟩) l (l.length : Int) ((i + 1 : Nat) : Int) else if (lastR out).f2 = -1 then impl_runsOf.l0 k (out.set (out.length - 1) ⟨(lastR out).f0, i + 1, l.getD i 0⟩) l (l.length : Int) ((i + 1 : Nat) : Int) else impl_runsOf.l0 k (out ++ [⟨i, i + 1, l.getD i 0⟩]) l (l.length : Int) ((i + 1 : Nat) : Int) := by
        intro b
        rw [impl_runsOf.j1, w64 (x := (i : Int) + 1) (by omega) (by omega), rdR _ h0, show ((out.length : Int) - 1).toNat = out.length - 1 by omega, Option.bind_some, rdSet _ _ h0, List.set_set]
        simp only [show (0 ≤ (out.length : Int) - 1) = True from eq_true (by omega), show ((out.length : Int) - 1 < (out.length : Int)) = True from eq_true (by omega), show ((out.length : Int) - 1 ≥ 0) = True from eq_true (by omega), show (out.length < 5864062014805) = True from eq_true (by omega), if_true]
        rfl
      rw [hj, hj]
      by_cases hy : l.getD i 0 = -1
      · have e : rnStep out i (l.getD i 0) = out.set (out.length - 1) ⟨(lastR out).f0, i + 1, (lastR out).f2⟩ := by rw [rnStep, if_neg h0, if_pos (.inl hy)]
        rw [if_pos hy, if_pos rfl]
        rw [e] at ih ⊢
        exact ih k (by omega)
      · rw [if_neg hy]
        by_cases hl2 : l.getD i 0 = (lastR out).f2
        · have e : rnStep out i (l.getD i 0) = out.set (out.length - 1) ⟨(lastR out).f0, i + 1, (lastR out).f2⟩ := by rw [rnStep, if_neg h0, if_pos (.inr hl2)]
          rw [if_pos (beq_iff_eq.mpr hl2)]
          rw [e] at ih ⊢
          exact ih k (by omega)
        · rw [if_neg (by simpa using hl2)]
          by_cases hl3 : (lastR out).f2 = -1
          · have e : rnStep out i (l.getD i 0) = out.set (out.length - 1) ⟨(lastR out).f0, i + 1, l.getD i 0⟩ := by rw [rnStep, if_neg h0, if_neg (by omega), if_pos hl3]
            rw [if_pos hl3]
            rw [e] at ih ⊢
            exact ih k (by omega)
          · have e : rnStep out i (l.getD i 0) = out ++ [⟨i, i + 1, l.getD i 0⟩] := by rw [rnStep, if_neg h0, if_neg (by omega), if_neg hl3]
            rw [if_neg hl3]
            rw [e] at ih ⊢
            exact ih k (by omega)
theorem lev_l (l : List Int) (hn : l.length ≤ 1099511627776) : ∀ (d k i : Nat), l.length - i = d → i ≤ l.length → d < k →
    spec_l4Ok.l0 k l (i : Int) = some ((l.drop i).all levOkV && decide (l.length ≤ 80))
  | 0, k, i, hd, hi, hk => by
    obtain ⟨k, rfl⟩ : ∃ m, k = m + 1 := ⟨k - 1, by omega⟩
    have e : i = l.length := by omega
    subst e
    rw [spec_l4Ok.l0, if_neg (by omega), List.drop_length]
    simp only [List.all_nil, Bool.true_and, Option.some.injEq, decide_eq_decide]
    omega
  | d + 1, k, i, hd, hi, hk => by
    obtain ⟨k, rfl⟩ : ∃ m, k = m + 1 := ⟨k - 1, by omega⟩
    have hlt : i < l.length := by omega
    have hs : spec_l1In.f l[i] (-1) 22 = some (levOkV l[i]) := by rw [l1In_p]; rfl
    rw [spec_l4Ok.l0, if_pos (by omega), if_pos (by omega), w64 (by omega) (by omega), rd_get hlt, hs, Option.bind_some, List.drop_eq_getElem_cons hlt, List.all_cons]
    have := lev_l l hn d k (i + 1) (by omega) (by omega) (by omega)
    rw [show ((i : Int) + 1) = ((i + 1 : Nat) : Int) by omega, this]
    cases levOkV l[i]
    · rw [if_neg (by simp)]; simp
    · rw [if_pos rfl, Bool.true_and]
theorem lev_p {l : List Int} {k : Nat} (hn : l.length ≤ 1099511627776) (hk : l.length < k) : spec_l4Ok.f k l = some (levelsOkV l) := by
  unfold spec_l4Ok.f
  have := lev_l l hn l.length k 0 (by omega) (by omega) hk
  rw [show ((0 : Nat) : Int) = 0 from rfl] at this
  rw [this, List.drop_zero, levelsOkV, Bool.and_comm]
def runsV (l : List Int) : List SR := if levelsOkV l = true then rnRun [] 0 l else []
theorem levelsOk_len {l : List Int} (h : levelsOkV l = true) : l.length ≤ 80 := by
  simp [levelsOkV] at h; exact h.1
theorem levelsOk_ge {l : List Int} (h : levelsOkV l = true) : ∀ x ∈ l, -1 ≤ x := by
  intro x hx
  simp [levelsOkV, levOkV] at h; exact (h.2 x hx).1
theorem specRunsOf_p {l : List Int} (hn : l.length ≤ 1099511627776) {k : Nat} (hk : l.length + 1000 ≤ k) : spec_RunsOf.f k l = some (runsV l) := by
  unfold spec_RunsOf.f runsV
  rw [Option.bind_some, lev_p hn (by omega), Option.bind_some]
  by_cases h : levelsOkV l = true
  · have hl := levelsOk_len h
    rw [if_pos h, if_pos h]
    have := specRuns_l l hl (levelsOk_ge h) l.length 0 [] (by omega) (by omega) (by simp) (by simp) k (by omega)
    simpa using this
  · rw [if_neg h, if_neg h]
theorem implRunsOf_p {l : List Int} {k : Nat} (hk : 1000 ≤ k) : impl_RunsOf.f k l = some (runsV l) := by
  unfold impl_RunsOf.f runsV impl_levelsOk.f
  rw [Option.bind_some]
  by_cases h : levelsOkV l = true
  · have hl := levelsOk_len h
    rw [if_pos h, if_pos h, impl_runsOf.f]
    have := implRuns_l l hl (levelsOk_ge h) l.length 0 [] (by omega) (by omega) (by simp) (by simp) k (by omega)
    have h2 : impl_runsOf.l0 k [] l (l.length : Int) 0 = some (rnRun [] 0 l) := by simpa using this
    rw [h2]; rfl
  · rw [if_neg h, if_neg h]
theorem rnRun_len : ∀ (l : List Int) (out : List SR) (i : Int), (rnRun out i l).length ≤ out.length + l.length
  | [], out, i => by simp [rnRun]
  | lv :: l, out, i => by
    have a := rnRun_len l (rnStep out i lv) (i + 1)
    have b := rnStep_len out i lv
    rw [rnRun, List.length_cons]
    omega
theorem runsV_len (l : List Int) : (runsV l).length ≤ 80 := by
  unfold runsV
  split
  · rename_i h
    have a := rnRun_len l [] 0
    have b := levelsOk_len h
    simp at a; omega
  · simp
instance : DecidableEq SR := fun a b => decidable_of_iff (a.f0 = b.f0 ∧ a.f1 = b.f1 ∧ a.f2 = b.f2) (by cases a; cases b; simp)
theorem eqRun_p (a b : SR) : laws_eqRun.f a.f0 a.f1 a.f2 b.f0 b.f1 b.f2 = some (decide (a = b)) := by
  unfold laws_eqRun.f
  cases a; cases b
  simp only [S53.mk.injEq]
  grind
theorem rdR_get {l : List SR} {i : Nat} (h : i < l.length) : rd_T53 l (i : Int) = l[i] := by simp [rd_T53, List.getD_eq_getElem?_getD, h]
theorem eqRs_l (a b : List SR) (hab : a.length = b.length) (hn : a.length ≤ 1099511627776) : ∀ (d k i : Nat), a.length - i = d → i ≤ a.length → d < k →
    laws_eqRunS.l0 k a b (i : Int) = some (decide (a.drop i = b.drop i))
  | 0, k, i, hd, hi, hk => by
    obtain ⟨k, rfl⟩ : ∃ m, k = m + 1 := ⟨k - 1, by omega⟩
    have e : i = a.length := by omega
    subst e
    rw [laws_eqRunS.l0, if_neg (by omega), List.drop_length, hab, List.drop_length]
    simp
  | d + 1, k, i, hd, hi, hk => by
    obtain ⟨k, rfl⟩ : ∃ m, k = m + 1 := ⟨k - 1, by omega⟩
    have hlt : i < a.length := by omega
    have hlb : i < b.length := by omega
    rw [laws_eqRunS.l0, if_pos (by omega), if_pos (by omega), if_pos (by omega), w64 (by omega) (by omega), rdR_get hlt, rdR_get hlb, eqRun_p, Option.bind_some, List.drop_eq_getElem_cons hlt, List.drop_eq_getElem_cons hlb]
    have := eqRs_l a b hab hn d k (i + 1) (by omega) (by omega) (by omega)
    rw [show ((i : Int) + 1) = ((i + 1 : Nat) : Int) by omega, this]
    by_cases h : a[i] = b[i]
    · rw [if_pos (decide_eq_true h), h]
      simp only [List.cons.injEq, true_and]
    · rw [if_neg (by simpa using h)]
      simp only [List.cons.injEq, h, false_and, decide_false]
theorem eqRs_p {a b : List SR} {k : Nat} (hn : a.length ≤ 1099511627776) (hk : a.length < k) : laws_eqRunS.f k a b = some (decide (a = b)) := by
  unfold laws_eqRunS.f
  by_cases hab : a.length = b.length
  · rw [if_pos (by omega)]
    simpa using eqRs_l a b hab hn a.length k 0 (by omega) (by omega) hk
  · rw [if_neg (by omega)]
    simp only [Option.some.injEq]
    exact (decide_eq_false (fun h => hab (by rw [h]))).symm
def iotaR (a : Int) : Nat → List SR
  | 0 => []
  | n + 1 => ⟨a, a + 1, a + 2⟩ :: iotaR (a + 3) n
theorem iotaR_length : ∀ (n : Nat) (a : Int), (iotaR a n).length = n
  | 0, _ => rfl
  | n + 1, a => by simp [iotaR, iotaR_length n]
theorem rdR_set {l : List SR} {i : Nat} (h : i < l.length) (x : SR) : rd_T53 (l.set i x) (i : Int) = x := by simp [rd_T53, List.getD_eq_getElem?_getD, h]
theorem markR_l : ∀ (d k i : Nat) (l : List SR) (a : Int), l.length ≤ 1099511627776 → -1099511627776 ≤ a → a + 3 * d ≤ 1099511627776 * 8 → l.length - i = d → i ≤ l.length → d < k →
    laws_markRunS.l0 k l a (i : Int) = some (a + 3 * d, l.take i ++ iotaR a d)
  | 0, k, i, l, a, hn, h0, h2, hd, hi, hk => by
    obtain ⟨k, rfl⟩ : ∃ m, k = m + 1 := ⟨k - 1, by omega⟩
    have e : i = l.length := by omega
    subst e
    rw [laws_markRunS.l0, if_neg (by omega)]
    simp [iotaR]
  | d + 1, k, i, l, a, hn, h0, h2, hd, hi, hk => by
    obtain ⟨k, rfl⟩ : ∃ m, k = m + 1 := ⟨k - 1, by omega⟩
    have hlt : i < l.length := by omega
    rw [laws_markRunS.l0, if_pos (by omega), if_pos (by omega), w64 (x := a + 1) (by omega) (by omega), w64 (x := a + 1 + 1) (by omega) (by omega), w64 (x := a + 1 + 1 + 1) (by omega) (by omega), w64 (x := (i : Int) + 1) (by omega) (by omega), Int.toNat_natCast, Option.bind_some, Option.bind_some]
    simp only [rdR_set hlt, List.set_set]
    have := markR_l d k (i + 1) (l.set i ⟨a, a + 1, a + 1 + 1⟩) (a + 1 + 1 + 1) (by simpa using hn) (by omega) (by omega) (by simp; omega) (by simp; omega) (by omega)
    rw [show ((i : Int) + 1) = ((i + 1 : Nat) : Int) by omega, this]
    simp only [Option.some.injEq, Prod.mk.injEq, iotaR]
    refine ⟨by omega, ?_⟩
    rw [List.take_succ_eq_append_getElem (by simpa using hlt), show a + 1 + 1 + 1 = a + 3 by omega, show a + 1 + 1 = a + 2 by omega]
    simp [List.take_set_of_le]
theorem markR_p {l : List SR} {a : Int} {k : Nat} (hn : l.length ≤ 1099511627776) (h0 : -1099511627776 ≤ a) (h1 : a ≤ 1099511627776) (hk : l.length < k) : laws_markRunS.f k l a = some (a + 3 * l.length, iotaR a l.length) := by
  unfold laws_markRunS.f
  simpa using markR_l l.length k 0 l a hn h0 (by omega) (by omega) (by omega) hk
theorem heldR_l : ∀ (d k i : Nat) (l : List SR) (a : Int), l.length ≤ 1099511627776 → -1099511627776 ≤ a → a + 3 * d ≤ 1099511627776 * 8 → l.length - i = d → i ≤ l.length → d < k → l.drop i = iotaR a d →
    laws_heldRunS.l0 k l a (i : Int) = some (a + 3 * d)
  | 0, k, i, l, a, hn, h0, h2, hd, hi, hk, he => by
    obtain ⟨k, rfl⟩ : ∃ m, k = m + 1 := ⟨k - 1, by omega⟩
    rw [laws_heldRunS.l0, if_neg (by omega)]
    simp
  | d + 1, k, i, l, a, hn, h0, h2, hd, hi, hk, he => by
    obtain ⟨k, rfl⟩ : ∃ m, k = m + 1 := ⟨k - 1, by omega⟩
    have hlt : i < l.length := by omega
    rw [List.drop_eq_getElem_cons hlt, iotaR] at he
    obtain ⟨e1, e2⟩ := List.cons.inj he
    rw [laws_heldRunS.l0, if_pos (by omega), if_pos (by omega), rdR_get hlt, e1, w64 (x := a + 1) (by omega) (by omega), w64 (x := a + 1 + 1) (by omega) (by omega), w64 (x := a + 1 + 1 + 1) (by omega) (by omega), w64 (x := (i : Int) + 1) (by omega) (by omega), if_pos rfl, if_pos rfl, if_pos (show (a + 2 : Int) = a + 1 + 1 by omega)]
    have := heldR_l d k (i + 1) l (a + 1 + 1 + 1) hn (by omega) (by omega) (by omega) (by omega) (by omega) (by rw [e2, show a + 1 + 1 + 1 = a + 3 by omega])
    rw [show ((i : Int) + 1) = ((i + 1 : Nat) : Int) by omega, this]
    congr 1; omega
theorem heldR_p {n : Nat} {a : Int} {k : Nat} (hn : n ≤ 1099511627776) (h0 : -1099511627776 ≤ a) (h1 : a ≤ 1099511627776) (hk : n < k) : laws_heldRunS.f k (iotaR a n) a = some (a + 3 * n) := by
  unfold laws_heldRunS.f
  have hl := iotaR_length n a
  simpa using heldR_l n k 0 (iotaR a n) a (by omega) h0 (by omega) (by omega) (by omega) hk rfl
end Go.Proofs.Ytoafenblaioopaa.Pure
/- What the reference's drawing answers always: something, and of bounded length. -/
namespace Go.Proofs.Ytoafenblaioopaa.Pure
open Go.RowKit Go.Proofs.Ytoafenblaioopaa.S Go.Proofs.YtoafenblaioopaaW.PrintWords Go.Proofs.YtoafenblaioopaaW.PrintLast
theorem xor_k {x y : Int} (hx : 0 ≤ x) (hx' : x < 4611686018427387904) (hy : 0 ≤ y) (hy' : y < 4611686018427387904) : 0 ≤ Go.bits .xor .i64 x y := by
  obtain ⟨a, rfl⟩ : ∃ a : Nat, x = (a : Int) := ⟨x.toNat, by omega⟩
  obtain ⟨b, rfl⟩ : ∃ b : Nat, y = (b : Int) := ⟨y.toNat, by omega⟩
  have e : (BitVec.ofInt 64 (a : Int) ^^^ BitVec.ofInt 64 (b : Int)).toNat < 2 ^ 62 := by
    rw [BitVec.toNat_xor, BitVec.ofInt_natCast, BitVec.ofInt_natCast, BitVec.toNat_ofNat, BitVec.toNat_ofNat, Nat.mod_eq_of_lt (by omega), Nat.mod_eq_of_lt (by omega)]
    exact Nat.xor_lt_two_pow (by omega) (by omega)
  show 0 ≤ IntKind.wrap .i64 ((BitVec.ofInt 64 (a : Int) ^^^ BitVec.ofInt 64 (b : Int)).toNat : Int)
  generalize (BitVec.ofInt 64 (a : Int) ^^^ BitVec.ofInt 64 (b : Int)).toNat = n at e
  rw [IntWalk.i64_in _ (by omega)]
  omega
def DS (s : List Int) : Prop := s.length ≤ 2000 ∧ ∀ x ∈ s, 0 ≤ x ∧ x ≤ 255
theorem rd_byte {s : List Int} (h : DS s) (i : Int) : 0 ≤ rd s i ∧ rd s i ≤ 255 := by
  unfold rd
  by_cases hi : i.toNat < s.length
  · have := h.2 s[i.toNat] (List.getElem_mem hi)
    simpa [List.getD_eq_getElem?_getD, hi] using this
  · simp [List.getD_eq_getElem?_getD, hi]
set_option maxHeartbeats 8000000 in
theorem pick_k {s : List Int} (hs : DS s) {p n : Int} {k : Nat} (h0 : 0 ≤ p) (h1 : p ≤ 1000000) (hn : 1 ≤ n) (hn' : n ≤ 1000000) (hk : 1 ≤ k) : ∃ v, spec_l1Rd_pick.f k s p n = some (v, p + 1) ∧ 0 ≤ v ∧ v < n := by
  obtain ⟨k, rfl⟩ : ∃ m, k = m + 1 := ⟨k - 1, by omega⟩
  have hl := hs.1
  unfold spec_l1Rd_pick.f
  rw [if_neg (by omega), w64 (by omega) (by omega), spec_l1Rd_pick.j0]
  by_cases hz : s.length = 0
  · rw [if_pos (by simp [hz])]
    exact ⟨0, rfl, by omega, by omega⟩
  · rw [if_neg (by simpa using hz), w64 (x := p + 1 - 1) (by omega) (by omega), show p + 1 - 1 = p by omega]
    by_cases hp : p < (s.length : Int)
    · have hb := rd_byte hs p
      rw [if_pos hp, if_pos h0, if_neg (by omega), w64 (by omega) (by omega)]
      refine ⟨_, rfl, Int.tmod_nonneg _ hb.1, Int.tmod_lt_of_pos _ (by omega)⟩
    · have hd := Int.tdiv_eq_ediv_of_nonneg (b := (s.length : Int)) h0
      have hd0 : 0 ≤ p / (s.length : Int) := Int.ediv_nonneg h0 (by omega)
      have hd1 : p / (s.length : Int) ≤ p := Int.ediv_le_self _ h0
      have e1 := Int.tmod_nonneg (s.length : Int) h0
      have e2 := Int.tmod_lt_of_pos p (show 0 < (s.length : Int) by omega)
      have e3 := Int.tmod_nonneg (s.length : Int) (show 0 ≤ p * 7 + 3 by omega)
      have e4 := Int.tmod_lt_of_pos (p * 7 + 3) (show 0 < (s.length : Int) by omega)
      rw [hd, w64 (x := p * 7) (by omega) (by omega), w64 (x := p * 7 + 3) (by omega) (by omega), w64 (x := p * 29) (by omega) (by omega)]
      generalize p / (s.length : Int) = dv at hd0 hd1
      generalize Int.tmod p (s.length : Int) = i1 at e1 e2
      generalize Int.tmod (p * 7 + 3) (s.length : Int) = i2 at e3 e4
      have b1 := rd_byte hs i1
      have b2 := rd_byte hs i2
      generalize rd s i1 = c1 at b1
      generalize rd s i2 = c2 at b2
      rw [if_neg hp, if_neg (by omega), if_pos e1, if_pos e2, if_pos e3, if_pos e4, if_neg (by omega), w64 (x := dv) (by omega) (by omega), w64 (x := c1) (by omega) (by omega), w64 (x := c2) (by omega) (by omega), w64 (x := c1 * 131) (by omega) (by omega), w64 (x := c2 * 1117) (by omega) (by omega),
        w64 (x := dv * 53) (by omega) (by omega), w64 (x := c1 * 131 + c2 * 1117) (by omega) (by omega), w64 (x := c1 * 131 + c2 * 1117 + p * 29) (by omega) (by omega), w64 (x := c1 * 131 + c2 * 1117 + p * 29 + dv * 53) (by omega) (by omega)]
      have hh : 0 ≤ c1 * 131 + c2 * 1117 + p * 29 + dv * 53 ∧ c1 * 131 + c2 * 1117 + p * 29 + dv * 53 ≤ 1099511627776 := by omega
      generalize c1 * 131 + c2 * 1117 + p * 29 + dv * 53 = hv at hh
      rw [Int.tdiv_eq_ediv_of_nonneg hh.1, w64 (x := hv / 64) (by omega) (by omega)]
      exact ⟨_, rfl, Int.tmod_nonneg _ (xor_k hh.1 (by omega) (by omega) (by omega)), Int.tmod_lt_of_pos _ (by omega)⟩
theorem one_k {s L : List Int} (hs : DS s) {p : Int} {k : Nat} (h0 : 0 ≤ p) (h1 : p ≤ 1000000) (hn : 1 ≤ L.length) (hn' : L.length ≤ 100) (hk : 1 ≤ k) : ∃ v, spec_l1Rd_one.f k s p L = some (v, p + 1) := by
  obtain ⟨v, hv, v0, v1⟩ := pick_k hs (p := p) (n := (L.length : Int)) h0 h1 (by omega) (by omega) hk
  refine ⟨rd L v, ?_⟩
  unfold spec_l1Rd_one.f
  rw [hv, Option.bind_some, if_pos v0, if_pos v1]
def Ok1 (o : Option (Int × Int)) (q : Int) : Prop := ∃ v p', o = some (v, p') ∧ q ≤ p' ∧ p' ≤ q + 2
theorem one_b {s L : List Int} (hs : DS s) {p q : Int} {k : Nat} (h0 : 0 ≤ p) (h1 : p ≤ 1000000) (hq : q ≤ p) (hq' : p ≤ q + 1) (hn : 1 ≤ L.length ∧ L.length ≤ 100) (hk : 1 ≤ k) :
    Ok1 ((spec_l1Rd_one.f k s p L).bind fun (bt : Int × Int) => (some (bt.1, bt.2))) q := by
  obtain ⟨v, hv⟩ := one_k hs (L := L) h0 h1 hn.1 hn.2 hk
  exact ⟨v, p + 1, by rw [hv]; rfl, by omega, by omega⟩
theorem ok_ite {c : Prop} [Decidable c] {a b : Option (Int × Int)} {q : Int} (h1 : Ok1 a q) (h2 : Ok1 b q) : Ok1 (if c then a else b) q := by
  split <;> assumption
set_option maxHeartbeats 8000000 in
theorem rune_k {s : List Int} (hs : DS s) {p : Int} {k : Nat} (h0 : 0 ≤ p) (h1 : p ≤ 900000) (hk : 4 ≤ k) : Ok1 (spec_l13Rune.f k s p) p := by
  obtain ⟨k, rfl⟩ : ∃ m, k = m + 4 := ⟨k - 4, by omega⟩
  obtain ⟨n, hv, v0, v1⟩ := pick_k hs (p := p) (n := 16) (k := k + 4) h0 (by omega) (by omega) (by omega) (by omega)
  unfold spec_l13Rune.f
  rw [hv, Option.bind_some]
  simp only [spec_l13Rune.j0, spec_l13Rune.j1, spec_l13Rune.j2]
  have leaf : Ok1 (some (32, p + 1)) p := ⟨_, _, rfl, by omega, by omega⟩
  repeat' first
    | exact leaf
    | exact one_b hs (by omega) (by omega) (by omega) (by omega) (by decide) (by omega)
    | refine ok_ite ?_ ?_
theorem runes1_k {s : List Int} (hs : DS s) : ∀ (d k : Nat) (x : List Int) (p : Int), 80 - x.length = d → 0 ≤ p → p + d ≤ 900000 → x.length ≤ 200 → d + 4 < k →
    ∃ y p', spec_l13Runes.l1 k x s p = some (y, p') ∧ p ≤ p' ∧ p' ≤ p + d ∧ y.length ≤ 200
  | 0, k, x, p, hd, h0, h1, hx, hk => by
    obtain ⟨k, rfl⟩ : ∃ m, k = m + 1 := ⟨k - 1, by omega⟩
    rw [spec_l13Runes.l1, if_neg (by omega)]
    exact ⟨_, _, rfl, by omega, by omega, hx⟩
  | d + 1, k, x, p, hd, h0, h1, hx, hk => by
    obtain ⟨k, rfl⟩ : ∃ m, k = m + 1 := ⟨k - 1, by omega⟩
    obtain ⟨v, hv⟩ := one_k hs (L := [8235, 8238, 8295, 1488, 97]) (p := p) (k := k) h0 (by omega) (by decide) (by decide) (by omega)
    rw [spec_l13Runes.l1, if_pos (by omega), hv, Option.bind_some, if_pos (by omega)]
    obtain ⟨y, p', e, e1, e2, e3⟩ := runes1_k hs d k (x ++ [v]) (p + 1) (by simp; omega) (by omega) (by omega) (by simp; omega) (by omega)
    exact ⟨y, p', e, by omega, by omega, e3⟩
theorem runes0_k {s : List Int} (hs : DS s) : ∀ (d k : Nat) (x : List Int) (p : Int), 0 ≤ p → p + 2 * d ≤ 800000 → x.length + d ≤ 100 → d + 90 < k →
    ∃ y p', spec_l13Runes.l0 k x (d : Int) s p = some (y, p') ∧ p ≤ p' ∧ p' ≤ p + 2 * d + 90 ∧ y.length ≤ 200
  | 0, k, x, p, h0, h1, hx, hk => by
    obtain ⟨k, rfl⟩ : ∃ m, k = m + 1 := ⟨k - 1, by omega⟩
    obtain ⟨n, hv, v0, v1⟩ := pick_k hs (p := p) (n := 24) (k := k) h0 (by omega) (by omega) (by omega) (by omega)
    rw [spec_l13Runes.l0, if_neg (by omega), hv, Option.bind_some]
    by_cases hn : n = 0
    · rw [if_pos hn]
      obtain ⟨y, p', e, e1, e2, e3⟩ := runes1_k hs (80 - x.length) k x (p + 1) rfl (by omega) (by omega) (by omega) (by omega)
      exact ⟨y, p', e, by omega, by omega, e3⟩
    · rw [if_neg hn]
      exact ⟨_, _, rfl, by omega, by omega, by omega⟩
  | d + 1, k, x, p, h0, h1, hx, hk => by
    obtain ⟨k, rfl⟩ : ∃ m, k = m + 1 := ⟨k - 1, by omega⟩
    obtain ⟨v, q, hv, hq, hq'⟩ := rune_k hs (p := p) (k := k) h0 (by omega) (by omega)
    rw [spec_l13Runes.l0, if_pos (by omega), hv, Option.bind_some, if_pos (by omega), w64 (by omega) (by omega), show ((d + 1 : Nat) : Int) - 1 = (d : Int) by omega]
    obtain ⟨y, p', e, e1, e2, e3⟩ := runes0_k hs d k (x ++ [v]) q (by omega) (by omega) (by simp; omega) (by omega)
    exact ⟨y, p', e, by omega, by omega, e3⟩
theorem runes_k {s : List Int} (hs : DS s) {p : Int} {k : Nat} (h0 : 0 ≤ p) (h1 : p ≤ 700000) (hk : 200 ≤ k) : ∃ y p', spec_l13Runes.f k s p = some (y, p') ∧ p ≤ p' ∧ p' ≤ p + 200 ∧ y.length ≤ 200 := by
  obtain ⟨n, hv, v0, v1⟩ := pick_k hs (p := p) (n := 24) (k := k) h0 (by omega) (by omega) (by omega) (by omega)
  unfold spec_l13Runes.f
  rw [hv, Option.bind_some]
  obtain ⟨m, rfl⟩ : ∃ m : Nat, n = (m : Int) := ⟨n.toNat, by omega⟩
  obtain ⟨y, p', e, e1, e2, e3⟩ := runes0_k hs m k [] (p + 1) (by omega) (by omega) (by simp; omega) (by omega)
  exact ⟨y, p', e, by omega, by omega, e3⟩
theorem any0_k {s : List Int} : ∀ (d k : Nat) (x : List Int) (p : Int), 81 - x.length = d → x.length ≤ 300 → d < k → ∃ y, spec_l13Any.l0 k x s p = some (y, p) ∧ y.length ≤ 300
  | 0, k, x, p, hd, hx, hk => by
    obtain ⟨k, rfl⟩ : ∃ m, k = m + 1 := ⟨k - 1, by omega⟩
    rw [spec_l13Any.l0, if_neg (by omega)]
    exact ⟨_, rfl, hx⟩
  | d + 1, k, x, p, hd, hx, hk => by
    obtain ⟨k, rfl⟩ : ∃ m, k = m + 1 := ⟨k - 1, by omega⟩
    rw [spec_l13Any.l0, if_pos (by omega), if_pos (by omega)]
    exact any0_k d k (x ++ [97]) p (by simp; omega) (by simp; omega) (by omega)
theorem any_k {s : List Int} (hs : DS s) {p : Int} {k : Nat} (h0 : 0 ≤ p) (h1 : p ≤ 600000) (hk : 300 ≤ k) : ∃ y p', spec_l13Any.f k s p = some (y, p') ∧ p ≤ p' ∧ p' ≤ p + 300 ∧ y.length ≤ 300 := by
  obtain ⟨y, q, hr, q0, q1, hy⟩ := runes_k hs (p := p) (k := k) h0 (by omega) (by omega)
  obtain ⟨n, hv, v0, v1⟩ := pick_k hs (p := q) (n := 24) (k := k) (by omega) (by omega) (by omega) (by omega) (by omega)
  unfold spec_l13Any.f
  rw [hr, Option.bind_some, hv, Option.bind_some]
  by_cases hn : n = 0
  · obtain ⟨v, hv2⟩ := one_k hs (L := [-1, 55296, 57343, 1114112]) (p := q + 1) (k := k) (by omega) (by omega) (by decide) (by decide) (by omega)
    rw [if_pos hn, hv2, Option.bind_some, if_pos (by simp only; omega)]
    exact ⟨_, _, rfl, by omega, by omega, by simp; omega⟩
  · rw [if_neg hn]
    by_cases hn1 : n = 1
    · rw [if_pos hn1]
      obtain ⟨z, e, hz⟩ := any0_k (s := s) (81 - y.length) k y (q + 1) rfl (by omega) (by omega)
      exact ⟨z, q + 1, e, by omega, by omega, hz⟩
    · rw [if_neg hn1]
      exact ⟨_, _, rfl, by omega, by omega, by simp; omega⟩
theorem open_k {l : List Int} (hl : ∀ x ∈ l, (Lit.int .u8 x).wf = true) : ∃ s, spec_l1Open.f l = some (s, 0) ∧ DS s := by
  have hb : ∀ x ∈ l, 0 ≤ x ∧ x ≤ 255 := by
    intro x hx
    have := hl x hx
    simp [Lit.wf, IntKind.min, IntKind.max, IntKind.bits, IntKind.signed] at this
    omega
  unfold spec_l1Open.f
  by_cases h : (l.length : Int) > 2000
  · rw [if_pos h, if_pos (by omega)]
    exact ⟨_, rfl, by simp; omega, fun x hx => hb x (List.mem_of_mem_take hx)⟩
  · rw [if_neg h]
    exact ⟨_, rfl, by omega, hb⟩
end Go.Proofs.Ytoafenblaioopaa.Pure
/- The laws' helpers: equal rows; letters that make a text. -/
namespace Go.Proofs.Ytoafenblaioopaa.Pure
open Go.RowKit Go.Proofs.Ytoafenblaioopaa.S Go.Proofs.YtoafenblaioopaaW.PrintWords Go.Proofs.YtoafenblaioopaaW.PrintLast
theorem wcInts_l (a : List Int) (hn : a.length ≤ 1099511627776) : ∀ (d k i : Nat), a.length - i = d → i ≤ a.length → d < k → laws_wcInts.l0 k a a (i : Int) = some true
  | 0, k, i, hd, hi, hk => by
    obtain ⟨k, rfl⟩ : ∃ m, k = m + 1 := ⟨k - 1, by omega⟩
    rw [laws_wcInts.l0, if_neg (by omega)]
  | d + 1, k, i, hd, hi, hk => by
    obtain ⟨k, rfl⟩ : ∃ m, k = m + 1 := ⟨k - 1, by omega⟩
    have := wcInts_l a hn d k (i + 1) (by omega) (by omega) (by omega)
    rw [laws_wcInts.l0, if_pos (by omega), if_pos (by omega), if_pos (by omega), if_pos rfl, w64 (by omega) (by omega)]
    exact this
theorem wcInts_p {a : List Int} {k : Nat} (hn : a.length ≤ 1099511627776) (hk : a.length < k) : laws_wcInts.f k a a = some true := by
  unfold laws_wcInts.f
  rw [if_pos rfl]
  exact wcInts_l a hn a.length k 0 (by omega) (by omega) hk
theorem nums_size (l : List Int) : (strOfNums l).size = l.length := by
  simp [strOfNums, ByteArray.size]
theorem nil_list : (⟨#[]⟩ : ByteArray).toList = [] := by
  unfold ByteArray.toList
  rw [ByteArray.toList.loop]
  rfl
theorem put_p (a : Int) : ∃ b, spec_l1Put.f a = some b ∧ b.size ≤ 4 := by
  unfold spec_l1Put.f
  rw [size_f, Option.bind_some]
  by_cases h1 : sizeV a = 1
  · rw [if_pos h1]; exact ⟨_, rfl, by rw [nums_size]; simp⟩
  rw [if_neg h1]
  by_cases h2 : sizeV a = 2
  · rw [if_pos h2]; exact ⟨_, rfl, by rw [nums_size]; simp⟩
  rw [if_neg h2]
  by_cases h3 : sizeV a = 3
  · rw [if_pos h3]; exact ⟨_, rfl, by rw [nums_size]; simp⟩
  rw [if_neg h3]
  by_cases h4 : sizeV a = 4
  · rw [if_pos h4]; exact ⟨_, rfl, by rw [nums_size]; simp⟩
  rw [if_neg h4]
  exact ⟨_, rfl, by simp [ByteArray.size]⟩
theorem utf_l (l : List Int) (hn : l.length ≤ 1000000) : ∀ (d k i : Nat) (x : ByteArray), l.length - i = d → i ≤ l.length → i ≤ 80 → d < k → x.size ≤ 4 * i →
    ∃ r, spec_Utf8Put.l0 k l x (i : Int) = some r ∧ (r.toList.isEmpty = false → (∀ y ∈ l.drop i, isLetV y = true) ∧ l.length ≤ 80)
  | 0, k, i, x, hd, hi, hi', hk, hx => by
    obtain ⟨k, rfl⟩ : ∃ m, k = m + 1 := ⟨k - 1, by omega⟩
    have e : i = l.length := by omega
    rw [spec_Utf8Put.l0, if_neg (by omega)]
    exact ⟨_, rfl, fun _ => ⟨by rw [e, List.drop_length]; simp, by omega⟩⟩
  | d + 1, k, i, x, hd, hi, hi', hk, hx => by
    obtain ⟨k, rfl⟩ : ∃ m, k = m + 1 := ⟨k - 1, by omega⟩
    have hlt : i < l.length := by omega
    rw [spec_Utf8Put.l0, if_pos (by omega), if_pos (by omega), rd_get hlt, size_f, Option.bind_some]
    have hz := size_let l[i]
    by_cases h0 : sizeV l[i] = 0
    · rw [if_pos h0]
      exact ⟨_, rfl, fun h => absurd h (by rw [nil_list]; decide)⟩
    · rw [if_neg h0]
      by_cases h8 : (i : Int) ≥ 80
      · rw [if_pos h8]
        exact ⟨_, rfl, fun h => absurd h (by rw [nil_list]; decide)⟩
      · obtain ⟨b, hb, hbs⟩ := put_p l[i]
        rw [if_neg h8, hb, Option.bind_some, if_pos (by omega), w64 (by omega) (by omega)]
        obtain ⟨r, hr, hrr⟩ := utf_l l hn d k (i + 1) (x ++ b) (by omega) (by omega) (by omega) (by omega) (by rw [ByteArray.size_append]; omega)
        refine ⟨r, hr, fun h => ?_⟩
        obtain ⟨h1, h2⟩ := hrr h
        refine ⟨?_, h2⟩
        rw [List.drop_eq_getElem_cons hlt]
        intro y hy
        rcases List.mem_cons.1 hy with hy | hy
        · rw [hy]
          cases e : isLetV l[i]
          · exact absurd (hz.2 e) h0
          · rfl
        · exact h1 y hy
theorem wcOk_p {l : List Int} {k : Nat} (hn : l.length ≤ 1000000) (hk : l.length < k) : ∃ b, laws_wcOk.f k l = some b ∧ (b = true → okV l = true) := by
  unfold laws_wcOk.f
  by_cases h0 : (l.length : Int) = 0
  · rw [if_pos h0]
    refine ⟨true, rfl, fun _ => ?_⟩
    have : l = [] := List.eq_nil_of_length_eq_zero (by omega)
    subst this; rfl
  · rw [if_neg h0]
    unfold spec_Utf8Put.f
    obtain ⟨r, hr, hrr⟩ := utf_l l hn l.length k 0 ⟨#[]⟩ (by omega) (by omega) (by omega) (by omega) (by simp [ByteArray.size])
    rw [show ((0 : Nat) : Int) = 0 from rfl] at hr
    rw [hr, Option.bind_some]
    refine ⟨_, rfl, fun h => ?_⟩
    obtain ⟨h1, h2⟩ := hrr (by simpa using h)
    rw [List.drop_zero] at h1
    unfold okV
    simp only [Bool.and_eq_true, List.all_eq_true, decide_eq_true_eq]
    exact ⟨h2, h1⟩
end Go.Proofs.Ytoafenblaioopaa.Pure
/- The scripts that ScriptsOf tells, the runs that ScriptRuns tells of them, and both brackets round letters that are no brackets in the script before them: for every text that the reference draws. No condition beyond the statement's own. -/
namespace Go.Proofs.Ytoafenblaioopaa.Pure
open Go.RowKit Go.Proofs.Ytoafenblaioopaa.S Go.Proofs.YtoafenblaioopaaW.PrintWords Go.Proofs.YtoafenblaioopaaW.PrintLast
theorem drawSc_l {s : List Int} (hs : DS s) : ∀ (d k : Nat) (x : List Int) (p : Int), 0 ≤ p → p + d ≤ 800000 → x.length + d ≤ 100 → d + 2 < k → ∃ y, spec_DrawScriptsOf.l0 k x (d : Int) s p = some y ∧ y.length ≤ 100
  | 0, k, x, p, h0, h1, hx, hk => by
    obtain ⟨k, rfl⟩ : ∃ m, k = m + 1 := ⟨k - 1, by omega⟩
    rw [spec_DrawScriptsOf.l0, if_neg (by omega)]
    exact ⟨_, rfl, by omega⟩
  | d + 1, k, x, p, h0, h1, hx, hk => by
    obtain ⟨k, rfl⟩ : ∃ m, k = m + 1 := ⟨k - 1, by omega⟩
    obtain ⟨v, hv⟩ := one_k hs (L := [97, 1488, 1610, 19968, 40, 41, 91, 93, 32, 49, 1632]) (p := p) (k := k) h0 (by omega) (by decide) (by decide) (by omega)
    rw [spec_DrawScriptsOf.l0, if_pos (by omega), hv, Option.bind_some, if_pos (by omega), w64 (by omega) (by omega), show ((d + 1 : Nat) : Int) - 1 = (d : Int) by omega]
    exact drawSc_l hs d k (x ++ [v]) (p + 1) (by omega) (by omega) (by simp; omega) (by omega)
theorem drawSc_k {l : List Int} (hl : ∀ x ∈ l, (Lit.int .u8 x).wf = true) {k : Nat} (hk : 400 ≤ k) : ∃ y, spec_DrawScriptRuns.f k l = some y ∧ y.length ≤ 300 := by
  obtain ⟨s, hs, ds⟩ := open_k hl
  obtain ⟨n, hv, v0, v1⟩ := pick_k ds (p := 0) (n := 3) (k := k) (by omega) (by omega) (by omega) (by omega) (by omega)
  unfold spec_DrawScriptRuns.f spec_DrawScriptsOf.f
  rw [hs, Option.bind_some, hv, Option.bind_some]
  by_cases hn : n = 0
  · obtain ⟨y, p', e, e1, e2, e3⟩ := any_k ds (p := 0 + 1) (k := k) (by omega) (by omega) (by omega)
    rw [if_pos hn, e, Option.bind_some, Option.bind_some]
    exact ⟨_, rfl, e3⟩
  · obtain ⟨n2, hv2, v20, v21⟩ := pick_k ds (p := 0 + 1) (n := 14) (k := k) (by omega) (by omega) (by omega) (by omega) (by omega)
    obtain ⟨m, rfl⟩ : ∃ m : Nat, n2 = (m : Int) := ⟨n2.toNat, by omega⟩
    obtain ⟨y, e, e3⟩ := drawSc_l ds m k [] (0 + 1 + 1) (by omega) (by omega) (by simp; omega) (by omega)
    rw [if_neg hn, hv2, Option.bind_some, e, Option.bind_some]
    exact ⟨_, rfl, by omega⟩
theorem script_bd (a : Int) : 0 ≤ scriptV a ∧ scriptV a ≤ 4 := by
  rw [scriptV_p]; unfold scrP
  repeat' split
  all_goals omega
def BD (st : Int × List SK) : Prop := (0 ≤ st.1 ∧ st.1 ≤ 4) ∧ ∀ x ∈ st.2, 0 ≤ x.f1 ∧ x.f1 ≤ 4
theorem popAt_lt (l : List SK) (b : Int) : ∀ n k, popAt l b n = some k → k < n
  | 0, k, h => by simp [popAt] at h
  | n + 1, k, h => by
    rw [popAt] at h
    split at h
    · have := Option.some.inj h; omega
    · have := popAt_lt l b n k h; omega
theorem step_bd {st : Int × List SK} (h : BD st) (r : Int) : BD (scStep st r) := by
  have hp : (∀ x ∈ (popV st.2 (mateV r)).2.2, 0 ≤ x.f1 ∧ x.f1 ≤ 4) ∧ ((popV st.2 (mateV r)).2.1 = true → 0 ≤ (popV st.2 (mateV r)).1 ∧ (popV st.2 (mateV r)).1 ≤ 4) := by
    unfold popV
    cases e : popAt st.2 (mateV r) st.2.length with
    | none => exact ⟨h.2, fun h => absurd h (by simp)⟩
    | some k =>
      have hk := popAt_lt _ _ _ _ e
      refine ⟨fun x hx => h.2 x (List.mem_of_mem_take hx), fun _ => ?_⟩
      have := h.2 _ (List.getElem_mem hk)
      simpa [List.getD_eq_getElem?_getD, hk] using this
  have hs := script_bd r
  unfold scStep
  split
  · exact ⟨hs, h.2⟩
  · split
    · refine ⟨h.1, fun x hx => ?_⟩
      rcases List.mem_append.1 hx with hx | hx
      · exact h.2 x hx
      · rw [List.mem_singleton.1 hx]; exact h.1
    · split
      · split
        · rename_i h4; exact ⟨hp.2 h4, hp.1⟩
        · exact ⟨h.1, hp.1⟩
      · exact h
theorem run_bd : ∀ (l : List Int) (st : Int × List SK), BD st → ∀ x ∈ scRun st l, 0 ≤ x ∧ x ≤ 4
  | [], st, h, x, hx => by simp [scRun] at hx
  | r :: l, st, h, x, hx => by
    have hb := step_bd h r
    rw [scRun] at hx
    rcases List.mem_cons.1 hx with hx | hx
    · rw [hx]; exact hb.1
    · exact run_bd l _ hb x hx
theorem first_bd (l : List Int) : BD (scFirst l, []) := by
  refine ⟨?_, fun x hx => by simp at hx⟩
  unfold scFirst
  simp only
  split
  · exact script_bd _
  · omega
theorem scripts_bd (l : List Int) : ∀ x ∈ scriptsV l, 0 ≤ x ∧ x ≤ 4 := by
  intro x hx
  unfold scriptsV at hx
  split at hx
  · exact run_bd l _ (first_bd l) x hx
  · simp at hx
theorem scripts_lev (l : List Int) : levelsOkV (scriptsV l) = true := by
  have h := scripts_bd l
  have hn := scriptsV_len l
  unfold levelsOkV
  simp only [Bool.and_eq_true, decide_eq_true_eq, List.all_eq_true]
  refine ⟨hn, fun x hx => ?_⟩
  have := h x hx
  simp [levOkV]; omega
theorem scRun_plain : ∀ (M : List Int) (st : Int × List SK), st.2 = [⟨40, 1⟩] → (∀ x ∈ M, mateV x = 0 ∧ 0 ≤ x) → (scRun st (M ++ [41])).getD M.length 0 = 1
  | [], st, hst, _ => by
    have e : scStep st 41 = (1, []) := by
      have h1 : scriptV 41 = 0 := by rw [scriptV_p]; decide
      have h2 : mateV 41 = 40 := by decide
      unfold scStep
      rw [h1, h2, hst, if_neg (by simp), if_neg (by omega), if_pos (by omega)]
      simp [popV, popAt]
    simp [scRun, e]
  | r :: M, st, hst, h => by
    have hr := h r (by simp)
    have e : (scStep st r).2 = [⟨40, 1⟩] := by
      unfold scStep
      split
      · exact hst
      · rw [if_neg (by omega), if_neg (by omega)]; exact hst
    have := scRun_plain M (scStep st r) e (fun x hx => h x (List.mem_cons_of_mem _ hx))
    simpa [scRun] using this
theorem brackets {M : List Int} (hM : ∀ x ∈ M, mateV x = 0 ∧ isLetV x = true) (hn : M.length ≤ 77) : ∃ sc, scriptsV (97 :: 40 :: (M ++ [41])) = sc ∧ sc.length = M.length + 3 ∧ rd sc 1 = 1 ∧ rd sc ((M.length : Int) + 2) = 1 := by
  have hok : okV (97 :: 40 :: (M ++ [41])) = true := by
    unfold okV
    simp only [Bool.and_eq_true, decide_eq_true_eq, List.all_cons, List.all_append, List.all_nil]
    refine ⟨by simp; omega, by decide, by decide, List.all_eq_true.2 (fun x hx => (hM x hx).2), by decide, trivial⟩
  have s97 : scriptV 97 = 1 := by rw [scriptV_p]; decide
  have s40 : scriptV 40 = 0 := by rw [scriptV_p]; decide
  have m40 : mateV 40 = 41 := by decide
  have hf : ∃ f, scFirst (97 :: 40 :: (M ++ [41])) = f := ⟨_, rfl⟩
  obtain ⟨f, hf⟩ := hf
  have e1 : scStep (f, []) 97 = (1, []) := by unfold scStep; rw [s97, if_pos (by omega)]
  have e2 : scStep (1, []) 40 = (1, [⟨40, 1⟩]) := by unfold scStep; rw [s40, m40, if_neg (by simp), if_pos (by omega)]; rfl
  have hp := scRun_plain M (1, [⟨40, 1⟩]) rfl (fun x hx => ⟨(hM x hx).1, by
    have := (hM x hx).2
    simp [isLetV] at this; omega⟩)
  refine ⟨_, rfl, ?_, ?_, ?_⟩
  · unfold scriptsV; rw [if_pos hok, scRun_length]; simp
  · unfold scriptsV; rw [if_pos hok, hf, scRun, e1, scRun, e2]; simp [rd]
  · unfold scriptsV; rw [if_pos hok, hf, scRun, e1, scRun, e2, show (M.length : Int) + 2 = ((M.length + 2 : Nat) : Int) by omega, rd_nat]
    simpa using hp
def tile (sc : List Int) : Nat → List SR → Nat → Prop
  | a, [], b => a = b
  | a, r :: R, b => ∃ e : Nat, r.f0 = (a : Int) ∧ a < e ∧ r.f1 = (e : Int) ∧ (∀ j, a ≤ j → j < e → sc.getD j 0 = r.f2) ∧ tile sc e R b
theorem tile_snoc (sc : List Int) (r : SR) (b : Nat) : ∀ (R : List SR) (a : Nat), tile sc a (R ++ [r]) b ↔ ∃ m, tile sc a R m ∧ r.f0 = (m : Int) ∧ m < b ∧ r.f1 = (b : Int) ∧ (∀ j, m ≤ j → j < b → sc.getD j 0 = r.f2)
  | [], a => by
    simp only [List.nil_append, tile]
    constructor
    · rintro ⟨e, h1, h2, h3, h4, h5⟩
      subst h5
      exact ⟨a, rfl, h1, h2, h3, h4⟩
    · rintro ⟨m, h1, h2, h3, h4, h5⟩
      subst h1
      exact ⟨b, h2, h3, h4, h5, rfl⟩
  | x :: R, a => by
    simp only [List.cons_append, tile]
    constructor
    · rintro ⟨e, h1, h2, h3, h4, h5⟩
      obtain ⟨m, m1, m2⟩ := (tile_snoc sc r b R e).1 h5
      exact ⟨m, ⟨e, h1, h2, h3, h4, m1⟩, m2⟩
    · rintro ⟨m, ⟨e, h1, h2, h3, h4, h5⟩, m2⟩
      exact ⟨e, h1, h2, h3, h4, (tile_snoc sc r b R e).2 ⟨m, h5, m2⟩⟩
theorem tile_step {sc : List Int} (hb : ∀ x ∈ sc, 0 ≤ x) {out : List SR} {i : Nat} (hi : i < sc.length) (h : tile sc 0 out i) : tile sc 0 (rnStep out (i : Int) (sc.getD i 0)) (i + 1) := by
  have hg : ∀ j, j < sc.length → 0 ≤ sc.getD j 0 := by
    intro j hj
    have := hb _ (List.getElem_mem hj)
    simpa [List.getD_eq_getElem?_getD, hj] using this
  have one : ∀ j, i ≤ j → j < i + 1 → sc.getD j 0 = sc.getD i 0 := fun j h1 h2 => by rw [show j = i by omega]
  have happ : tile sc 0 (out ++ [(⟨(i : Int), (i : Int) + 1, sc.getD i 0⟩ : SR)]) (i + 1) :=
    (tile_snoc sc _ _ out 0).2 ⟨i, h, rfl, by omega, by simp, one⟩
  unfold rnStep
  split
  · exact happ
  · rename_i hne
    obtain ⟨R, r, rfl⟩ : ∃ R r, out = R ++ [r] := by
      rcases List.eq_nil_or_concat out with h | ⟨R, r, h⟩
      · subst h; simp at hne
      · exact ⟨R, r, by rw [h, List.concat_eq_append]⟩
    have hl : lastR (R ++ [r]) = r := by simp [lastR, List.getD_eq_getElem?_getD]
    obtain ⟨m, m1, m2, m3, m4, m5⟩ := (tile_snoc sc r i R 0).1 h
    have hr : 0 ≤ r.f2 := by rw [← m5 m (Nat.le_refl _) m3]; exact hg m (by omega)
    have hlv := hg i hi
    have hset : ∀ x : SR, (R ++ [r]).set ((R ++ [r]).length - 1) x = R ++ [x] := fun x => by simp
    rw [hl]
    split
    · rename_i hc
      have hc : sc.getD i 0 = r.f2 := by rcases hc with hc | hc; omega; exact hc
      rw [hset]
      refine (tile_snoc sc _ _ R 0).2 ⟨m, m1, m2, by omega, by simp, fun j h1 h2 => ?_⟩
      by_cases hj : j = i
      · rw [hj, hc]
      · exact m5 j h1 (by omega)
    · rw [if_neg (by omega)]
      exact happ
theorem tile_run {sc : List Int} (hb : ∀ x ∈ sc, 0 ≤ x) : ∀ (d i : Nat) (out : List SR), sc.length - i = d → i ≤ sc.length → tile sc 0 out i → tile sc 0 (rnRun out (i : Int) (sc.drop i)) sc.length
  | 0, i, out, hd, hi, h => by
    have e : i = sc.length := by omega
    subst e
    rw [List.drop_length, rnRun]; exact h
  | d + 1, i, out, hd, hi, h => by
    have hlt : i < sc.length := by omega
    rw [rnRun_at _ _ _ hlt]
    exact tile_run hb d (i + 1) _ (by omega) (by omega) (tile_step hb hlt h)
theorem mates2_l {sc : List Int} {runs : List SR} {S2 : List Int} {j : Nat} (hj : j < runs.length) {e : Nat} (he : (runs[j]).f1 = (e : Int)) (hen : e ≤ sc.length) (hn : sc.length ≤ 1000) {K : Nat} : ∀ (d k i : Nat), e - i = d → i ≤ e → d + K < k →
    (∀ t, i ≤ t → t < e → sc.getD t 0 = (runs[j]).f2) → ∃ k', K ≤ k' ∧ laws_FnScriptMates.l2 k sc runs S2 (i : Int) (j : Int) (i : Int) = laws_FnScriptMates.l1 k' sc runs S2 (e : Int) (wrap64 ((j : Int) + 1))
  | 0, k, i, hd, hi, hk, hs => by
    obtain ⟨k, rfl⟩ : ∃ m, k = m + 1 := ⟨k - 1, by omega⟩
    have ei : i = e := by omega
    subst ei
    refine ⟨k, by omega, ?_⟩
    rw [laws_FnScriptMates.l2, if_pos (by omega), if_pos (by omega), rdR_get hj, he, if_neg (by omega)]
  | d + 1, k, i, hd, hi, hk, hs => by
    obtain ⟨k, rfl⟩ : ∃ m, k = m + 1 := ⟨k - 1, by omega⟩
    obtain ⟨k', h1, h2⟩ := mates2_l (S2 := S2) hj he hen hn (K := K) d k (i + 1) (by omega) (by omega) (by omega) (fun t h1 h2 => hs t (by omega) h2)
    refine ⟨k', h1, ?_⟩
    rw [laws_FnScriptMates.l2, if_pos (by omega), if_pos (by omega), rdR_get hj, he, if_pos (by omega), if_pos (by omega), if_pos (by omega), rd_nat, hs i (Nat.le_refl _) (by omega), if_pos rfl, if_pos rfl, w64 (by omega) (by omega)]
    exact h2
theorem tile_le {sc : List Int} : ∀ (R : List SR) (a b : Nat), tile sc a R b → a ≤ b
  | [], a, b, h => by simp only [tile] at h; omega
  | r :: R, a, b, h => by
    simp only [tile] at h
    obtain ⟨e, h1, h2, h3, h4, h5⟩ := h
    have := tile_le R e b h5
    omega
theorem mates1_l {sc S2 : List Int} {m : Nat} (hm : m ≤ 1000) (h2l : S2.length = m + 3) (h21 : rd S2 1 = 1) (h22 : rd S2 ((m : Int) + 2) = 1) (hn : sc.length ≤ 1000) : ∀ (R pre : List SR) (a k : Nat), tile sc a R sc.length → pre.length + R.length ≤ 1000 → 2000 * R.length + 10 < k →
    laws_FnScriptMates.l1 k sc (pre ++ R) S2 (a : Int) (pre.length : Int) = some true
  | [], pre, a, k, ht, hp, hk => by
    obtain ⟨k, rfl⟩ : ∃ m, k = m + 1 := ⟨k - 1, by omega⟩
    simp only [tile] at ht
    rw [laws_FnScriptMates.l1, if_neg (by simp), if_pos (by omega), h21, if_pos rfl, w64 (by omega) (by omega), if_pos (by omega), if_pos (by omega), show (S2.length : Int) - 1 = (m : Int) + 2 by omega, h22, if_pos rfl, ht]
    simp
  | r :: R, pre, a, k, ht, hp, hk => by
    have hle := tile_le _ _ _ ht
    obtain ⟨k, rfl⟩ : ∃ m, k = m + 1 := ⟨k - 1, by omega⟩
    simp only [tile] at ht
    obtain ⟨e, h1, h2, h3, h4, h5⟩ := ht
    have hle2 := tile_le _ _ _ h5
    have hj : pre.length < (pre ++ r :: R).length := by simp
    have hr : (pre ++ r :: R)[pre.length] = r := by simp
    simp only [List.length_cons] at hp hk
    obtain ⟨k', k1, k2⟩ := mates2_l (S2 := S2) hj (e := e) (by rw [hr]; exact h3) hle2 hn (K := 2000 * R.length + 11) (e - a) k a rfl (by omega) (by omega) (by rw [hr]; exact h4)
    rw [laws_FnScriptMates.l1, if_pos (by simp; omega), if_pos (by omega), rdR_get hj, hr, h1, k2, w64 (by omega) (by omega)]
    have := mates1_l hm h2l h21 h22 hn R (pre ++ [r]) e k' h5 (by simp; omega) (by omega)
    rw [List.append_assoc, List.singleton_append] at this
    simpa using this
theorem mates0_l {t sc : List Int} {runs : List SR} (hok : okV t = true) (hn : t.length ≤ 77) (hsc : sc.length ≤ 1000) (ht : tile sc 0 runs sc.length) (hr : runs.length ≤ 100) : ∀ (d k i : Nat), t.length - i = d → i ≤ t.length → d + 300000 < k →
    laws_FnScriptMates.l0 k t sc runs ((t.take i).filter fun x => decide (mateV x = 0)) (i : Int) = some true
  | 0, k, i, hd, hi, hk => by
    obtain ⟨k, rfl⟩ : ∃ m, k = m + 1 := ⟨k - 1, by omega⟩
    have e : i = t.length := by omega
    subst e
    have hl : (t.filter fun x => decide (mateV x = 0)).length ≤ t.length := List.length_filter_le _ _
    obtain ⟨S2, hS, h1, h2, h3⟩ := brackets (M := t.filter fun x => decide (mateV x = 0)) (fun x hx => by
      rw [List.mem_filter] at hx
      exact ⟨of_decide_eq_true hx.2, ok_let hok hx.1⟩) (by omega)
    rw [List.take_length]
    generalize t.filter (fun x => decide (mateV x = 0)) = M at *
    rw [laws_FnScriptMates.l0, if_neg (by omega), Option.bind_some, if_pos (by simp; omega), Option.bind_some, if_pos (by simp; omega), show ([97, 40] ++ M ++ [41] : List Int) = 97 :: 40 :: (M ++ [41]) by simp, implScriptsOf_p, Option.bind_some, hS]
    have := mates1_l (m := M.length) (by omega) h1 h2 h3 hsc runs [] 0 k ht (by simp; omega) (by omega)
    simpa using this
  | d + 1, k, i, hd, hi, hk => by
    obtain ⟨k, rfl⟩ : ∃ m, k = m + 1 := ⟨k - 1, by omega⟩
    have hlt : i < t.length := by omega
    have ih := mates0_l hok hn hsc ht hr d k (i + 1) (by omega) (by omega) (by omega)
    have hm := let_wf (ok_let hok (List.getElem_mem hlt))
    have hl : ((t.take i).filter fun x => decide (mateV x = 0)).length ≤ (t.take i).length := List.length_filter_le _ _
    have hl2 : (t.take i).length ≤ i := by simp; omega
    rw [List.take_succ_eq_append_getElem hlt, List.filter_append] at ih
    rw [laws_FnScriptMates.l0, if_pos (by omega), if_pos (by omega), rd_get hlt, impl_RuneMate.f, if_pos hm, Option.bind_some, w64 (by omega) (by omega)]
    by_cases h : mateV t[i] = 0
    · rw [if_pos h, if_pos (by omega)]
      simpa [List.filter, h] using ih
    · rw [if_neg h]
      simpa [List.filter, h] using ih
theorem FnScriptMates : laws_FnScriptMates.Pure := by
  intro l _ _ hl
  refine ⟨1000001, ?_⟩
  unfold laws_FnScriptMates.f
  by_cases h : (l.length : Int) > 1048576
  · rw [if_pos h]
  · obtain ⟨t, ht, htl⟩ := drawSc_k hl (k := 1000001) (by omega)
    have hsl := scriptsV_len t
    obtain ⟨b, hb, hbo⟩ := wcOk_p (l := t) (k := 1000001) (by omega) (by omega)
    have er : impl_ScriptRuns.f 1000001 t = some (runsV (scriptsV t)) := by
      unfold impl_ScriptRuns.f
      rw [implScriptsOf_p, Option.bind_some, implRunsOf_p (by omega)]
      rfl
    rw [if_neg h, ht, Option.bind_some, implScriptsOf_p, Option.bind_some, er, Option.bind_some, specScriptsOf_p (by omega) (by omega), Option.bind_some, wcInts_p (by omega) (by omega), Option.bind_some, if_pos rfl, hb, Option.bind_some]
    have jt : laws_FnScriptMates.j0 1000001 t (scriptsV t) (runsV (scriptsV t)) true = some true := by
      rw [laws_FnScriptMates.j0, if_pos rfl, specScriptsOf_p (by omega) (by omega), Option.bind_some, wcInts_p (by omega) (by omega), Option.bind_some]
    cases b
    · rw [if_neg (by simp)]; exact jt
    · rw [if_pos rfl, w64 (by omega) (by omega)]
      by_cases hl3 : (t.length : Int) + 3 > 80
      · rw [decide_eq_true hl3]; exact jt
      · have hok := hbo rfl
        have hrl := runsV_len (scriptsV t)
        have htile : tile (scriptsV t) 0 (runsV (scriptsV t)) (scriptsV t).length := by
          unfold runsV
          rw [if_pos (scripts_lev t)]
          have := tile_run (sc := scriptsV t) (fun x hx => (scripts_bd t x hx).1) (scriptsV t).length 0 [] (by omega) (by omega) rfl
          simpa using this
        rw [decide_eq_false hl3, laws_FnScriptMates.j0, if_neg (by simp)]
        have := mates0_l hok (by omega) (by omega) htile (by omega) t.length 1000000 0 (by omega) (by omega) (by omega)
        simpa using this
end Go.Proofs.Ytoafenblaioopaa.Pure
