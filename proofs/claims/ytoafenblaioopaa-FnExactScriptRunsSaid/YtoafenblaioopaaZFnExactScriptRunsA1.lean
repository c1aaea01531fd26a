/- The program's ScriptRuns answers as the reference's, for every list of whole numbers; it writes into no argument and its answer is memory of its own. No condition beyond the statement's own. (text 2 of 4 of this claim: functions of the program and of the reference as plain Lean functions, what a call of each comes to, and what follows.) -/
import Derived.Test.YtoafenblaioopaaZFnExactScriptRunsA0
namespace Go.Proofs.Ytoafenblaioopaa.S
open Go.RowKit Go.Proofs.YtoafenblaioopaaW.PrintWords Go.Proofs.YtoafenblaioopaaW.PrintLast Go.Proofs.YtoafenblaioopaaW.PrintMore
attribute [local go_sem] max2_int min2_int max_two min_two max_three min_three max_four min_four   -- for this text's walks alone
set_option linter.unusedVariables false
set_option linter.unusedSimpArgs false

/-! ### spec_RunsOf: function 72 -/
mutual
def spec_RunsOf.l0 : Nat → List Int → List (S53) → Int → Option ((List (S53)))
  | 0, _, _, _ => none
  | k + 1, x0, x3, x4 => if x4 < (x0.length : Int) then (if (x3.length : Int) = 0 then (if 0 ≤ x4 then (if x3.length < 5864062014805 then (spec_RunsOf.l0 k x0 (x3 ++ [(⟨x4, wrap64 (x4 + 1), rd x0 x4⟩ : S53)]) (wrap64 (x4 + 1))) else (none)) else (none)) else (if 0 ≤ x4 then (if (rd x0 x4) < 0 then (spec_RunsOf.j1 k x0 x3 x4 (x3.length : Int) true) else (if 0 ≤ (wrap64 ((x3.length : Int) - 1)) then (if (wrap64 ((x3.length : Int) - 1)) < (x3.length : Int) then (spec_RunsOf.j1 k x0 x3 x4 (x3.length : Int) ((rd x0 x4) == ((rd_T53 x3 (wrap64 ((x3.length : Int) - 1))).f2))) else (none)) else (none))) else (none))) else (some x3)
def spec_RunsOf.j1 : Nat → List Int → List (S53) → Int → Int → Bool → Option ((List (S53)))
  | 0, _, _, _, _, _ => none
  | k + 1, x0, x3, x4, x5, x44 => if x44 = true then (if 0 ≤ (wrap64 (x5 - 1)) then (if (wrap64 (x5 - 1)) < (x3.length : Int) then (spec_RunsOf.l0 k x0 (x3.set ((wrap64 (x5 - 1)) : Int).toNat (⟨(rd_T53 x3 (wrap64 (x5 - 1))).f0, wrap64 (x4 + 1), (rd_T53 x3 (wrap64 (x5 - 1))).f2⟩ : S53)) (wrap64 (x4 + 1))) else (none)) else (none)) else (if 0 ≤ (wrap64 (x5 - 1)) then (if (wrap64 (x5 - 1)) < (x3.length : Int) then (if ((rd_T53 x3 (wrap64 (x5 - 1))).f2) < 0 then ((some (x3.set ((wrap64 (x5 - 1)) : Int).toNat (⟨(rd_T53 x3 (wrap64 (x5 - 1))).f0, wrap64 (x4 + 1), (rd_T53 x3 (wrap64 (x5 - 1))).f2⟩ : S53) : List (S53))).bind fun y599 => (if 0 ≤ x4 then (if x4 < (x0.length : Int) then (spec_RunsOf.l0 k x0 (y599.set ((wrap64 (x5 - 1)) : Int).toNat (⟨(rd_T53 y599 (wrap64 (x5 - 1))).f0, (rd_T53 y599 (wrap64 (x5 - 1))).f1, rd x0 x4⟩ : S53)) (wrap64 (x4 + 1))) else (none)) else (none))) else (if 0 ≤ x4 then (if x4 < (x0.length : Int) then (if x3.length < 5864062014805 then (spec_RunsOf.l0 k x0 (x3 ++ [(⟨x4, wrap64 (x4 + 1), rd x0 x4⟩ : S53)]) (wrap64 (x4 + 1))) else (none)) else (none)) else (none))) else (none)) else (none))
end
def spec_RunsOf.f (k : Nat) (l0 : List Int) : Option ((List (S53))) := (some (([] : List (S53)) : List (S53))).bind fun y586 => ((spec_l4Ok.f k l0).bind fun t589 => (if t589 = true then (spec_RunsOf.l0 k l0 y586 0) else (some y586)))
theorem spec_RunsOf.mono_l : ∀ k, (∀ y0 y1 y2, LeO (spec_RunsOf.l0 k y0 y1 y2) (spec_RunsOf.l0 (k + 1) y0 y1 y2)) ∧ (∀ y0 y1 y2 y3 y4, LeO (spec_RunsOf.j1 k y0 y1 y2 y3 y4) (spec_RunsOf.j1 (k + 1) y0 y1 y2 y3 y4))
  | 0 => ⟨fun _ _ _ r h => by simp [spec_RunsOf.l0] at h, fun _ _ _ _ _ r h => by simp [spec_RunsOf.j1] at h⟩
  | k + 1 => by
    obtain ⟨ih0, ih1⟩ := spec_RunsOf.mono_l k
    refine ⟨?_, ?_⟩
    · intro y0 y1 y2
      unfold spec_RunsOf.l0
      repeat' first
      | (with_reducible exact ih0 _ _ _)
      | (with_reducible exact ih1 _ _ _ _ _)
      | (with_reducible exact spec_l4Ok.mono _ _)
      | (with_reducible exact LeO.refl _)
      | (with_reducible exact LeO.none _)
      | (with_reducible refine LeO.ite ?_ ?_)
      | (with_reducible refine LeO.bind ?_ (fun _ => ?_))
      | exact ih0 _ _ _
      | exact ih1 _ _ _ _ _
      | exact spec_l4Ok.mono _ _
      | exact LeO.none _
      | refine LeO.ite ?_ ?_
      | refine LeO.bind ?_ (fun _ => ?_)
    · intro y0 y1 y2 y3 y4
      unfold spec_RunsOf.j1
      repeat' first
      | (with_reducible exact ih0 _ _ _)
      | (with_reducible exact ih1 _ _ _ _ _)
      | (with_reducible exact spec_l4Ok.mono _ _)
      | (with_reducible exact LeO.refl _)
      | (with_reducible exact LeO.none _)
      | (with_reducible refine LeO.ite ?_ ?_)
      | (with_reducible refine LeO.bind ?_ (fun _ => ?_))
      | exact ih0 _ _ _
      | exact ih1 _ _ _ _ _
      | exact spec_l4Ok.mono _ _
      | exact LeO.none _
      | refine LeO.ite ?_ ?_
      | refine LeO.bind ?_ (fun _ => ?_)
theorem spec_RunsOf.mono : ∀ a0 k, LeO (spec_RunsOf.f k a0) (spec_RunsOf.f (k + 1) a0) := by
  intro a0 k
  obtain ⟨ih0, ih1⟩ := spec_RunsOf.mono_l k
  unfold spec_RunsOf.f
  repeat' first
      | (with_reducible exact ih0 _ _ _)
      | (with_reducible exact ih1 _ _ _ _ _)
      | (with_reducible exact spec_l4Ok.mono _ _)
      | (with_reducible exact LeO.refl _)
      | (with_reducible exact LeO.none _)
      | (with_reducible refine LeO.ite ?_ ?_)
      | (with_reducible refine LeO.bind ?_ (fun _ => ?_))
      | exact ih0 _ _ _
      | exact ih1 _ _ _ _ _
      | exact spec_l4Ok.mono _ _
      | exact LeO.none _
      | refine LeO.ite ?_ ?_
      | refine LeO.bind ?_ (fun _ => ?_)
set_option maxHeartbeats 8000000 in
set_option maxRecDepth 100000 in
theorem spec_RunsOf.calls (k : Nat) (A0 : Option Addr) (c0 : Nat) (l0 : List Int) (r : List (S53)) (w : World) (hr0 : Kd.C (Kd.int .i64) w A0 l0.length l0) (hc0 : l0.length ≤ c0) (h : spec_RunsOf.f k l0 = some r) :
    Calls Try.prog 72 #[.slice A0 l0.length c0] w fun e w' => ∃ v0_ : Value, e = .returned (v0_) ∧ Kd.R k53 53 w' w.heap.size (fun _ => True) v0_ r ∧ Below w.heap.size w w' := by
  have hu53 := Try.underlying53
  have HR0 := Aside0.mk hr0
  have HC0 := Aside0.mk hc0
  clear hr0 hc0
  have HB := Aside0.mk (Below.refl w.heap.size w)
  have H : ((some (([] : List (S53)) : List (S53))).bind fun y586 => ((spec_l4Ok.f k l0).bind fun t589 => (if t589 = true then (spec_RunsOf.l0 k l0 y586 0) else (some y586)))) = some r := h
  clear h
  obtain ⟨y586, hy586⟩ : ∃ y_ : List (S53), y_ = (([] : List (S53))) := ⟨_, rfl⟩
  replace H : ((spec_l4Ok.f k l0).bind fun t589 => (if t589 = true then (spec_RunsOf.l0 k l0 y586 0) else (some y586))) = some r := by first | (rw [hy586]; with_reducible exact H) | (have H2_ := (Option.bind_some _ _).symm.trans H; rw [hy586]; with_reducible exact H2_) | (have H2_ := (Option.bind_some _ _).symm.trans H; with_reducible exact H2_) | with_reducible exact H | (rw [hy586]; exact H) | exact H
  have Ny586 := Aside0.mk hy586
  clear hy586
  replace H := Option.bind_eq_some_iff.mp H
  obtain ⟨t589, A20, H⟩ := H
  replace H : (if t589 = true then (spec_RunsOf.l0 k l0 y586 0) else (some y586)) = some r := H
  have A2 := Aside0.mk A20
  clear A20
  by_cases c3 : t589 = true
  · subst c3
    have H1 : (spec_RunsOf.l0 k l0 y586 0) = some r := by rw [if_pos rfl] at H; exact H
    clear H
    have H := H1
    clear H1
    have H' := Aside0.mk H
    clear H
    go_enter Try.func72, Try.ntmps72
    go_wp2_with (first | ((with_reducible refine gate_dst (N := 6) rfl ?_); refine Kd.R_lit k53 _ 53 ?hg (N := 6) ?hd (xs := ([] : List (S53))) (inner := []) (ok := fun _ => True) (okp := fun _ => True) ?hr ?hp (fun _ hk => hk) trivial (Below.refl _ _) (Nat.le_refl _) (by simp) ?_; (case hd => rfl); (case hg => rfl); (case hr => first | (go_simp; done) | (go_simp; rfl)); (case hp => exact (Reps.none _ _)); intro v587 w4 ho5 hb hg_ hnew_; clear hg_ hnew_; (first | rw [← Ny586.out] at ho5 | (simp only [Int.reduceToNat] at ho5; rw [← Ny586.out] at ho5)); have n0_ := Aside0.mk (Kd.R_lower ho5 (below_size (by repeat (first | (with_reducible first | exact HB.out | apply below_alloc | apply pw_below_drewN | apply below_drew1) | exact HB.out)))); have n1_ := Aside0.mk (below_step (by repeat (first | (with_reducible first | exact HB.out | apply below_alloc | apply pw_below_drewN | apply below_drew1) | exact HB.out)) hb); clear HB; have HO588 := n0_; have HB := n1_; clear n0_ n1_; clear hb ho5) | (go_at_call 100; (with_reducible refine (spec_l4Ok.calls k _ _ l0 true _ ?side1 ?side2 A2.out).mono ?_); (case side1 => repeat (first | exact (Kd.C_below HR0.out HB.out) | (with_reducible refine Kd.C_alloc ?_ _) | (with_reducible refine Kd.C_drewN ?_ _) | (with_reducible refine Kd.C_drew ?_))); (case side2 => exact HC0.out); rintro e w' ⟨rfl, ⟨nd, rfl⟩⟩; (try first | exact ⟨rfl, _, World.drewN_drewN _ _ _⟩ | exact ⟨rfl, _, Eq.trans (World.drewN_drewN _ _ _) (congrArg (World.drewN _) (Nat.add_assoc _ _ _))⟩)))
    repeat (go_quiet (first | ((with_reducible refine gate_dst (N := 6) rfl ?_); refine Kd.R_lit k53 _ 53 ?hg (N := 6) ?hd (xs := ([] : List (S53))) (inner := []) (ok := fun _ => True) (okp := fun _ => True) ?hr ?hp (fun _ hk => hk) trivial (Below.refl _ _) (Nat.le_refl _) (by simp) ?_; (case hd => rfl); (case hg => rfl); (case hr => first | (go_simp; done) | (go_simp; rfl)); (case hp => exact (Reps.none _ _)); intro v587 w4 ho5 hb hg_ hnew_; clear hg_ hnew_; (first | rw [← Ny586.out] at ho5 | (simp only [Int.reduceToNat] at ho5; rw [← Ny586.out] at ho5)); have n0_ := Aside0.mk (Kd.R_lower ho5 (below_size (by repeat (first | (with_reducible first | exact HB.out | apply below_alloc | apply pw_below_drewN | apply below_drew1) | exact HB.out)))); have n1_ := Aside0.mk (below_step (by repeat (first | (with_reducible first | exact HB.out | apply below_alloc | apply pw_below_drewN | apply below_drew1) | exact HB.out)) hb); clear HB; have HO588 := n0_; have HB := n1_; clear n0_ n1_; clear hb ho5) | (go_at_call 100; (with_reducible refine (spec_l4Ok.calls k _ _ l0 true _ ?side1 ?side2 A2.out).mono ?_); (case side1 => repeat (first | exact (Kd.C_below HR0.out HB.out) | (with_reducible refine Kd.C_alloc ?_ _) | (with_reducible refine Kd.C_drewN ?_ _) | (with_reducible refine Kd.C_drew ?_))); (case side2 => exact HC0.out); rintro e w' ⟨rfl, ⟨nd, rfl⟩⟩; (try first | exact ⟨rfl, _, World.drewN_drewN _ _ _⟩ | exact ⟨rfl, _, Eq.trans (World.drewN_drewN _ _ _) (congrArg (World.drewN _) (Nat.add_assoc _ _ _))⟩))); try go_wp2_with (first | ((with_reducible refine gate_dst (N := 6) rfl ?_); refine Kd.R_lit k53 _ 53 ?hg (N := 6) ?hd (xs := ([] : List (S53))) (inner := []) (ok := fun _ => True) (okp := fun _ => True) ?hr ?hp (fun _ hk => hk) trivial (Below.refl _ _) (Nat.le_refl _) (by simp) ?_; (case hd => rfl); (case hg => rfl); (case hr => first | (go_simp; done) | (go_simp; rfl)); (case hp => exact (Reps.none _ _)); intro v587 w4 ho5 hb hg_ hnew_; clear hg_ hnew_; (first | rw [← Ny586.out] at ho5 | (simp only [Int.reduceToNat] at ho5; rw [← Ny586.out] at ho5)); have n0_ := Aside0.mk (Kd.R_lower ho5 (below_size (by repeat (first | (with_reducible first | exact HB.out | apply below_alloc | apply pw_below_drewN | apply below_drew1) | exact HB.out)))); have n1_ := Aside0.mk (below_step (by repeat (first | (with_reducible first | exact HB.out | apply below_alloc | apply pw_below_drewN | apply below_drew1) | exact HB.out)) hb); clear HB; have HO588 := n0_; have HB := n1_; clear n0_ n1_; clear hb ho5) | (go_at_call 100; (with_reducible refine (spec_l4Ok.calls k _ _ l0 true _ ?side1 ?side2 A2.out).mono ?_); (case side1 => repeat (first | exact (Kd.C_below HR0.out HB.out) | (with_reducible refine Kd.C_alloc ?_ _) | (with_reducible refine Kd.C_drewN ?_ _) | (with_reducible refine Kd.C_drew ?_))); (case side2 => exact HC0.out); rintro e w' ⟨rfl, ⟨nd, rfl⟩⟩; (try first | exact ⟨rfl, _, World.drewN_drewN _ _ _⟩ | exact ⟨rfl, _, Eq.trans (World.drewN_drewN _ _ _) (congrArg (World.drewN _) (Nat.add_assoc _ _ _))⟩))))
    go_loopg [3, 4] k (fun kq v3 v4 w' => ∃ (x3_1 : List (S53)) (x4_1 : Int), v4 = .int .i64 x4_1 ∧ Aside0 (spec_RunsOf.l0 kq l0 x3_1 x4_1 = some r) ∧ Aside0 (kq ≤ k) ∧ Aside0 (Kd.R k53 53 w' w.heap.size (fun _ => True) v3 x3_1) ∧ Aside0 (Below w.heap.size w w'))
    case atStart => exact ⟨(y586), (0), (by first | rfl | (simp; done) | (simp [*]; done)), H', ⟨Nat.le_refl _⟩, ⟨by (with_reducible repeat (first | apply Kd.R_alloc | apply Kd.R_drewN | apply Kd.R_drew)); exact HO588.out⟩, ⟨by repeat (first | (with_reducible first | exact HB.out | apply below_alloc | apply pw_below_drewN | apply below_drew1) | exact HB.out)⟩⟩
    case round =>
      clear H'
      try clear p2
      try clear c3
      obtain ⟨x3_1, x4_1, rfl, HA, HK1, HO_3, HB⟩ := hrel
      cases gk with
      | zero => exact absurd HA.out (by simp [spec_RunsOf.l0])
      | succ k1 =>
        have H := HA.out
        clear HA
        simp only [spec_RunsOf.l0] at H
        by_cases c6 : x4_1 < (l0.length : Int)
        · rw [if_pos c6] at H
          have c6b0 : decide (x4_1 < (l0.length : Int)) = true := decide_eq_true c6
          clear c6
          by_cases c7 : (x3_1.length : Int) = 0
          · rw [if_pos c7] at H
            have c7b0 : ((x3_1.length : Int) == 0) = true := beq_iff_eq.mpr c7
            have c7b1 : ((x3_1.length : Int) != 0) = false := bne_eq_false_iff_eq.mpr c7
            clear c7
            by_cases c8 : 0 ≤ x4_1
            · rw [if_pos c8] at H
              have c8b0 : decide (0 ≤ x4_1) = true := decide_eq_true c8
              clear c8
              by_cases c9 : x3_1.length < 5864062014805
              · rw [if_pos c9] at H
                have LMc9 := Aside0.mk c9
                clear c9
                obtain ⟨y591, hy591⟩ : ∃ y_ : List (S53), y_ = (x3_1 ++ [(⟨x4_1, wrap64 (x4_1 + 1), rd l0 x4_1⟩ : S53)]) := ⟨_, rfl⟩
                replace H : (spec_RunsOf.l0 k1 l0 y591 (wrap64 (x4_1 + 1))) = some r := by first | (rw [hy591]; with_reducible exact H) | (have H2_ := (Option.bind_some _ _).symm.trans H; rw [hy591]; with_reducible exact H2_) | (have H2_ := (Option.bind_some _ _).symm.trans H; with_reducible exact H2_) | with_reducible exact H | (rw [hy591]; exact H) | exact H
                have Ny591 := Aside0.mk hy591
                clear hy591
                have H' := Aside0.mk H
                clear H
                obtain ⟨Ao10, co10, eo10⟩ := Kd.R_slice HO_3.out
                subst eo10
                have p590 : 0 ≤ (x4_1 : Int) := of_decide_eq_true (by first | (with_reducible assumption) | assumption)
                have q590 : x4_1 < (l0.length : Int) := of_decide_eq_true (by first | (with_reducible assumption) | assumption)
                obtain ⟨ad590, e590, hx590_0⟩ := Kd.at_int HR0.out x4_1 p590 q590
                cases e590
                replace hx590_0 := (HB.out.cell (World.block_lt_of_cell? w _ hx590_0)).trans hx590_0
                replace p590 := eq_true p590
                replace q590 := eq_true q590
                go_wp2_with (first | ((with_reducible refine gate_builtin (b := .append) (xs := #[.tmp 33, .tmp 42]) rfl ?_); at_builtin; refine Kd.R_append k53 (w0 := w) w.heap.size rfl (.tmp 33) (.tmp 42) 48 53 (.agg #[(.int .i64 0), (.int .i64 0), (.int .i64 0)]) 24 rfl Try.underlying48 info53 rfl (by decide) (by omega) (.slice Ao10 x3_1.length co10) x3_1 (⟨x4_1, wrap64 (x4_1 + 1), rd l0 x4_1⟩ : S53) [.int .i64 x4_1, .int .i64 (wrap64 (x4_1 + 1)), .int .i64 (rd l0 x4_1)] (fun _ => True) (fun _ => False) rfl rfl ?aP (fun _ hk => hk.elim) ?aF ?aO ?aB ?aS ?aL ?_; (case aP => exact k53_mkM _ _ _ (⟨x4_1, wrap64 (x4_1 + 1), rd l0 x4_1⟩ : S53)); (case aB => exact (by repeat (first | (with_reducible first | exact HB.out | apply below_alloc | apply pw_below_drewN | apply below_drew1) | exact HB.out))); (case aF => exact (fun _ _ => trivial)); (case aO => exact (by (with_reducible repeat (first | apply Kd.R_alloc | apply Kd.R_drewN | apply Kd.R_drew)); exact HO_3.out)); (case aS => exact (below_size (by repeat (first | (with_reducible first | exact HB.out | apply below_alloc | apply pw_below_drewN | apply below_drew1) | exact HB.out)))); (case aL => have := LMc9.out; omega); intro v592 w11 ho hb hg hat; rw [← Ny591.out] at ho; have n0_ := Aside0.mk (hb); have n1_ := Aside0.mk (ho); clear HB; clear HO_3; have HB := n0_; have HO593 := n1_; clear n0_ n1_; clear ho hb hg hat))
                repeat (go_quiet (first | ((with_reducible refine gate_builtin (b := .append) (xs := #[.tmp 33, .tmp 42]) rfl ?_); at_builtin; refine Kd.R_append k53 (w0 := w) w.heap.size rfl (.tmp 33) (.tmp 42) 48 53 (.agg #[(.int .i64 0), (.int .i64 0), (.int .i64 0)]) 24 rfl Try.underlying48 info53 rfl (by decide) (by omega) (.slice Ao10 x3_1.length co10) x3_1 (⟨x4_1, wrap64 (x4_1 + 1), rd l0 x4_1⟩ : S53) [.int .i64 x4_1, .int .i64 (wrap64 (x4_1 + 1)), .int .i64 (rd l0 x4_1)] (fun _ => True) (fun _ => False) rfl rfl ?aP (fun _ hk => hk.elim) ?aF ?aO ?aB ?aS ?aL ?_; (case aP => exact k53_mkM _ _ _ (⟨x4_1, wrap64 (x4_1 + 1), rd l0 x4_1⟩ : S53)); (case aB => exact (by repeat (first | (with_reducible first | exact HB.out | apply below_alloc | apply pw_below_drewN | apply below_drew1) | exact HB.out))); (case aF => exact (fun _ _ => trivial)); (case aO => exact (by (with_reducible repeat (first | apply Kd.R_alloc | apply Kd.R_drewN | apply Kd.R_drew)); exact HO_3.out)); (case aS => exact (below_size (by repeat (first | (with_reducible first | exact HB.out | apply below_alloc | apply pw_below_drewN | apply below_drew1) | exact HB.out)))); (case aL => have := LMc9.out; omega); intro v592 w11 ho hb hg hat; rw [← Ny591.out] at ho; have n0_ := Aside0.mk (hb); have n1_ := Aside0.mk (ho); clear HB; clear HO_3; have HB := n0_; have HO593 := n1_; clear n0_ n1_; clear ho hb hg hat)); try go_wp2_with (first | ((with_reducible refine gate_builtin (b := .append) (xs := #[.tmp 33, .tmp 42]) rfl ?_); at_builtin; refine Kd.R_append k53 (w0 := w) w.heap.size rfl (.tmp 33) (.tmp 42) 48 53 (.agg #[(.int .i64 0), (.int .i64 0), (.int .i64 0)]) 24 rfl Try.underlying48 info53 rfl (by decide) (by omega) (.slice Ao10 x3_1.length co10) x3_1 (⟨x4_1, wrap64 (x4_1 + 1), rd l0 x4_1⟩ : S53) [.int .i64 x4_1, .int .i64 (wrap64 (x4_1 + 1)), .int .i64 (rd l0 x4_1)] (fun _ => True) (fun _ => False) rfl rfl ?aP (fun _ hk => hk.elim) ?aF ?aO ?aB ?aS ?aL ?_; (case aP => exact k53_mkM _ _ _ (⟨x4_1, wrap64 (x4_1 + 1), rd l0 x4_1⟩ : S53)); (case aB => exact (by repeat (first | (with_reducible first | exact HB.out | apply below_alloc | apply pw_below_drewN | apply below_drew1) | exact HB.out))); (case aF => exact (fun _ _ => trivial)); (case aO => exact (by (with_reducible repeat (first | apply Kd.R_alloc | apply Kd.R_drewN | apply Kd.R_drew)); exact HO_3.out)); (case aS => exact (below_size (by repeat (first | (with_reducible first | exact HB.out | apply below_alloc | apply pw_below_drewN | apply below_drew1) | exact HB.out)))); (case aL => have := LMc9.out; omega); intro v592 w11 ho hb hg hat; rw [← Ny591.out] at ho; have n0_ := Aside0.mk (hb); have n1_ := Aside0.mk (ho); clear HB; clear HO_3; have HB := n0_; have HO593 := n1_; clear n0_ n1_; clear ho hb hg hat)))
                go_roundg k1
                case measure => have := HK1.out; omega
                case rel => exact ⟨(y591), (wrap64 (x4_1 + 1)), (by first | rfl | (simp; done) | (simp [*]; done)), H', ⟨by have := HK1.out; omega⟩, ⟨by (with_reducible repeat (first | apply Kd.R_alloc | apply Kd.R_drewN | apply Kd.R_drew)); exact HO593.out⟩, ⟨by repeat (first | (with_reducible first | exact HB.out | apply below_alloc | apply pw_below_drewN | apply below_drew1) | exact HB.out)⟩⟩
              · rw [if_neg c9] at H
                exact absurd H (by simp)
            · rw [if_neg c8] at H
              exact absurd H (by simp)
          · rw [if_neg c7] at H
            have c7b0 : ((x3_1.length : Int) == 0) = false := beq_eq_false_iff_ne.mpr c7
            have c7b1 : ((x3_1.length : Int) != 0) = true := bne_iff_ne.mpr c7
            have c7b2 : ¬ (x3_1 = []) := fun h_ => c7 (by rw [h_]; rfl)
            have HC12 := Aside0.mk H
            clear H
            obtain ⟨Ao13, co13, eo13⟩ := Kd.R_slice HO_3.out
            subst eo13
            go_upto_region 11 with (fail)
            repeat (go_quiet (fail); go_upto_region 11 with (fail))
            go_cut [44] (fun v44 wc => ∃ (kq : Nat) (x44_11 : Bool), v44 = .bool x44_11 ∧ Aside0 (spec_RunsOf.j1 kq l0 x3_1 x4_1 (x3_1.length : Int) x44_11 = some r) ∧ Aside0 (kq ≤ k1) ∧ Aside0 (Kd.R k53 53 wc w.heap.size (fun _ => True) (.slice Ao13 x3_1.length co13) x3_1) ∧ Aside0 (Below w.heap.size w wc))
            case first =>
              have H := HC12.out
              clear HC12
              by_cases c14 : 0 ≤ x4_1
              · rw [if_pos c14] at H
                have c14b0 : decide (0 ≤ x4_1) = true := decide_eq_true c14
                clear c14
                (first | rw [c14b0] | (simp only [i64_w, i32_w]; rw [c14b0]) | skip)
                by_cases c15 : (rd l0 x4_1) < 0
                · rw [if_pos c15] at H
                  have c15b0 : decide ((rd l0 x4_1) < 0) = true := decide_eq_true c15
                  clear c15
                  have H' := Aside0.mk H
                  clear H
                  have p594 : 0 ≤ (x4_1 : Int) := of_decide_eq_true (by first | (with_reducible assumption) | assumption)
                  have q594 : x4_1 < (l0.length : Int) := of_decide_eq_true (by first | (with_reducible assumption) | assumption)
                  obtain ⟨ad594, e594, hx594_0⟩ := Kd.at_int HR0.out x4_1 p594 q594
                  cases e594
                  replace hx594_0 := (HB.out.cell (World.block_lt_of_cell? w _ hx594_0)).trans hx594_0
                  replace p594 := eq_true p594
                  replace q594 := eq_true q594
                  go_wp2
                  repeat (go_quiet (fail); try go_wp2)
                  go_meet
                  case rel => exact ⟨_, (true), (by first | rfl | (simp; done) | (simp [*]; done)), H', ⟨by have := HK1.out; first | omega | exact Nat.le_refl _⟩, ⟨by (with_reducible repeat (first | apply Kd.R_alloc | apply Kd.R_drewN | apply Kd.R_drew)); exact HO_3.out⟩, ⟨by repeat (first | (with_reducible first | exact HB.out | apply below_alloc | apply pw_below_drewN | apply below_drew1) | exact HB.out)⟩⟩
                · rw [if_neg c15] at H
                  have c15b0 : decide ((rd l0 x4_1) < 0) = false := decide_eq_false c15
                  clear c15
                  obtain ⟨ji16, hji16⟩ : ∃ j_ : Int, (wrap64 ((x3_1.length : Int) - 1)) = j_ := ⟨_, rfl⟩
                  replace H : (if 0 ≤ (ji16) then (if (ji16) < (x3_1.length : Int) then (spec_RunsOf.j1 k1 l0 x3_1 x4_1 (x3_1.length : Int) ((rd l0 x4_1) == ((rd_T53 x3_1 (ji16)).f2))) else (none)) else (none)) = some r := by first | (rw [hji16] at H; exact H) | (simp only [hji16] at H ⊢; exact H)
                  have hji16w : (IntKind.i64.wrap ((x3_1.length : Int) - 1)) = ji16 := (i64_w _).trans hji16
                  by_cases c17 : 0 ≤ (ji16)
                  · rw [if_pos c17] at H
                    have c17b0 : decide (0 ≤ (ji16)) = true := decide_eq_true c17
                    clear c17
                    by_cases c18 : (ji16) < (x3_1.length : Int)
                    · rw [if_pos c18] at H
                      have c18b0 : decide ((ji16) < (x3_1.length : Int)) = true := decide_eq_true c18
                      clear c18
                      have H' := Aside0.mk H
                      clear H
                      have p594 : 0 ≤ (x4_1 : Int) := of_decide_eq_true (by first | (with_reducible assumption) | assumption)
                      have q594 : x4_1 < (l0.length : Int) := of_decide_eq_true (by first | (with_reducible assumption) | assumption)
                      obtain ⟨ad594, e594, hx594_0⟩ := Kd.at_int HR0.out x4_1 p594 q594
                      cases e594
                      replace hx594_0 := (HB.out.cell (World.block_lt_of_cell? w _ hx594_0)).trans hx594_0
                      replace p594 := eq_true p594
                      replace q594 := eq_true q594
                      have p595 : 0 ≤ (x4_1 : Int) := of_decide_eq_true (by first | (with_reducible assumption) | assumption)
                      have q595 : x4_1 < (l0.length : Int) := of_decide_eq_true (by first | (with_reducible assumption) | assumption)
                      obtain ⟨ad595, e595, hx595_0⟩ := Kd.at_int HR0.out x4_1 p595 q595
                      obtain rfl : ad594 = ad595 := (by injection e595)
                      replace hx595_0 := (HB.out.cell (World.block_lt_of_cell? w _ hx595_0)).trans hx595_0
                      replace p595 := eq_true p595
                      replace q595 := eq_true q595
                      have p596 : 0 ≤ ((ji16) : Int) := of_decide_eq_true (by first | (with_reducible assumption) | assumption)
                      have q596 : (ji16) < (x3_1.length : Int) := of_decide_eq_true (by first | (with_reducible assumption) | assumption)
                      obtain ⟨ad596, e596, hx596_0, hx596_1, hx596_2⟩ := at_T53 (Kd.R_reads' HO_3.out).2.2 (ji16) p596 q596
                      cases e596
                      replace p596 := eq_true p596
                      replace q596 := eq_true q596
                      go_wp2
                      repeat (go_quiet (fail); try go_wp2)
                      go_meet
                      case rel => exact ⟨_, (((rd l0 x4_1) == ((rd_T53 x3_1 (ji16)).f2))), (by first | rfl | (simp; done) | (simp only [← hji16] <;> (first | rfl | simp)) | (simp [*]; done)), H', ⟨by have := HK1.out; first | omega | exact Nat.le_refl _⟩, ⟨by (with_reducible repeat (first | apply Kd.R_alloc | apply Kd.R_drewN | apply Kd.R_drew)); exact HO_3.out⟩, ⟨by repeat (first | (with_reducible first | exact HB.out | apply below_alloc | apply pw_below_drewN | apply below_drew1) | exact HB.out)⟩⟩
                    · rw [if_neg c18] at H
                      exact absurd H (by simp)
                  · rw [if_neg c17] at H
                    exact absurd H (by simp)
              · rw [if_neg c14] at H
                exact absurd H (by simp)
            case rest =>
              clear HC12
              try clear c1
              try clear p2
              try clear c3
              try clear p5
              try clear q5
              try clear hx5
              try clear c6
              try clear c6b0
              try clear p6
              try clear c7
              try clear c7b0
              try clear c7b1
              try clear c7b2
              try clear c8
              try clear c8b0
              try clear c9
              try clear c14
              try clear c14b0
              try clear c15
              try clear c15b0
              try clear c17
              try clear c17b0
              try clear c18
              try clear c18b0
              try clear hx590_0
              try clear hx594_0
              try clear hx595_0
              try clear hx596_0
              try clear hx596_1
              try clear hx596_2
              try clear p2
              try clear p590
              try clear p594
              try clear p595
              try clear p596
              try clear q590
              try clear q594
              try clear q595
              try clear q596
              obtain ⟨kq, x44_11, rfl, HA, HJ11, HO_3, HB⟩ := hcut
              cases kq with
              | zero => exact absurd HA.out (by simp [spec_RunsOf.j1])
              | succ kj11 =>
                have H := HA.out
                clear HA
                simp only [spec_RunsOf.j1] at H
                by_cases c19 : x44_11 = true
                · subst c19
                  have H1 : (if 0 ≤ (wrap64 ((x3_1.length : Int) - 1)) then (if (wrap64 ((x3_1.length : Int) - 1)) < (x3_1.length : Int) then (spec_RunsOf.l0 kj11 l0 (x3_1.set ((wrap64 ((x3_1.length : Int) - 1)) : Int).toNat (⟨(rd_T53 x3_1 (wrap64 ((x3_1.length : Int) - 1))).f0, wrap64 (x4_1 + 1), (rd_T53 x3_1 (wrap64 ((x3_1.length : Int) - 1))).f2⟩ : S53)) (wrap64 (x4_1 + 1))) else (none)) else (none)) = some r := by rw [if_pos rfl] at H; exact H
                  clear H
                  have H := H1
                  clear H1
                  obtain ⟨ji20, hji20⟩ : ∃ j_ : Int, (wrap64 ((x3_1.length : Int) - 1)) = j_ := ⟨_, rfl⟩
                  replace H : (if 0 ≤ (ji20) then (if (ji20) < (x3_1.length : Int) then (spec_RunsOf.l0 kj11 l0 (x3_1.set ((ji20) : Int).toNat (⟨(rd_T53 x3_1 (ji20)).f0, wrap64 (x4_1 + 1), (rd_T53 x3_1 (ji20)).f2⟩ : S53)) (wrap64 (x4_1 + 1))) else (none)) else (none)) = some r := by first | (rw [hji20] at H; exact H) | (simp only [hji20] at H ⊢; exact H)
                  have hji20w : (IntKind.i64.wrap ((x3_1.length : Int) - 1)) = ji20 := (i64_w _).trans hji20
                  by_cases c21 : 0 ≤ (ji20)
                  · rw [if_pos c21] at H
                    have c21b0 : decide (0 ≤ (ji20)) = true := decide_eq_true c21
                    clear c21
                    by_cases c22 : (ji20) < (x3_1.length : Int)
                    · rw [if_pos c22] at H
                      have c22b0 : decide ((ji20) < (x3_1.length : Int)) = true := decide_eq_true c22
                      clear c22
                      obtain ⟨y597, hy597⟩ : ∃ y_ : List (S53), y_ = (x3_1.set ((ji20) : Int).toNat (⟨(rd_T53 x3_1 (ji20)).f0, wrap64 (x4_1 + 1), (rd_T53 x3_1 (ji20)).f2⟩ : S53)) := ⟨_, rfl⟩
                      replace H : (spec_RunsOf.l0 kj11 l0 y597 (wrap64 (x4_1 + 1))) = some r := by first | (rw [hy597]; with_reducible exact H) | (have H2_ := (Option.bind_some _ _).symm.trans H; rw [hy597]; with_reducible exact H2_) | (have H2_ := (Option.bind_some _ _).symm.trans H; with_reducible exact H2_) | with_reducible exact H | (rw [hy597]; exact H) | exact H
                      have Ny597 := Aside0.mk hy597
                      clear hy597
                      have H' := Aside0.mk H
                      clear H
                      have p23 : 0 ≤ ((ji20) : Int) := of_decide_eq_true (by first | (with_reducible assumption) | assumption)
                      have q23 : ((ji20) : Int) < ((x3_1.length : Int) : Int) := of_decide_eq_true (by first | (with_reducible assumption) | assumption)
                      obtain ⟨go23, co23, eo23, gb23, gl23, cl23, HG23⟩ := Kd.R_form HO_3.out (by omega)
                      (first | cases eo23 | (injection eo23 with ea_ en_ ec_; (first | subst ea_ | (injection ea_ with ea_; subst ea_)); subst ec_; clear en_))
                      have GB23 := Aside0.mk gb23
                      have GG23 := Aside0.mk HG23
                      clear gb23 gl23 HG23
                      obtain ⟨ce23, hcl23, hM23, hcc23, hfr23⟩ := Kd.R_elem HO_3.out z53 ((ji20) : Int) p23 q23
                      obtain rfl := k53_openM hM23
                      have hx23_0 : wc.cell? ⟨go23, ((ji20) : Int).toNat * 3, none⟩ = some (.int .i64 ((rd_T53 x3_1 (ji20)).f0)) := hcc23 0 _ rfl
                      have hx23_1 : wc.cell? ⟨go23, ((ji20) : Int).toNat * 3 + 1, none⟩ = some (.int .i64 ((rd_T53 x3_1 (ji20)).f1)) := hcc23 1 _ rfl
                      have hx23_2 : wc.cell? ⟨go23, ((ji20) : Int).toNat * 3 + 2, none⟩ = some (.int .i64 ((rd_T53 x3_1 (ji20)).f2)) := hcc23 2 _ rfl
                      have hf23_0 : wc.frozen? ⟨go23, ((ji20) : Int).toNat * 3, none⟩ = false := hfr23 0
                      have hf23_1 : wc.frozen? ⟨go23, ((ji20) : Int).toNat * 3 + 1, none⟩ = false := hfr23 1
                      have hf23_2 : wc.frozen? ⟨go23, ((ji20) : Int).toNat * 3 + 2, none⟩ = false := hfr23 2
                      clear hcl23 hcc23 hfr23 hM23
                      replace p23 := eq_true p23
                      replace q23 := eq_true q23
                      have HX24 := Aside0.mk (show Kd.R k53 53 wc w.heap.size (fun _ => True) (.slice (some ⟨go23, 0, none⟩) x3_1.length co13) x3_1 from (by (with_reducible repeat (first | apply Kd.R_alloc | apply Kd.R_drewN | apply Kd.R_drew)); exact HO_3.out))
                      obtain ⟨ce24, hcl24, hM24, hcc24, hfr24⟩ := Kd.R_elem HX24.out z53 ((ji20) : Int) (of_decide_eq_true (by first | (with_reducible assumption) | assumption)) (by have h_ : ((ji20) : Int) < ((x3_1.length : Int) : Int) := of_decide_eq_true (by first | (with_reducible assumption) | assumption); first | exact h_ | (have e_ := (Kd.R_reads' HO_3.out).1; omega) | simpa using h_)
                      obtain rfl := k53_openM hM24
                      have HP24 := Kd.R_seg HX24.out ((ji20) : Int) (of_decide_eq_true (by first | (with_reducible assumption) | assumption)) (by have h_ : ((ji20) : Int) < ((x3_1.length : Int) : Int) := of_decide_eq_true (by first | (with_reducible assumption) | assumption); first | exact h_ | (have e_ := (Kd.R_reads' HO_3.out).1; omega) | simpa using h_) (seg := [.int .i64 (wrap64 (x4_1 + 1))]) (j := 1) hcl24 hcc24 (show 2 ≤ 3 from by decide) (x' := (⟨(rd_T53 x3_1 (ji20)).f0, wrap64 (x4_1 + 1), (rd_T53 x3_1 (ji20)).f2⟩ : S53)) (k53_mkM _ _ _ (⟨(rd_T53 x3_1 (ji20)).f0, wrap64 (x4_1 + 1), (rd_T53 x3_1 (ji20)).f2⟩ : S53) ) (fun _ hk => hk)
                      have hx24_1 := hcc24 1 _ rfl
                      (try simp only [show (k53).sz = 3 from rfl, Nat.mul_one, Nat.add_zero] at hx24_1)
                      have hf24_1 := hfr24 1
                      (try simp only [show (k53).sz = 3 from rfl, Nat.mul_one, Nat.add_zero] at hf24_1)
                      clear hcl24 hcc24 hfr24 hM24
                      go_wp2_with (first | ((with_reducible refine gate_store (t := 3) (p := 69) rfl ?_); (try (rw [drewN_self wc]; generalize hq_ : World.drewN wc _ = wc; have n0_ := Aside0.mk (Kd.R_at hq_ HO_3.out); have n1_ := Aside0.mk (below_at hq_ HB.out); clear hq_ HO_3 HB; have HO_3 := n0_; have HB := n1_; clear n0_ n1_; (try (have HX24 := Aside0.mk (show Kd.R k53 53 wc w.heap.size (fun _ => True) (.slice (some ⟨go23, 0, none⟩) x3_1.length co13) x3_1 from (by (with_reducible repeat (first | apply Kd.R_alloc | apply Kd.R_drewN | apply Kd.R_drew)); exact HO_3.out)))); (try (obtain ⟨ce24, hcl24, hM24, hcc24, hfr24⟩ := Kd.R_elem HX24.out z53 ((ji20) : Int) (of_decide_eq_true (by first | (with_reducible assumption) | assumption)) (by have h_ : ((ji20) : Int) < ((x3_1.length : Int) : Int) := of_decide_eq_true (by first | (with_reducible assumption) | assumption); first | exact h_ | (have e_ := (Kd.R_reads' HO_3.out).1; omega) | simpa using h_))); (try (obtain rfl := k53_openM hM24)); (try (have HP24 := Kd.R_seg HX24.out ((ji20) : Int) (of_decide_eq_true (by first | (with_reducible assumption) | assumption)) (by have h_ : ((ji20) : Int) < ((x3_1.length : Int) : Int) := of_decide_eq_true (by first | (with_reducible assumption) | assumption); first | exact h_ | (have e_ := (Kd.R_reads' HO_3.out).1; omega) | simpa using h_) (seg := [.int .i64 (wrap64 (x4_1 + 1))]) (j := 1) hcl24 hcc24 (show 2 ≤ 3 from by decide) (x' := (⟨(rd_T53 x3_1 (ji20)).f0, wrap64 (x4_1 + 1), (rd_T53 x3_1 (ji20)).f2⟩ : S53)) (k53_mkM _ _ _ (⟨(rd_T53 x3_1 (ji20)).f0, wrap64 (x4_1 + 1), (rd_T53 x3_1 (ji20)).f2⟩ : S53) ) (fun _ hk => hk))); (try (have hx24_1 := hcc24 1 _ rfl)); (try (try simp only [show (k53).sz = 3 from rfl, Nat.mul_one, Nat.add_zero] at hx24_1)); (try (have hf24_1 := hfr24 1)); (try (try simp only [show (k53).sz = 3 from rfl, Nat.mul_one, Nat.add_zero] at hf24_1)); (try (clear hcl24 hcc24 hfr24 hM24)))); refine store_event (t := 3) (p := 69) (v := ?vo_w25) (w1 := (wc.setCell ⟨go23, ((ji20) : Int).toNat * 3 + 1, none⟩ (.int .i64 (wrap64 (x4_1 + 1))))) ?hg ?ho ?hn ?hr ?_; (case ho => rfl); (case hg => rfl); (case hn => rfl); (case hr => first | (go_simp; done) | (go_simp; rfl)); intro w25 hw; have hg : wc.grownBy w25 (some go23) := (by rw [hw]; exact HP24.2); have hp_ : Kd.R k53 53 w25 w.heap.size (fun _ => True) (.slice (some ⟨go23, 0, none⟩) x3_1.length co13) y597 := (by rw [hw, Ny597.out]; exact HP24.1); clear HP24; have n0_ := Aside0.mk (hp_); have n1_ := Aside0.mk ((by rw [hw]; exact below_set (HB.out) GB23.out : Below w.heap.size w w25)); clear HO_3; clear HB; have HO_3 := n0_; have HB := n1_; clear n0_ n1_; clear hg hw hp_))
                      repeat (go_quiet (first | ((with_reducible refine gate_store (t := 3) (p := 69) rfl ?_); (try (rw [drewN_self wc]; generalize hq_ : World.drewN wc _ = wc; have n0_ := Aside0.mk (Kd.R_at hq_ HO_3.out); have n1_ := Aside0.mk (below_at hq_ HB.out); clear hq_ HO_3 HB; have HO_3 := n0_; have HB := n1_; clear n0_ n1_; (try (have HX24 := Aside0.mk (show Kd.R k53 53 wc w.heap.size (fun _ => True) (.slice (some ⟨go23, 0, none⟩) x3_1.length co13) x3_1 from (by (with_reducible repeat (first | apply Kd.R_alloc | apply Kd.R_drewN | apply Kd.R_drew)); exact HO_3.out)))); (try (obtain ⟨ce24, hcl24, hM24, hcc24, hfr24⟩ := Kd.R_elem HX24.out z53 ((ji20) : Int) (of_decide_eq_true (by first | (with_reducible assumption) | assumption)) (by have h_ : ((ji20) : Int) < ((x3_1.length : Int) : Int) := of_decide_eq_true (by first | (with_reducible assumption) | assumption); first | exact h_ | (have e_ := (Kd.R_reads' HO_3.out).1; omega) | simpa using h_))); (try (obtain rfl := k53_openM hM24)); (try (have HP24 := Kd.R_seg HX24.out ((ji20) : Int) (of_decide_eq_true (by first | (with_reducible assumption) | assumption)) (by have h_ : ((ji20) : Int) < ((x3_1.length : Int) : Int) := of_decide_eq_true (by first | (with_reducible assumption) | assumption); first | exact h_ | (have e_ := (Kd.R_reads' HO_3.out).1; omega) | simpa using h_) (seg := [.int .i64 (wrap64 (x4_1 + 1))]) (j := 1) hcl24 hcc24 (show 2 ≤ 3 from by decide) (x' := (⟨(rd_T53 x3_1 (ji20)).f0, wrap64 (x4_1 + 1), (rd_T53 x3_1 (ji20)).f2⟩ : S53)) (k53_mkM _ _ _ (⟨(rd_T53 x3_1 (ji20)).f0, wrap64 (x4_1 + 1), (rd_T53 x3_1 (ji20)).f2⟩ : S53) ) (fun _ hk => hk))); (try (have hx24_1 := hcc24 1 _ rfl)); (try (try simp only [show (k53).sz = 3 from rfl, Nat.mul_one, Nat.add_zero] at hx24_1)); (try (have hf24_1 := hfr24 1)); (try (try simp only [show (k53).sz = 3 from rfl, Nat.mul_one, Nat.add_zero] at hf24_1)); (try (clear hcl24 hcc24 hfr24 hM24)))); refine store_event (t := 3) (p := 69) (v := ?vo_w25) (w1 := (wc.setCell ⟨go23, ((ji20) : Int).toNat * 3 + 1, none⟩ (.int .i64 (wrap64 (x4_1 + 1))))) ?hg ?ho ?hn ?hr ?_; (case ho => rfl); (case hg => rfl); (case hn => rfl); (case hr => first | (go_simp; done) | (go_simp; rfl)); intro w25 hw; have hg : wc.grownBy w25 (some go23) := (by rw [hw]; exact HP24.2); have hp_ : Kd.R k53 53 w25 w.heap.size (fun _ => True) (.slice (some ⟨go23, 0, none⟩) x3_1.length co13) y597 := (by rw [hw, Ny597.out]; exact HP24.1); clear HP24; have n0_ := Aside0.mk (hp_); have n1_ := Aside0.mk ((by rw [hw]; exact below_set (HB.out) GB23.out : Below w.heap.size w w25)); clear HO_3; clear HB; have HO_3 := n0_; have HB := n1_; clear n0_ n1_; clear hg hw hp_)); try go_wp2_with (first | ((with_reducible refine gate_store (t := 3) (p := 69) rfl ?_); (try (rw [drewN_self wc]; generalize hq_ : World.drewN wc _ = wc; have n0_ := Aside0.mk (Kd.R_at hq_ HO_3.out); have n1_ := Aside0.mk (below_at hq_ HB.out); clear hq_ HO_3 HB; have HO_3 := n0_; have HB := n1_; clear n0_ n1_; (try (have HX24 := Aside0.mk (show Kd.R k53 53 wc w.heap.size (fun _ => True) (.slice (some ⟨go23, 0, none⟩) x3_1.length co13) x3_1 from (by (with_reducible repeat (first | apply Kd.R_alloc | apply Kd.R_drewN | apply Kd.R_drew)); exact HO_3.out)))); (try (obtain ⟨ce24, hcl24, hM24, hcc24, hfr24⟩ := Kd.R_elem HX24.out z53 ((ji20) : Int) (of_decide_eq_true (by first | (with_reducible assumption) | assumption)) (by have h_ : ((ji20) : Int) < ((x3_1.length : Int) : Int) := of_decide_eq_true (by first | (with_reducible assumption) | assumption); first | exact h_ | (have e_ := (Kd.R_reads' HO_3.out).1; omega) | simpa using h_))); (try (obtain rfl := k53_openM hM24)); (try (have HP24 := Kd.R_seg HX24.out ((ji20) : Int) (of_decide_eq_true (by first | (with_reducible assumption) | assumption)) (by have h_ : ((ji20) : Int) < ((x3_1.length : Int) : Int) := of_decide_eq_true (by first | (with_reducible assumption) | assumption); first | exact h_ | (have e_ := (Kd.R_reads' HO_3.out).1; omega) | simpa using h_) (seg := [.int .i64 (wrap64 (x4_1 + 1))]) (j := 1) hcl24 hcc24 (show 2 ≤ 3 from by decide) (x' := (⟨(rd_T53 x3_1 (ji20)).f0, wrap64 (x4_1 + 1), (rd_T53 x3_1 (ji20)).f2⟩ : S53)) (k53_mkM _ _ _ (⟨(rd_T53 x3_1 (ji20)).f0, wrap64 (x4_1 + 1), (rd_T53 x3_1 (ji20)).f2⟩ : S53) ) (fun _ hk => hk))); (try (have hx24_1 := hcc24 1 _ rfl)); (try (try simp only [show (k53).sz = 3 from rfl, Nat.mul_one, Nat.add_zero] at hx24_1)); (try (have hf24_1 := hfr24 1)); (try (try simp only [show (k53).sz = 3 from rfl, Nat.mul_one, Nat.add_zero] at hf24_1)); (try (clear hcl24 hcc24 hfr24 hM24)))); refine store_event (t := 3) (p := 69) (v := ?vo_w25) (w1 := (wc.setCell ⟨go23, ((ji20) : Int).toNat * 3 + 1, none⟩ (.int .i64 (wrap64 (x4_1 + 1))))) ?hg ?ho ?hn ?hr ?_; (case ho => rfl); (case hg => rfl); (case hn => rfl); (case hr => first | (go_simp; done) | (go_simp; rfl)); intro w25 hw; have hg : wc.grownBy w25 (some go23) := (by rw [hw]; exact HP24.2); have hp_ : Kd.R k53 53 w25 w.heap.size (fun _ => True) (.slice (some ⟨go23, 0, none⟩) x3_1.length co13) y597 := (by rw [hw, Ny597.out]; exact HP24.1); clear HP24; have n0_ := Aside0.mk (hp_); have n1_ := Aside0.mk ((by rw [hw]; exact below_set (HB.out) GB23.out : Below w.heap.size w w25)); clear HO_3; clear HB; have HO_3 := n0_; have HB := n1_; clear n0_ n1_; clear hg hw hp_)))
                      go_roundg kj11
                      case measure => have := HK1.out; have := HJ11.out; omega
                      case rel => exact ⟨(y597), (wrap64 (x4_1 + 1)), (by first | rfl | (simp; done) | (simp [*]; done)), H', ⟨by have := HK1.out; have := HJ11.out; omega⟩, ⟨by (with_reducible repeat (first | apply Kd.R_alloc | apply Kd.R_drewN | apply Kd.R_drew)); exact HO_3.out⟩, ⟨by repeat (first | (with_reducible first | exact HB.out | apply below_alloc | apply pw_below_drewN | apply below_drew1) | exact HB.out)⟩⟩
                    · rw [if_neg c22] at H
                      exact absurd H (by simp)
                  · rw [if_neg c21] at H
                    exact absurd H (by simp)
                · replace c19 := Bool.eq_false_iff.mpr c19
                  subst c19
                  have H1 : (if 0 ≤ (wrap64 ((x3_1.length : Int) - 1)) then (if (wrap64 ((x3_1.length : Int) - 1)) < (x3_1.length : Int) then (if ((rd_T53 x3_1 (wrap64 ((x3_1.length : Int) - 1))).f2) < 0 then ((some (x3_1.set ((wrap64 ((x3_1.length : Int) - 1)) : Int).toNat (⟨(rd_T53 x3_1 (wrap64 ((x3_1.length : Int) - 1))).f0, wrap64 (x4_1 + 1), (rd_T53 x3_1 (wrap64 ((x3_1.length : Int) - 1))).f2⟩ : S53) : List (S53))).bind fun y599 => (if 0 ≤ x4_1 then (if x4_1 < (l0.length : Int) then (spec_RunsOf.l0 kj11 l0 (y599.set ((wrap64 ((x3_1.length : Int) - 1)) : Int).toNat (⟨(rd_T53 y599 (wrap64 ((x3_1.length : Int) - 1))).f0, (rd_T53 y599 (wrap64 ((x3_1.length : Int) - 1))).f1, rd l0 x4_1⟩ : S53)) (wrap64 (x4_1 + 1))) else (none)) else (none))) else (if 0 ≤ x4_1 then (if x4_1 < (l0.length : Int) then (if x3_1.length < 5864062014805 then (spec_RunsOf.l0 kj11 l0 (x3_1 ++ [(⟨x4_1, wrap64 (x4_1 + 1), rd l0 x4_1⟩ : S53)]) (wrap64 (x4_1 + 1))) else (none)) else (none)) else (none))) else (none)) else (none)) = some r := by rw [if_neg (show ¬ (false = true) by decide)] at H; exact H
                  clear H
                  have H := H1
                  clear H1
                  obtain ⟨ji26, hji26⟩ : ∃ j_ : Int, (wrap64 ((x3_1.length : Int) - 1)) = j_ := ⟨_, rfl⟩
                  replace H : (if 0 ≤ (ji26) then (if (ji26) < (x3_1.length : Int) then (if ((rd_T53 x3_1 (ji26)).f2) < 0 then ((some (x3_1.set ((ji26) : Int).toNat (⟨(rd_T53 x3_1 (ji26)).f0, wrap64 (x4_1 + 1), (rd_T53 x3_1 (ji26)).f2⟩ : S53) : List (S53))).bind fun y599 => (if 0 ≤ x4_1 then (if x4_1 < (l0.length : Int) then (spec_RunsOf.l0 kj11 l0 (y599.set ((ji26) : Int).toNat (⟨(rd_T53 y599 (ji26)).f0, (rd_T53 y599 (ji26)).f1, rd l0 x4_1⟩ : S53)) (wrap64 (x4_1 + 1))) else (none)) else (none))) else (if 0 ≤ x4_1 then (if x4_1 < (l0.length : Int) then (if x3_1.length < 5864062014805 then (spec_RunsOf.l0 kj11 l0 (x3_1 ++ [(⟨x4_1, wrap64 (x4_1 + 1), rd l0 x4_1⟩ : S53)]) (wrap64 (x4_1 + 1))) else (none)) else (none)) else (none))) else (none)) else (none)) = some r := by first | (rw [hji26] at H; exact H) | (simp only [hji26] at H ⊢; exact H)
                  have hji26w : (IntKind.i64.wrap ((x3_1.length : Int) - 1)) = ji26 := (i64_w _).trans hji26
                  by_cases c27 : 0 ≤ (ji26)
                  · rw [if_pos c27] at H
                    have c27b0 : decide (0 ≤ (ji26)) = true := decide_eq_true c27
                    clear c27
                    by_cases c28 : (ji26) < (x3_1.length : Int)
                    · rw [if_pos c28] at H
                      have c28b0 : decide ((ji26) < (x3_1.length : Int)) = true := decide_eq_true c28
                      clear c28
                      by_cases c29 : ((rd_T53 x3_1 (ji26)).f2) < 0
                      · rw [if_pos c29] at H
                        have c29b0 : decide (((rd_T53 x3_1 (ji26)).f2) < 0) = true := decide_eq_true c29
                        clear c29
                        obtain ⟨y599, hy599⟩ : ∃ y_ : List (S53), y_ = (x3_1.set ((ji26) : Int).toNat (⟨(rd_T53 x3_1 (ji26)).f0, wrap64 (x4_1 + 1), (rd_T53 x3_1 (ji26)).f2⟩ : S53)) := ⟨_, rfl⟩
                        replace H : (if 0 ≤ x4_1 then (if x4_1 < (l0.length : Int) then (spec_RunsOf.l0 kj11 l0 (y599.set ((ji26) : Int).toNat (⟨(rd_T53 y599 (ji26)).f0, (rd_T53 y599 (ji26)).f1, rd l0 x4_1⟩ : S53)) (wrap64 (x4_1 + 1))) else (none)) else (none)) = some r := by first | (rw [hy599]; with_reducible exact H) | (have H2_ := (Option.bind_some _ _).symm.trans H; rw [hy599]; with_reducible exact H2_) | (have H2_ := (Option.bind_some _ _).symm.trans H; with_reducible exact H2_) | with_reducible exact H | (rw [hy599]; exact H) | exact H
                        have Ny599 := Aside0.mk hy599
                        clear hy599
                        by_cases c31 : 0 ≤ x4_1
                        · rw [if_pos c31] at H
                          have c31b0 : decide (0 ≤ x4_1) = true := decide_eq_true c31
                          clear c31
                          by_cases c32 : x4_1 < (l0.length : Int)
                          · rw [if_pos c32] at H
                            have c32b0 : decide (x4_1 < (l0.length : Int)) = true := decide_eq_true c32
                            clear c32
                            obtain ⟨y601, hy601⟩ : ∃ y_ : List (S53), y_ = (y599.set ((ji26) : Int).toNat (⟨(rd_T53 y599 (ji26)).f0, (rd_T53 y599 (ji26)).f1, rd l0 x4_1⟩ : S53)) := ⟨_, rfl⟩
                            replace H : (spec_RunsOf.l0 kj11 l0 y601 (wrap64 (x4_1 + 1))) = some r := by first | (rw [hy601]; with_reducible exact H) | (have H2_ := (Option.bind_some _ _).symm.trans H; rw [hy601]; with_reducible exact H2_) | (have H2_ := (Option.bind_some _ _).symm.trans H; with_reducible exact H2_) | with_reducible exact H | (rw [hy601]; exact H) | exact H
                            have Ny601 := Aside0.mk hy601
                            clear hy601
                            have H' := Aside0.mk H
                            clear H
                            have p598 : 0 ≤ ((ji26) : Int) := of_decide_eq_true (by first | (with_reducible assumption) | assumption)
                            have q598 : (ji26) < (x3_1.length : Int) := of_decide_eq_true (by first | (with_reducible assumption) | assumption)
                            obtain ⟨ad598, e598, hx598_0, hx598_1, hx598_2⟩ := at_T53 (Kd.R_reads' HO_3.out).2.2 (ji26) p598 q598
                            cases e598
                            replace p598 := eq_true p598
                            replace q598 := eq_true q598
                            have p30 : 0 ≤ ((ji26) : Int) := of_decide_eq_true (by first | (with_reducible assumption) | assumption)
                            have q30 : ((ji26) : Int) < ((x3_1.length : Int) : Int) := of_decide_eq_true (by first | (with_reducible assumption) | assumption)
                            obtain ⟨go30, co30, eo30, gb30, gl30, cl30, HG30⟩ := Kd.R_form HO_3.out (by omega)
                            (first | cases eo30 | (injection eo30 with ea_ en_ ec_; (first | subst ea_ | (injection ea_ with ea_; subst ea_)); subst ec_; clear en_))
                            have GB30 := Aside0.mk gb30
                            have GG30 := Aside0.mk HG30
                            clear gb30 gl30 HG30
                            (first | simp only [add_plain] at hx598_0 | skip)
                            (first | simp only [add_plain] at hx598_1 | skip)
                            (first | simp only [add_plain] at hx598_2 | skip)
                            obtain ⟨ce30, hcl30, hM30, hcc30, hfr30⟩ := Kd.R_elem HO_3.out z53 ((ji26) : Int) p30 q30
                            obtain rfl := k53_openM hM30
                            have hx30_0 : wc.cell? ⟨go30, ((ji26) : Int).toNat * 3, none⟩ = some (.int .i64 ((rd_T53 x3_1 (ji26)).f0)) := hcc30 0 _ rfl
                            have hx30_1 : wc.cell? ⟨go30, ((ji26) : Int).toNat * 3 + 1, none⟩ = some (.int .i64 ((rd_T53 x3_1 (ji26)).f1)) := hcc30 1 _ rfl
                            have hx30_2 : wc.cell? ⟨go30, ((ji26) : Int).toNat * 3 + 2, none⟩ = some (.int .i64 ((rd_T53 x3_1 (ji26)).f2)) := hcc30 2 _ rfl
                            have hf30_0 : wc.frozen? ⟨go30, ((ji26) : Int).toNat * 3, none⟩ = false := hfr30 0
                            have hf30_1 : wc.frozen? ⟨go30, ((ji26) : Int).toNat * 3 + 1, none⟩ = false := hfr30 1
                            have hf30_2 : wc.frozen? ⟨go30, ((ji26) : Int).toNat * 3 + 2, none⟩ = false := hfr30 2
                            clear hcl30 hcc30 hfr30 hM30
                            replace p30 := eq_true p30
                            replace q30 := eq_true q30
                            have HX34 := Aside0.mk (show Kd.R k53 53 wc w.heap.size (fun _ => True) (.slice (some ⟨go30, 0, none⟩) x3_1.length co13) x3_1 from (by (with_reducible repeat (first | apply Kd.R_alloc | apply Kd.R_drewN | apply Kd.R_drew)); exact HO_3.out))
                            obtain ⟨ce34, hcl34, hM34, hcc34, hfr34⟩ := Kd.R_elem HX34.out z53 ((ji26) : Int) (of_decide_eq_true (by first | (with_reducible assumption) | assumption)) (by have h_ : ((ji26) : Int) < ((x3_1.length : Int) : Int) := of_decide_eq_true (by first | (with_reducible assumption) | assumption); first | exact h_ | (have e_ := (Kd.R_reads' HO_3.out).1; omega) | simpa using h_)
                            obtain rfl := k53_openM hM34
                            have HP34 := Kd.R_seg HX34.out ((ji26) : Int) (of_decide_eq_true (by first | (with_reducible assumption) | assumption)) (by have h_ : ((ji26) : Int) < ((x3_1.length : Int) : Int) := of_decide_eq_true (by first | (with_reducible assumption) | assumption); first | exact h_ | (have e_ := (Kd.R_reads' HO_3.out).1; omega) | simpa using h_) (seg := [.int .i64 (wrap64 (x4_1 + 1))]) (j := 1) hcl34 hcc34 (show 2 ≤ 3 from by decide) (x' := (⟨(rd_T53 x3_1 (ji26)).f0, wrap64 (x4_1 + 1), (rd_T53 x3_1 (ji26)).f2⟩ : S53)) (k53_mkM _ _ _ (⟨(rd_T53 x3_1 (ji26)).f0, wrap64 (x4_1 + 1), (rd_T53 x3_1 (ji26)).f2⟩ : S53) ) (fun _ hk => hk)
                            have hx34_1 := hcc34 1 _ rfl
                            (try simp only [show (k53).sz = 3 from rfl, Nat.mul_one, Nat.add_zero] at hx34_1)
                            have hf34_1 := hfr34 1
                            (try simp only [show (k53).sz = 3 from rfl, Nat.mul_one, Nat.add_zero] at hf34_1)
                            clear hcl34 hcc34 hfr34 hM34
                            go_wp2_with (first | ((with_reducible refine gate_store (t := 3) (p := 84) rfl ?_); (try (rw [drewN_self wc]; generalize hq_ : World.drewN wc _ = wc; have n0_ := Aside0.mk (Kd.R_at hq_ HO_3.out); have n1_ := Aside0.mk (below_at hq_ HB.out); clear hq_ HO_3 HB; have HO_3 := n0_; have HB := n1_; clear n0_ n1_; (try (have HX34 := Aside0.mk (show Kd.R k53 53 wc w.heap.size (fun _ => True) (.slice (some ⟨go30, 0, none⟩) x3_1.length co13) x3_1 from (by (with_reducible repeat (first | apply Kd.R_alloc | apply Kd.R_drewN | apply Kd.R_drew)); exact HO_3.out)))); (try (obtain ⟨ce34, hcl34, hM34, hcc34, hfr34⟩ := Kd.R_elem HX34.out z53 ((ji26) : Int) (of_decide_eq_true (by first | (with_reducible assumption) | assumption)) (by have h_ : ((ji26) : Int) < ((x3_1.length : Int) : Int) := of_decide_eq_true (by first | (with_reducible assumption) | assumption); first | exact h_ | (have e_ := (Kd.R_reads' HO_3.out).1; omega) | simpa using h_))); (try (obtain rfl := k53_openM hM34)); (try (have HP34 := Kd.R_seg HX34.out ((ji26) : Int) (of_decide_eq_true (by first | (with_reducible assumption) | assumption)) (by have h_ : ((ji26) : Int) < ((x3_1.length : Int) : Int) := of_decide_eq_true (by first | (with_reducible assumption) | assumption); first | exact h_ | (have e_ := (Kd.R_reads' HO_3.out).1; omega) | simpa using h_) (seg := [.int .i64 (wrap64 (x4_1 + 1))]) (j := 1) hcl34 hcc34 (show 2 ≤ 3 from by decide) (x' := (⟨(rd_T53 x3_1 (ji26)).f0, wrap64 (x4_1 + 1), (rd_T53 x3_1 (ji26)).f2⟩ : S53)) (k53_mkM _ _ _ (⟨(rd_T53 x3_1 (ji26)).f0, wrap64 (x4_1 + 1), (rd_T53 x3_1 (ji26)).f2⟩ : S53) ) (fun _ hk => hk))); (try (have hx34_1 := hcc34 1 _ rfl)); (try (try simp only [show (k53).sz = 3 from rfl, Nat.mul_one, Nat.add_zero] at hx34_1)); (try (have hf34_1 := hfr34 1)); (try (try simp only [show (k53).sz = 3 from rfl, Nat.mul_one, Nat.add_zero] at hf34_1)); (try (clear hcl34 hcc34 hfr34 hM34)))); refine store_event (t := 3) (p := 84) (v := ?vo_w35) (w1 := (wc.setCell ⟨go30, ((ji26) : Int).toNat * 3 + 1, none⟩ (.int .i64 (wrap64 (x4_1 + 1))))) ?hg ?ho ?hn ?hr ?_; (case ho => rfl); (case hg => rfl); (case hn => rfl); (case hr => first | (go_simp; done) | (go_simp; rfl)); intro w35 hw; have hg : wc.grownBy w35 (some go30) := (by rw [hw]; exact HP34.2); have hp_ : Kd.R k53 53 w35 w.heap.size (fun _ => True) (.slice (some ⟨go30, 0, none⟩) x3_1.length co13) y599 := (by rw [hw, Ny599.out]; exact HP34.1); clear HP34; have n0_ := Aside0.mk (hp_); have n1_ := Aside0.mk ((by rw [hw]; exact below_set (HB.out) GB30.out : Below w.heap.size w w35)); clear HO_3; clear HB; have HO_3 := n0_; have HB := n1_; clear n0_ n1_; clear hg hw hp_; have p600 : 0 ≤ (x4_1 : Int) := of_decide_eq_true (by first | (with_reducible assumption) | assumption); have q600 : x4_1 < (l0.length : Int) := of_decide_eq_true (by first | (with_reducible assumption) | assumption); obtain ⟨ad600, e600, hx600_0⟩ := Kd.at_int HR0.out x4_1 p600 q600; cases e600; replace hx600_0 := (HB.out.cell (World.block_lt_of_cell? w _ hx600_0)).trans hx600_0; replace p600 := eq_true p600; replace q600 := eq_true q600; have p33 : 0 ≤ ((ji26) : Int) := of_decide_eq_true (by first | (with_reducible assumption) | assumption); have q33 : ((ji26) : Int) < ((x3_1.length : Int) : Int) := of_decide_eq_true (by first | (with_reducible assumption) | assumption); obtain ⟨ce33, hcl33, hM33, hcc33, hfr33⟩ := Kd.R_elem HO_3.out z53 ((ji26) : Int) p33 q33; obtain rfl := k53_openM hM33; have hx33_0 : w35.cell? ⟨go30, ((ji26) : Int).toNat * 3, none⟩ = some (.int .i64 ((rd_T53 y599 (ji26)).f0)) := hcc33 0 _ rfl; have hx33_1 : w35.cell? ⟨go30, ((ji26) : Int).toNat * 3 + 1, none⟩ = some (.int .i64 ((rd_T53 y599 (ji26)).f1)) := hcc33 1 _ rfl; have hx33_2 : w35.cell? ⟨go30, ((ji26) : Int).toNat * 3 + 2, none⟩ = some (.int .i64 ((rd_T53 y599 (ji26)).f2)) := hcc33 2 _ rfl; have hf33_0 : w35.frozen? ⟨go30, ((ji26) : Int).toNat * 3, none⟩ = false := hfr33 0; have hf33_1 : w35.frozen? ⟨go30, ((ji26) : Int).toNat * 3 + 1, none⟩ = false := hfr33 1; have hf33_2 : w35.frozen? ⟨go30, ((ji26) : Int).toNat * 3 + 2, none⟩ = false := hfr33 2; clear hcl33 hcc33 hfr33 hM33; replace p33 := eq_true p33; replace q33 := eq_true q33; have HX36 := Aside0.mk (show Kd.R k53 53 w35 w.heap.size (fun _ => True) (.slice (some ⟨go30, 0, none⟩) x3_1.length co13) y599 from (by (with_reducible repeat (first | apply Kd.R_alloc | apply Kd.R_drewN | apply Kd.R_drew)); exact HO_3.out)); obtain ⟨ce36, hcl36, hM36, hcc36, hfr36⟩ := Kd.R_elem HX36.out z53 ((ji26) : Int) (of_decide_eq_true (by first | (with_reducible assumption) | assumption)) (by have h_ : ((ji26) : Int) < ((x3_1.length : Int) : Int) := of_decide_eq_true (by first | (with_reducible assumption) | assumption); first | exact h_ | (have e_ := (Kd.R_reads' HO_3.out).1; omega) | simpa using h_); obtain rfl := k53_openM hM36; have HP36 := Kd.R_seg HX36.out ((ji26) : Int) (of_decide_eq_true (by first | (with_reducible assumption) | assumption)) (by have h_ : ((ji26) : Int) < ((x3_1.length : Int) : Int) := of_decide_eq_true (by first | (with_reducible assumption) | assumption); first | exact h_ | (have e_ := (Kd.R_reads' HO_3.out).1; omega) | simpa using h_) (seg := [.int .i64 (rd l0 x4_1)]) (j := 2) hcl36 hcc36 (show 3 ≤ 3 from by decide) (x' := (⟨(rd_T53 y599 (ji26)).f0, (rd_T53 y599 (ji26)).f1, rd l0 x4_1⟩ : S53)) (k53_mkM _ _ _ (⟨(rd_T53 y599 (ji26)).f0, (rd_T53 y599 (ji26)).f1, rd l0 x4_1⟩ : S53) ) (fun _ hk => hk); have hx36_2 := hcc36 2 _ rfl; (try simp only [show (k53).sz = 3 from rfl, Nat.mul_one, Nat.add_zero] at hx36_2); have hf36_2 := hfr36 2; (try simp only [show (k53).sz = 3 from rfl, Nat.mul_one, Nat.add_zero] at hf36_2); clear hcl36 hcc36 hfr36 hM36) | ((with_reducible refine gate_store (t := 3) (p := 93) rfl ?_); (try (rw [drewN_self w35]; generalize hq_ : World.drewN w35 _ = w35; have n0_ := Aside0.mk (Kd.R_at hq_ HO_3.out); have n1_ := Aside0.mk (below_at hq_ HB.out); clear hq_ HO_3 HB; have HO_3 := n0_; have HB := n1_; clear n0_ n1_; (try (have HX36 := Aside0.mk (show Kd.R k53 53 w35 w.heap.size (fun _ => True) (.slice (some ⟨go30, 0, none⟩) x3_1.length co13) y599 from (by (with_reducible repeat (first | apply Kd.R_alloc | apply Kd.R_drewN | apply Kd.R_drew)); exact HO_3.out)))); (try (obtain ⟨ce36, hcl36, hM36, hcc36, hfr36⟩ := Kd.R_elem HX36.out z53 ((ji26) : Int) (of_decide_eq_true (by first | (with_reducible assumption) | assumption)) (by have h_ : ((ji26) : Int) < ((x3_1.length : Int) : Int) := of_decide_eq_true (by first | (with_reducible assumption) | assumption); first | exact h_ | (have e_ := (Kd.R_reads' HO_3.out).1; omega) | simpa using h_))); (try (obtain rfl := k53_openM hM36)); (try (have HP36 := Kd.R_seg HX36.out ((ji26) : Int) (of_decide_eq_true (by first | (with_reducible assumption) | assumption)) (by have h_ : ((ji26) : Int) < ((x3_1.length : Int) : Int) := of_decide_eq_true (by first | (with_reducible assumption) | assumption); first | exact h_ | (have e_ := (Kd.R_reads' HO_3.out).1; omega) | simpa using h_) (seg := [.int .i64 (rd l0 x4_1)]) (j := 2) hcl36 hcc36 (show 3 ≤ 3 from by decide) (x' := (⟨(rd_T53 y599 (ji26)).f0, (rd_T53 y599 (ji26)).f1, rd l0 x4_1⟩ : S53)) (k53_mkM _ _ _ (⟨(rd_T53 y599 (ji26)).f0, (rd_T53 y599 (ji26)).f1, rd l0 x4_1⟩ : S53) ) (fun _ hk => hk))); (try (have hx36_2 := hcc36 2 _ rfl)); (try (try simp only [show (k53).sz = 3 from rfl, Nat.mul_one, Nat.add_zero] at hx36_2)); (try (have hf36_2 := hfr36 2)); (try (try simp only [show (k53).sz = 3 from rfl, Nat.mul_one, Nat.add_zero] at hf36_2)); (try (clear hcl36 hcc36 hfr36 hM36)))); refine store_event (t := 3) (p := 93) (v := ?vo_w37) (w1 := (w35.setCell ⟨go30, ((ji26) : Int).toNat * 3 + 2, none⟩ (.int .i64 (rd l0 x4_1)))) ?hg ?ho ?hn ?hr ?_; (case ho => rfl); (case hg => rfl); (case hn => rfl); (case hr => first | (go_simp; done) | (go_simp; rfl)); intro w37 hw; have hg : w35.grownBy w37 (some go30) := (by rw [hw]; exact HP36.2); have hp_ : Kd.R k53 53 w37 w.heap.size (fun _ => True) (.slice (some ⟨go30, 0, none⟩) x3_1.length co13) y601 := (by rw [hw, Ny601.out]; exact HP36.1); clear HP36; have n0_ := Aside0.mk (hp_); have n1_ := Aside0.mk ((by rw [hw]; exact below_set (HB.out) GB30.out : Below w.heap.size w w37)); clear HO_3; clear HB; have HO_3 := n0_; have HB := n1_; clear n0_ n1_; clear hg hw hp_))
                            repeat (go_quiet (first | ((with_reducible refine gate_store (t := 3) (p := 84) rfl ?_); (try (rw [drewN_self wc]; generalize hq_ : World.drewN wc _ = wc; have n0_ := Aside0.mk (Kd.R_at hq_ HO_3.out); have n1_ := Aside0.mk (below_at hq_ HB.out); clear hq_ HO_3 HB; have HO_3 := n0_; have HB := n1_; clear n0_ n1_; (try (have HX34 := Aside0.mk (show Kd.R k53 53 wc w.heap.size (fun _ => True) (.slice (some ⟨go30, 0, none⟩) x3_1.length co13) x3_1 from (by (with_reducible repeat (first | apply Kd.R_alloc | apply Kd.R_drewN | apply Kd.R_drew)); exact HO_3.out)))); (try (obtain ⟨ce34, hcl34, hM34, hcc34, hfr34⟩ := Kd.R_elem HX34.out z53 ((ji26) : Int) (of_decide_eq_true (by first | (with_reducible assumption) | assumption)) (by have h_ : ((ji26) : Int) < ((x3_1.length : Int) : Int) := of_decide_eq_true (by first | (with_reducible assumption) | assumption); first | exact h_ | (have e_ := (Kd.R_reads' HO_3.out).1; omega) | simpa using h_))); (try (obtain rfl := k53_openM hM34)); (try (have HP34 := Kd.R_seg HX34.out ((ji26) : Int) (of_decide_eq_true (by first | (with_reducible assumption) | assumption)) (by have h_ : ((ji26) : Int) < ((x3_1.length : Int) : Int) := of_decide_eq_true (by first | (with_reducible assumption) | assumption); first | exact h_ | (have e_ := (Kd.R_reads' HO_3.out).1; omega) | simpa using h_) (seg := [.int .i64 (wrap64 (x4_1 + 1))]) (j := 1) hcl34 hcc34 (show 2 ≤ 3 from by decide) (x' := (⟨(rd_T53 x3_1 (ji26)).f0, wrap64 (x4_1 + 1), (rd_T53 x3_1 (ji26)).f2⟩ : S53)) (k53_mkM _ _ _ (⟨(rd_T53 x3_1 (ji26)).f0, wrap64 (x4_1 + 1), (rd_T53 x3_1 (ji26)).f2⟩ : S53) ) (fun _ hk => hk))); (try (have hx34_1 := hcc34 1 _ rfl)); (try (try simp only [show (k53).sz = 3 from rfl, Nat.mul_one, Nat.add_zero] at hx34_1)); (try (have hf34_1 := hfr34 1)); (try (try simp only [show (k53).sz = 3 from rfl, Nat.mul_one, Nat.add_zero] at hf34_1)); (try (clear hcl34 hcc34 hfr34 hM34)))); refine store_event (t := 3) (p := 84) (v := ?vo_w35) (w1 := (wc.setCell ⟨go30, ((ji26) : Int).toNat * 3 + 1, none⟩ (.int .i64 (wrap64 (x4_1 + 1))))) ?hg ?ho ?hn ?hr ?_; (case ho => rfl); (case hg => rfl); (case hn => rfl); (case hr => first | (go_simp; done) | (go_simp; rfl)); intro w35 hw; have hg : wc.grownBy w35 (some go30) := (by rw [hw]; exact HP34.2); have hp_ : Kd.R k53 53 w35 w.heap.size (fun _ => True) (.slice (some ⟨go30, 0, none⟩) x3_1.length co13) y599 := (by rw [hw, Ny599.out]; exact HP34.1); clear HP34; have n0_ := Aside0.mk (hp_); have n1_ := Aside0.mk ((by rw [hw]; exact below_set (HB.out) GB30.out : Below w.heap.size w w35)); clear HO_3; clear HB; have HO_3 := n0_; have HB := n1_; clear n0_ n1_; clear hg hw hp_; have p600 : 0 ≤ (x4_1 : Int) := of_decide_eq_true (by first | (with_reducible assumption) | assumption); have q600 : x4_1 < (l0.length : Int) := of_decide_eq_true (by first | (with_reducible assumption) | assumption); obtain ⟨ad600, e600, hx600_0⟩ := Kd.at_int HR0.out x4_1 p600 q600; cases e600; replace hx600_0 := (HB.out.cell (World.block_lt_of_cell? w _ hx600_0)).trans hx600_0; replace p600 := eq_true p600; replace q600 := eq_true q600; have p33 : 0 ≤ ((ji26) : Int) := of_decide_eq_true (by first | (with_reducible assumption) | assumption); have q33 : ((ji26) : Int) < ((x3_1.length : Int) : Int) := of_decide_eq_true (by first | (with_reducible assumption) | assumption); obtain ⟨ce33, hcl33, hM33, hcc33, hfr33⟩ := Kd.R_elem HO_3.out z53 ((ji26) : Int) p33 q33; obtain rfl := k53_openM hM33; have hx33_0 : w35.cell? ⟨go30, ((ji26) : Int).toNat * 3, none⟩ = some (.int .i64 ((rd_T53 y599 (ji26)).f0)) := hcc33 0 _ rfl; have hx33_1 : w35.cell? ⟨go30, ((ji26) : Int).toNat * 3 + 1, none⟩ = some (.int .i64 ((rd_T53 y599 (ji26)).f1)) := hcc33 1 _ rfl; have hx33_2 : w35.cell? ⟨go30, ((ji26) : Int).toNat * 3 + 2, none⟩ = some (.int .i64 ((rd_T53 y599 (ji26)).f2)) := hcc33 2 _ rfl; have hf33_0 : w35.frozen? ⟨go30, ((ji26) : Int).toNat * 3, none⟩ = false := hfr33 0; have hf33_1 : w35.frozen? ⟨go30, ((ji26) : Int).toNat * 3 + 1, none⟩ = false := hfr33 1; have hf33_2 : w35.frozen? ⟨go30, ((ji26) : Int).toNat * 3 + 2, none⟩ = false := hfr33 2; clear hcl33 hcc33 hfr33 hM33; replace p33 := eq_true p33; replace q33 := eq_true q33; have HX36 := Aside0.mk (show Kd.R k53 53 w35 w.heap.size (fun _ => True) (.slice (some ⟨go30, 0, none⟩) x3_1.length co13) y599 from (by (with_reducible repeat (first | apply Kd.R_alloc | apply Kd.R_drewN | apply Kd.R_drew)); exact HO_3.out)); obtain ⟨ce36, hcl36, hM36, hcc36, hfr36⟩ := Kd.R_elem HX36.out z53 ((ji26) : Int) (of_decide_eq_true (by first | (with_reducible assumption) | assumption)) (by have h_ : ((ji26) : Int) < ((x3_1.length : Int) : Int) := of_decide_eq_true (by first | (with_reducible assumption) | assumption); first | exact h_ | (have e_ := (Kd.R_reads' HO_3.out).1; omega) | simpa using h_); obtain rfl := k53_openM hM36; have HP36 := Kd.R_seg HX36.out ((ji26) : Int) (of_decide_eq_true (by first | (with_reducible assumption) | assumption)) (by have h_ : ((ji26) : Int) < ((x3_1.length : Int) : Int) := of_decide_eq_true (by first | (with_reducible assumption) | assumption); first | exact h_ | (have e_ := (Kd.R_reads' HO_3.out).1; omega) | simpa using h_) (seg := [.int .i64 (rd l0 x4_1)]) (j := 2) hcl36 hcc36 (show 3 ≤ 3 from by decide) (x' := (⟨(rd_T53 y599 (ji26)).f0, (rd_T53 y599 (ji26)).f1, rd l0 x4_1⟩ : S53)) (k53_mkM _ _ _ (⟨(rd_T53 y599 (ji26)).f0, (rd_T53 y599 (ji26)).f1, rd l0 x4_1⟩ : S53) ) (fun _ hk => hk); have hx36_2 := hcc36 2 _ rfl; (try simp only [show (k53).sz = 3 from rfl, Nat.mul_one, Nat.add_zero] at hx36_2); have hf36_2 := hfr36 2; (try simp only [show (k53).sz = 3 from rfl, Nat.mul_one, Nat.add_zero] at hf36_2); clear hcl36 hcc36 hfr36 hM36) | ((with_reducible refine gate_store (t := 3) (p := 93) rfl ?_); (try (rw [drewN_self w35]; generalize hq_ : World.drewN w35 _ = w35; have n0_ := Aside0.mk (Kd.R_at hq_ HO_3.out); have n1_ := Aside0.mk (below_at hq_ HB.out); clear hq_ HO_3 HB; have HO_3 := n0_; have HB := n1_; clear n0_ n1_; (try (have HX36 := Aside0.mk (show Kd.R k53 53 w35 w.heap.size (fun _ => True) (.slice (some ⟨go30, 0, none⟩) x3_1.length co13) y599 from (by (with_reducible repeat (first | apply Kd.R_alloc | apply Kd.R_drewN | apply Kd.R_drew)); exact HO_3.out)))); (try (obtain ⟨ce36, hcl36, hM36, hcc36, hfr36⟩ := Kd.R_elem HX36.out z53 ((ji26) : Int) (of_decide_eq_true (by first | (with_reducible assumption) | assumption)) (by have h_ : ((ji26) : Int) < ((x3_1.length : Int) : Int) := of_decide_eq_true (by first | (with_reducible assumption) | assumption); first | exact h_ | (have e_ := (Kd.R_reads' HO_3.out).1; omega) | simpa using h_))); (try (obtain rfl := k53_openM hM36)); (try (have HP36 := Kd.R_seg HX36.out ((ji26) : Int) (of_decide_eq_true (by first | (with_reducible assumption) | assumption)) (by have h_ : ((ji26) : Int) < ((x3_1.length : Int) : Int) := of_decide_eq_true (by first | (with_reducible assumption) | assumption); first | exact h_ | (have e_ := (Kd.R_reads' HO_3.out).1; omega) | simpa using h_) (seg := [.int .i64 (rd l0 x4_1)]) (j := 2) hcl36 hcc36 (show 3 ≤ 3 from by decide) (x' := (⟨(rd_T53 y599 (ji26)).f0, (rd_T53 y599 (ji26)).f1, rd l0 x4_1⟩ : S53)) (k53_mkM _ _ _ (⟨(rd_T53 y599 (ji26)).f0, (rd_T53 y599 (ji26)).f1, rd l0 x4_1⟩ : S53) ) (fun _ hk => hk))); (try (have hx36_2 := hcc36 2 _ rfl)); (try (try simp only [show (k53).sz = 3 from rfl, Nat.mul_one, Nat.add_zero] at hx36_2)); (try (have hf36_2 := hfr36 2)); (try (try simp only [show (k53).sz = 3 from rfl, Nat.mul_one, Nat.add_zero] at hf36_2)); (try (clear hcl36 hcc36 hfr36 hM36)))); refine store_event (t := 3) (p := 93) (v := ?vo_w37) (w1 := (w35.setCell ⟨go30, ((ji26) : Int).toNat * 3 + 2, none⟩ (.int .i64 (rd l0 x4_1)))) ?hg ?ho ?hn ?hr ?_; (case ho => rfl); (case hg => rfl); (case hn => rfl); (case hr => first | (go_simp; done) | (go_simp; rfl)); intro w37 hw; have hg : w35.grownBy w37 (some go30) := (by rw [hw]; exact HP36.2); have hp_ : Kd.R k53 53 w37 w.heap.size (fun _ => True) (.slice (some ⟨go30, 0, none⟩) x3_1.length co13) y601 := (by rw [hw, Ny601.out]; exact HP36.1); clear HP36; have n0_ := Aside0.mk (hp_); have n1_ := Aside0.mk ((by rw [hw]; exact below_set (HB.out) GB30.out : Below w.heap.size w w37)); clear HO_3; clear HB; have HO_3 := n0_; have HB := n1_; clear n0_ n1_; clear hg hw hp_)); try go_wp2_with (first | ((with_reducible refine gate_store (t := 3) (p := 84) rfl ?_); (try (rw [drewN_self wc]; generalize hq_ : World.drewN wc _ = wc; have n0_ := Aside0.mk (Kd.R_at hq_ HO_3.out); have n1_ := Aside0.mk (below_at hq_ HB.out); clear hq_ HO_3 HB; have HO_3 := n0_; have HB := n1_; clear n0_ n1_; (try (have HX34 := Aside0.mk (show Kd.R k53 53 wc w.heap.size (fun _ => True) (.slice (some ⟨go30, 0, none⟩) x3_1.length co13) x3_1 from (by (with_reducible repeat (first | apply Kd.R_alloc | apply Kd.R_drewN | apply Kd.R_drew)); exact HO_3.out)))); (try (obtain ⟨ce34, hcl34, hM34, hcc34, hfr34⟩ := Kd.R_elem HX34.out z53 ((ji26) : Int) (of_decide_eq_true (by first | (with_reducible assumption) | assumption)) (by have h_ : ((ji26) : Int) < ((x3_1.length : Int) : Int) := of_decide_eq_true (by first | (with_reducible assumption) | assumption); first | exact h_ | (have e_ := (Kd.R_reads' HO_3.out).1; omega) | simpa using h_))); (try (obtain rfl := k53_openM hM34)); (try (have HP34 := Kd.R_seg HX34.out ((ji26) : Int) (of_decide_eq_true (by first | (with_reducible assumption) | assumption)) (by have h_ : ((ji26) : Int) < ((x3_1.length : Int) : Int) := of_decide_eq_true (by first | (with_reducible assumption) | assumption); first | exact h_ | (have e_ := (Kd.R_reads' HO_3.out).1; omega) | simpa using h_) (seg := [.int .i64 (wrap64 (x4_1 + 1))]) (j := 1) hcl34 hcc34 (show 2 ≤ 3 from by decide) (x' := (⟨(rd_T53 x3_1 (ji26)).f0, wrap64 (x4_1 + 1), (rd_T53 x3_1 (ji26)).f2⟩ : S53)) (k53_mkM _ _ _ (⟨(rd_T53 x3_1 (ji26)).f0, wrap64 (x4_1 + 1), (rd_T53 x3_1 (ji26)).f2⟩ : S53) ) (fun _ hk => hk))); (try (have hx34_1 := hcc34 1 _ rfl)); (try (try simp only [show (k53).sz = 3 from rfl, Nat.mul_one, Nat.add_zero] at hx34_1)); (try (have hf34_1 := hfr34 1)); (try (try simp only [show (k53).sz = 3 from rfl, Nat.mul_one, Nat.add_zero] at hf34_1)); (try (clear hcl34 hcc34 hfr34 hM34)))); refine store_event (t := 3) (p := 84) (v := ?vo_w35) (w1 := (wc.setCell ⟨go30, ((ji26) : Int).toNat * 3 + 1, none⟩ (.int .i64 (wrap64 (x4_1 + 1))))) ?hg ?ho ?hn ?hr ?_; (case ho => rfl); (case hg => rfl); (case hn => rfl); (case hr => first | (go_simp; done) | (go_simp; rfl)); intro w35 hw; have hg : wc.grownBy w35 (some go30) := (by rw [hw]; exact HP34.2); have hp_ : Kd.R k53 53 w35 w.heap.size (fun _ => True) (.slice (some ⟨go30, 0, none⟩) x3_1.length co13) y599 := (by rw [hw, Ny599.out]; exact HP34.1); clear HP34; have n0_ := Aside0.mk (hp_); have n1_ := Aside0.mk ((by rw [hw]; exact below_set (HB.out) GB30.out : Below w.heap.size w w35)); clear HO_3; clear HB; have HO_3 := n0_; have HB := n1_; clear n0_ n1_; clear hg hw hp_; have p600 : 0 ≤ (x4_1 : Int) := of_decide_eq_true (by first | (with_reducible assumption) | assumption); have q600 : x4_1 < (l0.length : Int) := of_decide_eq_true (by first | (with_reducible assumption) | assumption); obtain ⟨ad600, e600, hx600_0⟩ := Kd.at_int HR0.out x4_1 p600 q600; cases e600; replace hx600_0 := (HB.out.cell (World.block_lt_of_cell? w _ hx600_0)).trans hx600_0; replace p600 := eq_true p600; replace q600 := eq_true q600; have p33 : 0 ≤ ((ji26) : Int) := of_decide_eq_true (by first | (with_reducible assumption) | assumption); have q33 : ((ji26) : Int) < ((x3_1.length : Int) : Int) := of_decide_eq_true (by first | (with_reducible assumption) | assumption); obtain ⟨ce33, hcl33, hM33, hcc33, hfr33⟩ := Kd.R_elem HO_3.out z53 ((ji26) : Int) p33 q33; obtain rfl := k53_openM hM33; have hx33_0 : w35.cell? ⟨go30, ((ji26) : Int).toNat * 3, none⟩ = some (.int .i64 ((rd_T53 y599 (ji26)).f0)) := hcc33 0 _ rfl; have hx33_1 : w35.cell? ⟨go30, ((ji26) : Int).toNat * 3 + 1, none⟩ = some (.int .i64 ((rd_T53 y599 (ji26)).f1)) := hcc33 1 _ rfl; have hx33_2 : w35.cell? ⟨go30, ((ji26) : Int).toNat * 3 + 2, none⟩ = some (.int .i64 ((rd_T53 y599 (ji26)).f2)) := hcc33 2 _ rfl; have hf33_0 : w35.frozen? ⟨go30, ((ji26) : Int).toNat * 3, none⟩ = false := hfr33 0; have hf33_1 : w35.frozen? ⟨go30, ((ji26) : Int).toNat * 3 + 1, none⟩ = false := hfr33 1; have hf33_2 : w35.frozen? ⟨go30, ((ji26) : Int).toNat * 3 + 2, none⟩ = false := hfr33 2; clear hcl33 hcc33 hfr33 hM33; replace p33 := eq_true p33; replace q33 := eq_true q33; have HX36 := Aside0.mk (show Kd.R k53 53 w35 w.heap.size (fun _ => True) (.slice (some ⟨go30, 0, none⟩) x3_1.length co13) y599 from (by (with_reducible repeat (first | apply Kd.R_alloc | apply Kd.R_drewN | apply Kd.R_drew)); exact HO_3.out)); obtain ⟨ce36, hcl36, hM36, hcc36, hfr36⟩ := Kd.R_elem HX36.out z53 ((ji26) : Int) (of_decide_eq_true (by first | (with_reducible assumption) | assumption)) (by have h_ : ((ji26) : Int) < ((x3_1.length : Int) : Int) := of_decide_eq_true (by first | (with_reducible assumption) | assumption); first | exact h_ | (have e_ := (Kd.R_reads' HO_3.out).1; omega) | simpa using h_); obtain rfl := k53_openM hM36; have HP36 := Kd.R_seg HX36.out ((ji26) : Int) (of_decide_eq_true (by first | (with_reducible assumption) | assumption)) (by have h_ : ((ji26) : Int) < ((x3_1.length : Int) : Int) := of_decide_eq_true (by first | (with_reducible assumption) | assumption); first | exact h_ | (have e_ := (Kd.R_reads' HO_3.out).1; omega) | simpa using h_) (seg := [.int .i64 (rd l0 x4_1)]) (j := 2) hcl36 hcc36 (show 3 ≤ 3 from by decide) (x' := (⟨(rd_T53 y599 (ji26)).f0, (rd_T53 y599 (ji26)).f1, rd l0 x4_1⟩ : S53)) (k53_mkM _ _ _ (⟨(rd_T53 y599 (ji26)).f0, (rd_T53 y599 (ji26)).f1, rd l0 x4_1⟩ : S53) ) (fun _ hk => hk); have hx36_2 := hcc36 2 _ rfl; (try simp only [show (k53).sz = 3 from rfl, Nat.mul_one, Nat.add_zero] at hx36_2); have hf36_2 := hfr36 2; (try simp only [show (k53).sz = 3 from rfl, Nat.mul_one, Nat.add_zero] at hf36_2); clear hcl36 hcc36 hfr36 hM36) | ((with_reducible refine gate_store (t := 3) (p := 93) rfl ?_); (try (rw [drewN_self w35]; generalize hq_ : World.drewN w35 _ = w35; have n0_ := Aside0.mk (Kd.R_at hq_ HO_3.out); have n1_ := Aside0.mk (below_at hq_ HB.out); clear hq_ HO_3 HB; have HO_3 := n0_; have HB := n1_; clear n0_ n1_; (try (have HX36 := Aside0.mk (show Kd.R k53 53 w35 w.heap.size (fun _ => True) (.slice (some ⟨go30, 0, none⟩) x3_1.length co13) y599 from (by (with_reducible repeat (first | apply Kd.R_alloc | apply Kd.R_drewN | apply Kd.R_drew)); exact HO_3.out)))); (try (obtain ⟨ce36, hcl36, hM36, hcc36, hfr36⟩ := Kd.R_elem HX36.out z53 ((ji26) : Int) (of_decide_eq_true (by first | (with_reducible assumption) | assumption)) (by have h_ : ((ji26) : Int) < ((x3_1.length : Int) : Int) := of_decide_eq_true (by first | (with_reducible assumption) | assumption); first | exact h_ | (have e_ := (Kd.R_reads' HO_3.out).1; omega) | simpa using h_))); (try (obtain rfl := k53_openM hM36)); (try (have HP36 := Kd.R_seg HX36.out ((ji26) : Int) (of_decide_eq_true (by first | (with_reducible assumption) | assumption)) (by have h_ : ((ji26) : Int) < ((x3_1.length : Int) : Int) := of_decide_eq_true (by first | (with_reducible assumption) | assumption); first | exact h_ | (have e_ := (Kd.R_reads' HO_3.out).1; omega) | simpa using h_) (seg := [.int .i64 (rd l0 x4_1)]) (j := 2) hcl36 hcc36 (show 3 ≤ 3 from by decide) (x' := (⟨(rd_T53 y599 (ji26)).f0, (rd_T53 y599 (ji26)).f1, rd l0 x4_1⟩ : S53)) (k53_mkM _ _ _ (⟨(rd_T53 y599 (ji26)).f0, (rd_T53 y599 (ji26)).f1, rd l0 x4_1⟩ : S53) ) (fun _ hk => hk))); (try (have hx36_2 := hcc36 2 _ rfl)); (try (try simp only [show (k53).sz = 3 from rfl, Nat.mul_one, Nat.add_zero] at hx36_2)); (try (have hf36_2 := hfr36 2)); (try (try simp only [show (k53).sz = 3 from rfl, Nat.mul_one, Nat.add_zero] at hf36_2)); (try (clear hcl36 hcc36 hfr36 hM36)))); refine store_event (t := 3) (p := 93) (v := ?vo_w37) (w1 := (w35.setCell ⟨go30, ((ji26) : Int).toNat * 3 + 2, none⟩ (.int .i64 (rd l0 x4_1)))) ?hg ?ho ?hn ?hr ?_; (case ho => rfl); (case hg => rfl); (case hn => rfl); (case hr => first | (go_simp; done) | (go_simp; rfl)); intro w37 hw; have hg : w35.grownBy w37 (some go30) := (by rw [hw]; exact HP36.2); have hp_ : Kd.R k53 53 w37 w.heap.size (fun _ => True) (.slice (some ⟨go30, 0, none⟩) x3_1.length co13) y601 := (by rw [hw, Ny601.out]; exact HP36.1); clear HP36; have n0_ := Aside0.mk (hp_); have n1_ := Aside0.mk ((by rw [hw]; exact below_set (HB.out) GB30.out : Below w.heap.size w w37)); clear HO_3; clear HB; have HO_3 := n0_; have HB := n1_; clear n0_ n1_; clear hg hw hp_)))
                            go_roundg kj11
                            case measure => have := HK1.out; have := HJ11.out; omega
                            case rel => exact ⟨(y601), (wrap64 (x4_1 + 1)), (by first | rfl | (simp; done) | (simp [*]; done)), H', ⟨by have := HK1.out; have := HJ11.out; omega⟩, ⟨by (with_reducible repeat (first | apply Kd.R_alloc | apply Kd.R_drewN | apply Kd.R_drew)); exact HO_3.out⟩, ⟨by repeat (first | (with_reducible first | exact HB.out | apply below_alloc | apply pw_below_drewN | apply below_drew1) | exact HB.out)⟩⟩
                          · rw [if_neg c32] at H
                            exact absurd H (by simp)
                        · rw [if_neg c31] at H
                          exact absurd H (by simp)
                      · rw [if_neg c29] at H
                        have c29b0 : decide (((rd_T53 x3_1 (ji26)).f2) < 0) = false := decide_eq_false c29
                        clear c29
                        by_cases c38 : 0 ≤ x4_1
                        · rw [if_pos c38] at H
                          have c38b0 : decide (0 ≤ x4_1) = true := decide_eq_true c38
                          clear c38
                          by_cases c39 : x4_1 < (l0.length : Int)
                          · rw [if_pos c39] at H
                            have c39b0 : decide (x4_1 < (l0.length : Int)) = true := decide_eq_true c39
                            clear c39
                            by_cases c40 : x3_1.length < 5864062014805
                            · rw [if_pos c40] at H
                              have LMc40 := Aside0.mk c40
                              clear c40
                              obtain ⟨y603, hy603⟩ : ∃ y_ : List (S53), y_ = (x3_1 ++ [(⟨x4_1, wrap64 (x4_1 + 1), rd l0 x4_1⟩ : S53)]) := ⟨_, rfl⟩
                              replace H : (spec_RunsOf.l0 kj11 l0 y603 (wrap64 (x4_1 + 1))) = some r := by first | (rw [hy603]; with_reducible exact H) | (have H2_ := (Option.bind_some _ _).symm.trans H; rw [hy603]; with_reducible exact H2_) | (have H2_ := (Option.bind_some _ _).symm.trans H; with_reducible exact H2_) | with_reducible exact H | (rw [hy603]; exact H) | exact H
                              have Ny603 := Aside0.mk hy603
                              clear hy603
                              have H' := Aside0.mk H
                              clear H
                              have p598 : 0 ≤ ((ji26) : Int) := of_decide_eq_true (by first | (with_reducible assumption) | assumption)
                              have q598 : (ji26) < (x3_1.length : Int) := of_decide_eq_true (by first | (with_reducible assumption) | assumption)
                              obtain ⟨ad598, e598, hx598_0, hx598_1, hx598_2⟩ := at_T53 (Kd.R_reads' HO_3.out).2.2 (ji26) p598 q598
                              cases e598
                              replace p598 := eq_true p598
                              replace q598 := eq_true q598
                              have p602 : 0 ≤ (x4_1 : Int) := of_decide_eq_true (by first | (with_reducible assumption) | assumption)
                              have q602 : x4_1 < (l0.length : Int) := of_decide_eq_true (by first | (with_reducible assumption) | assumption)
                              obtain ⟨ad602, e602, hx602_0⟩ := Kd.at_int HR0.out x4_1 p602 q602
                              cases e602
                              replace hx602_0 := (HB.out.cell (World.block_lt_of_cell? w _ hx602_0)).trans hx602_0
                              replace p602 := eq_true p602
                              replace q602 := eq_true q602
                              go_wp2_with (first | ((with_reducible refine gate_builtin (b := .append) (xs := #[.tmp 19, .tmp 28]) rfl ?_); at_builtin; refine Kd.R_append k53 (w0 := w) w.heap.size rfl (.tmp 19) (.tmp 28) 48 53 (.agg #[(.int .i64 0), (.int .i64 0), (.int .i64 0)]) 24 rfl Try.underlying48 info53 rfl (by decide) (by omega) (.slice (some ad598) x3_1.length co13) x3_1 (⟨x4_1, wrap64 (x4_1 + 1), rd l0 x4_1⟩ : S53) [.int .i64 x4_1, .int .i64 (wrap64 (x4_1 + 1)), .int .i64 (rd l0 x4_1)] (fun _ => True) (fun _ => False) rfl rfl ?aP (fun _ hk => hk.elim) ?aF ?aO ?aB ?aS ?aL ?_; (case aP => exact k53_mkM _ _ _ (⟨x4_1, wrap64 (x4_1 + 1), rd l0 x4_1⟩ : S53)); (case aB => exact (by repeat (first | (with_reducible first | exact HB.out | apply below_alloc | apply pw_below_drewN | apply below_drew1) | exact HB.out))); (case aF => exact (fun _ _ => trivial)); (case aO => exact (by (with_reducible repeat (first | apply Kd.R_alloc | apply Kd.R_drewN | apply Kd.R_drew)); exact HO_3.out)); (case aS => exact (below_size (by repeat (first | (with_reducible first | exact HB.out | apply below_alloc | apply pw_below_drewN | apply below_drew1) | exact HB.out)))); (case aL => have := LMc40.out; omega); intro v604 w41 ho hb hg hat; rw [← Ny603.out] at ho; have n0_ := Aside0.mk (hb); have n1_ := Aside0.mk (ho); clear HB; clear HO_3; have HB := n0_; have HO605 := n1_; clear n0_ n1_; clear ho hb hg hat))
                              repeat (go_quiet (first | ((with_reducible refine gate_builtin (b := .append) (xs := #[.tmp 19, .tmp 28]) rfl ?_); at_builtin; refine Kd.R_append k53 (w0 := w) w.heap.size rfl (.tmp 19) (.tmp 28) 48 53 (.agg #[(.int .i64 0), (.int .i64 0), (.int .i64 0)]) 24 rfl Try.underlying48 info53 rfl (by decide) (by omega) (.slice (some ad598) x3_1.length co13) x3_1 (⟨x4_1, wrap64 (x4_1 + 1), rd l0 x4_1⟩ : S53) [.int .i64 x4_1, .int .i64 (wrap64 (x4_1 + 1)), .int .i64 (rd l0 x4_1)] (fun _ => True) (fun _ => False) rfl rfl ?aP (fun _ hk => hk.elim) ?aF ?aO ?aB ?aS ?aL ?_; (case aP => exact k53_mkM _ _ _ (⟨x4_1, wrap64 (x4_1 + 1), rd l0 x4_1⟩ : S53)); (case aB => exact (by repeat (first | (with_reducible first | exact HB.out | apply below_alloc | apply pw_below_drewN | apply below_drew1) | exact HB.out))); (case aF => exact (fun _ _ => trivial)); (case aO => exact (by (with_reducible repeat (first | apply Kd.R_alloc | apply Kd.R_drewN | apply Kd.R_drew)); exact HO_3.out)); (case aS => exact (below_size (by repeat (first | (with_reducible first | exact HB.out | apply below_alloc | apply pw_below_drewN | apply below_drew1) | exact HB.out)))); (case aL => have := LMc40.out; omega); intro v604 w41 ho hb hg hat; rw [← Ny603.out] at ho; have n0_ := Aside0.mk (hb); have n1_ := Aside0.mk (ho); clear HB; clear HO_3; have HB := n0_; have HO605 := n1_; clear n0_ n1_; clear ho hb hg hat)); try go_wp2_with (first | ((with_reducible refine gate_builtin (b := .append) (xs := #[.tmp 19, .tmp 28]) rfl ?_); at_builtin; refine Kd.R_append k53 (w0 := w) w.heap.size rfl (.tmp 19) (.tmp 28) 48 53 (.agg #[(.int .i64 0), (.int .i64 0), (.int .i64 0)]) 24 rfl Try.underlying48 info53 rfl (by decide) (by omega) (.slice (some ad598) x3_1.length co13) x3_1 (⟨x4_1, wrap64 (x4_1 + 1), rd l0 x4_1⟩ : S53) [.int .i64 x4_1, .int .i64 (wrap64 (x4_1 + 1)), .int .i64 (rd l0 x4_1)] (fun _ => True) (fun _ => False) rfl rfl ?aP (fun _ hk => hk.elim) ?aF ?aO ?aB ?aS ?aL ?_; (case aP => exact k53_mkM _ _ _ (⟨x4_1, wrap64 (x4_1 + 1), rd l0 x4_1⟩ : S53)); (case aB => exact (by repeat (first | (with_reducible first | exact HB.out | apply below_alloc | apply pw_below_drewN | apply below_drew1) | exact HB.out))); (case aF => exact (fun _ _ => trivial)); (case aO => exact (by (with_reducible repeat (first | apply Kd.R_alloc | apply Kd.R_drewN | apply Kd.R_drew)); exact HO_3.out)); (case aS => exact (below_size (by repeat (first | (with_reducible first | exact HB.out | apply below_alloc | apply pw_below_drewN | apply below_drew1) | exact HB.out)))); (case aL => have := LMc40.out; omega); intro v604 w41 ho hb hg hat; rw [← Ny603.out] at ho; have n0_ := Aside0.mk (hb); have n1_ := Aside0.mk (ho); clear HB; clear HO_3; have HB := n0_; have HO605 := n1_; clear n0_ n1_; clear ho hb hg hat)))
                              go_roundg kj11
                              case measure => have := HK1.out; have := HJ11.out; omega
                              case rel => exact ⟨(y603), (wrap64 (x4_1 + 1)), (by first | rfl | (simp; done) | (simp [*]; done)), H', ⟨by have := HK1.out; have := HJ11.out; omega⟩, ⟨by (with_reducible repeat (first | apply Kd.R_alloc | apply Kd.R_drewN | apply Kd.R_drew)); exact HO605.out⟩, ⟨by repeat (first | (with_reducible first | exact HB.out | apply below_alloc | apply pw_below_drewN | apply below_drew1) | exact HB.out)⟩⟩
                            · rw [if_neg c40] at H
                              exact absurd H (by simp)
                          · rw [if_neg c39] at H
                            exact absurd H (by simp)
                        · rw [if_neg c38] at H
                          exact absurd H (by simp)
                    · rw [if_neg c28] at H
                      exact absurd H (by simp)
                  · rw [if_neg c27] at H
                    exact absurd H (by simp)
        · rw [if_neg c6] at H
          have c6b0 : decide (x4_1 < (l0.length : Int)) = false := decide_eq_false c6
          clear c6
          obtain rfl := Option.some.inj H
          go_wp2
          repeat (go_quiet (fail); try go_wp2)
          go_ret
          exact ⟨_, by first | rfl | (simp [errW_none, errW_some] <;> rfl) | (simp [*, errW_none, errW_some] <;> rfl), by (with_reducible repeat (first | apply Kd.R_alloc | apply Kd.R_drewN | apply Kd.R_drew)); exact HO_3.out, by repeat (first | (with_reducible first | exact HB.out | apply below_alloc | apply pw_below_drewN | apply below_drew1) | exact HB.out)⟩
  · replace c3 := Bool.eq_false_iff.mpr c3
    subst c3
    have H1 : (some y586) = some r := by rw [if_neg (show ¬ (false = true) by decide)] at H; exact H
    clear H
    have H := H1
    clear H1
    obtain rfl := Option.some.inj H
    go_enter Try.func72, Try.ntmps72
    go_wp2_with (first | ((with_reducible refine gate_dst (N := 6) rfl ?_); refine Kd.R_lit k53 _ 53 ?hg (N := 6) ?hd (xs := ([] : List (S53))) (inner := []) (ok := fun _ => True) (okp := fun _ => True) ?hr ?hp (fun _ hk => hk) trivial (Below.refl _ _) (Nat.le_refl _) (by simp) ?_; (case hd => rfl); (case hg => rfl); (case hr => first | (go_simp; done) | (go_simp; rfl)); (case hp => exact (Reps.none _ _)); intro v587 w42 ho43 hb hg_ hnew_; clear hg_ hnew_; (first | rw [← Ny586.out] at ho43 | (simp only [Int.reduceToNat] at ho43; rw [← Ny586.out] at ho43)); have n0_ := Aside0.mk (Kd.R_lower ho43 (below_size (by repeat (first | (with_reducible first | exact HB.out | apply below_alloc | apply pw_below_drewN | apply below_drew1) | exact HB.out)))); have n1_ := Aside0.mk (below_step (by repeat (first | (with_reducible first | exact HB.out | apply below_alloc | apply pw_below_drewN | apply below_drew1) | exact HB.out)) hb); clear HB; have HO588 := n0_; have HB := n1_; clear n0_ n1_; clear hb ho43) | (go_at_call 100; (with_reducible refine (spec_l4Ok.calls k _ _ l0 false _ ?side1 ?side2 A2.out).mono ?_); (case side1 => repeat (first | exact (Kd.C_below HR0.out HB.out) | (with_reducible refine Kd.C_alloc ?_ _) | (with_reducible refine Kd.C_drewN ?_ _) | (with_reducible refine Kd.C_drew ?_))); (case side2 => exact HC0.out); rintro e w' ⟨rfl, ⟨nd, rfl⟩⟩; (try first | exact ⟨rfl, _, World.drewN_drewN _ _ _⟩ | exact ⟨rfl, _, Eq.trans (World.drewN_drewN _ _ _) (congrArg (World.drewN _) (Nat.add_assoc _ _ _))⟩)))
    repeat (go_quiet (first | ((with_reducible refine gate_dst (N := 6) rfl ?_); refine Kd.R_lit k53 _ 53 ?hg (N := 6) ?hd (xs := ([] : List (S53))) (inner := []) (ok := fun _ => True) (okp := fun _ => True) ?hr ?hp (fun _ hk => hk) trivial (Below.refl _ _) (Nat.le_refl _) (by simp) ?_; (case hd => rfl); (case hg => rfl); (case hr => first | (go_simp; done) | (go_simp; rfl)); (case hp => exact (Reps.none _ _)); intro v587 w42 ho43 hb hg_ hnew_; clear hg_ hnew_; (first | rw [← Ny586.out] at ho43 | (simp only [Int.reduceToNat] at ho43; rw [← Ny586.out] at ho43)); have n0_ := Aside0.mk (Kd.R_lower ho43 (below_size (by repeat (first | (with_reducible first | exact HB.out | apply below_alloc | apply pw_below_drewN | apply below_drew1) | exact HB.out)))); have n1_ := Aside0.mk (below_step (by repeat (first | (with_reducible first | exact HB.out | apply below_alloc | apply pw_below_drewN | apply below_drew1) | exact HB.out)) hb); clear HB; have HO588 := n0_; have HB := n1_; clear n0_ n1_; clear hb ho43) | (go_at_call 100; (with_reducible refine (spec_l4Ok.calls k _ _ l0 false _ ?side1 ?side2 A2.out).mono ?_); (case side1 => repeat (first | exact (Kd.C_below HR0.out HB.out) | (with_reducible refine Kd.C_alloc ?_ _) | (with_reducible refine Kd.C_drewN ?_ _) | (with_reducible refine Kd.C_drew ?_))); (case side2 => exact HC0.out); rintro e w' ⟨rfl, ⟨nd, rfl⟩⟩; (try first | exact ⟨rfl, _, World.drewN_drewN _ _ _⟩ | exact ⟨rfl, _, Eq.trans (World.drewN_drewN _ _ _) (congrArg (World.drewN _) (Nat.add_assoc _ _ _))⟩))); try go_wp2_with (first | ((with_reducible refine gate_dst (N := 6) rfl ?_); refine Kd.R_lit k53 _ 53 ?hg (N := 6) ?hd (xs := ([] : List (S53))) (inner := []) (ok := fun _ => True) (okp := fun _ => True) ?hr ?hp (fun _ hk => hk) trivial (Below.refl _ _) (Nat.le_refl _) (by simp) ?_; (case hd => rfl); (case hg => rfl); (case hr => first | (go_simp; done) | (go_simp; rfl)); (case hp => exact (Reps.none _ _)); intro v587 w42 ho43 hb hg_ hnew_; clear hg_ hnew_; (first | rw [← Ny586.out] at ho43 | (simp only [Int.reduceToNat] at ho43; rw [← Ny586.out] at ho43)); have n0_ := Aside0.mk (Kd.R_lower ho43 (below_size (by repeat (first | (with_reducible first | exact HB.out | apply below_alloc | apply pw_below_drewN | apply below_drew1) | exact HB.out)))); have n1_ := Aside0.mk (below_step (by repeat (first | (with_reducible first | exact HB.out | apply below_alloc | apply pw_below_drewN | apply below_drew1) | exact HB.out)) hb); clear HB; have HO588 := n0_; have HB := n1_; clear n0_ n1_; clear hb ho43) | (go_at_call 100; (with_reducible refine (spec_l4Ok.calls k _ _ l0 false _ ?side1 ?side2 A2.out).mono ?_); (case side1 => repeat (first | exact (Kd.C_below HR0.out HB.out) | (with_reducible refine Kd.C_alloc ?_ _) | (with_reducible refine Kd.C_drewN ?_ _) | (with_reducible refine Kd.C_drew ?_))); (case side2 => exact HC0.out); rintro e w' ⟨rfl, ⟨nd, rfl⟩⟩; (try first | exact ⟨rfl, _, World.drewN_drewN _ _ _⟩ | exact ⟨rfl, _, Eq.trans (World.drewN_drewN _ _ _) (congrArg (World.drewN _) (Nat.add_assoc _ _ _))⟩))))
    go_ret
    exact ⟨_, by first | rfl | (simp [errW_none, errW_some] <;> rfl) | (simp [*, errW_none, errW_some] <;> rfl), by (with_reducible repeat (first | apply Kd.R_alloc | apply Kd.R_drewN | apply Kd.R_drew)); exact HO588.out, by repeat (first | (with_reducible first | exact HB.out | apply below_alloc | apply pw_below_drewN | apply below_drew1) | exact HB.out)⟩

end Go.Proofs.Ytoafenblaioopaa.S

namespace Go.Proofs.Ytoafenblaioopaa.S
open Go.RowKit Go.Proofs.YtoafenblaioopaaW.PrintWords Go.Proofs.YtoafenblaioopaaW.PrintLast Go.Proofs.YtoafenblaioopaaW.PrintMore
attribute [local go_sem] max2_int min2_int max_two min_two max_three min_three max_four min_four   -- for this text's walks alone
set_option linter.unusedVariables false
set_option linter.unusedSimpArgs false

/-! ### spec_ScriptRuns: function 37 -/
def spec_ScriptRuns.f (k : Nat) (l0 : List Int) : Option ((List (S53))) := (spec_ScriptsOf.f k l0).bind fun t606 => ((spec_RunsOf.f k t606).bind fun t609 => (some t609))
theorem spec_ScriptRuns.mono : ∀ a0 k, LeO (spec_ScriptRuns.f k a0) (spec_ScriptRuns.f (k + 1) a0) := by
  intro a0 k
  unfold spec_ScriptRuns.f
  repeat' first
      | (with_reducible exact spec_RunsOf.mono _ _)
      | (with_reducible exact spec_ScriptsOf.mono _ _)
      | (with_reducible exact LeO.refl _)
      | (with_reducible exact LeO.none _)
      | (with_reducible refine LeO.ite ?_ ?_)
      | (with_reducible refine LeO.bind ?_ (fun _ => ?_))
      | exact spec_RunsOf.mono _ _
      | exact spec_ScriptsOf.mono _ _
      | exact LeO.none _
      | refine LeO.ite ?_ ?_
      | refine LeO.bind ?_ (fun _ => ?_)
set_option maxHeartbeats 8000000 in
set_option maxRecDepth 100000 in
theorem spec_ScriptRuns.calls (k : Nat) (A0 : Option Addr) (c0 : Nat) (l0 : List Int) (r : List (S53)) (w : World) (hr0 : Kd.C (Kd.int .i64) w A0 l0.length l0) (hc0 : l0.length ≤ c0) (h : spec_ScriptRuns.f k l0 = some r) :
    Calls Try.prog 37 #[.slice A0 l0.length c0] w fun e w' => ∃ v0_ : Value, e = .returned (v0_) ∧ Kd.R k53 53 w' w.heap.size (fun _ => True) v0_ r ∧ Below w.heap.size w w' := by
  have HR0 := Aside0.mk hr0
  have HC0 := Aside0.mk hc0
  clear hr0 hc0
  have HB := Aside0.mk (Below.refl w.heap.size w)
  have H : ((spec_ScriptsOf.f k l0).bind fun t606 => ((spec_RunsOf.f k t606).bind fun t609 => (some t609))) = some r := h
  clear h
  replace H := Option.bind_eq_some_iff.mp H
  obtain ⟨t606, A20, H⟩ := H
  replace H : ((spec_RunsOf.f k t606).bind fun t609 => (some t609)) = some r := H
  have A2 := Aside0.mk A20
  clear A20
  replace H := Option.bind_eq_some_iff.mp H
  obtain ⟨t609, A30, H⟩ := H
  replace H : (some t609) = some r := H
  have A3 := Aside0.mk A30
  clear A30
  obtain rfl := Option.some.inj H
  go_enter Try.func37, Try.ntmps37
  go_wp2_with (first | ((with_reducible refine gate_callee (f := 22) rfl ?_); refine goesL_ (some 4) rfl rfl Try.func22 (by kernel_rfl) rfl #[.slice A0 l0.length c0] rfl (by (try simp only [List.map_toArray, List.map_cons, List.map_nil]); first | done | rfl | (simp only [List.length_drop, List.length_take]; rfl)) ?_; (with_reducible refine (spec_ScriptsOf.calls k _ _ l0 t606 _ ?side1 ?side2 A2.out).mono ?_); (case side1 => repeat (first | exact HR0.out | (with_reducible refine Kd.C_alloc ?_ _) | (with_reducible refine Kd.C_drewN ?_ _) | (with_reducible refine Kd.C_drew ?_))); (case side2 => exact HC0.out); rintro e w4 ⟨v607, rfl, ho0, hb⟩; refine ⟨_, rfl, ?_⟩; have n0_ := Aside0.mk (Kd.R_lower ho0 (below_size (by repeat (first | (with_reducible first | exact HB.out | apply below_alloc | apply pw_below_drewN | apply below_drew1) | exact HB.out)))); have n1_ := Aside0.mk (below_step (by repeat (first | (with_reducible first | exact HB.out | apply below_alloc | apply pw_below_drewN | apply below_drew1) | exact HB.out)) hb); clear HB; have HO608 := n0_; have HB := n1_; clear n0_ n1_; (try clear hb); (try clear hb2); (try clear hk); (try clear hi); (try clear ho0); obtain ⟨Ao5, co5, eo5⟩ := Kd.R_slice HO608.out; subst eo5) | ((with_reducible refine gate_callee (f := 72) rfl ?_); refine goesL_ (some 5) rfl rfl Try.func72 (by kernel_rfl) rfl #[.slice Ao5 t606.length co5] rfl (by (try simp only [List.map_toArray, List.map_cons, List.map_nil]); first | done | rfl | (simp only [List.length_drop, List.length_take]; rfl)) ?_; (with_reducible refine (spec_RunsOf.calls k _ _ t606 t609 _ ?side1 ?side2 A3.out).mono ?_); (case side1 => repeat (first | exact (Kd.R_reads' HO608.out).2.2 | (with_reducible refine Kd.C_alloc ?_ _) | (with_reducible refine Kd.C_drewN ?_ _) | (with_reducible refine Kd.C_drew ?_))); (case side2 => exact (Kd.R_reads' HO608.out).2.1); rintro e w6 ⟨v610, rfl, ho0, hb⟩; refine ⟨_, rfl, ?_⟩; have n0_ := Aside0.mk (Kd.R_below (by (with_reducible repeat (first | apply Kd.R_alloc | apply Kd.R_drewN | apply Kd.R_drew)); exact HO608.out) hb); have n1_ := Aside0.mk (Kd.R_lower ho0 (below_size (by repeat (first | (with_reducible first | exact HB.out | apply below_alloc | apply pw_below_drewN | apply below_drew1) | exact HB.out)))); have n2_ := Aside0.mk (below_step (by repeat (first | (with_reducible first | exact HB.out | apply below_alloc | apply pw_below_drewN | apply below_drew1) | exact HB.out)) hb); clear HO608; clear HB; have HO608 := n0_; have HO611 := n1_; have HB := n2_; clear n0_ n1_ n2_; (try clear hb); (try clear hb2); (try clear hk); (try clear hi); (try clear ho0)))
  go_ret
  exact ⟨_, by first | rfl | (simp [errW_none, errW_some] <;> rfl) | (simp [*, errW_none, errW_some] <;> rfl), by (with_reducible repeat (first | apply Kd.R_alloc | apply Kd.R_drewN | apply Kd.R_drew)); exact HO611.out, by repeat (first | (with_reducible first | exact HB.out | apply below_alloc | apply pw_below_drewN | apply below_drew1) | exact HB.out)⟩

end Go.Proofs.Ytoafenblaioopaa.S

namespace Go.Proofs.Ytoafenblaioopaa.S
open Go.RowKit Go.Proofs.YtoafenblaioopaaW.PrintWords Go.Proofs.YtoafenblaioopaaW.PrintLast Go.Proofs.YtoafenblaioopaaW.PrintMore
attribute [local go_sem] max2_int min2_int max_two min_two max_three min_three max_four min_four   -- for this text's walks alone
set_option linter.unusedVariables false
set_option linter.unusedSimpArgs false

/-! ### slices_IndexFunc_int_int: function 64: idxint.tpl -/
/-- Where the first element stands of which p holds; -1, if there is none. -/
def idxI (p : Int → Bool) (l : List Int) : Int := if l.any p then (l.findIdx p : Int) else -1
theorem idxI_hit {p : Int → Bool} {l : List Int} {k : Nat} (hk : k < l.length) (hp : p (l.getD k 0) = true) (hb : ∀ j, j < k → p (l.getD j 0) = false) : idxI p l = k := by
  have hm : l.getD k 0 = l[k] := by simp [List.getD_eq_getElem?_getD, hk]
  have ha : l.any p = true := List.any_eq_true.2 ⟨l[k], List.getElem_mem hk, by rw [← hm]; exact hp⟩
  have hf : l.findIdx p = k := by
    rw [List.findIdx_eq hk]
    refine ⟨by rw [← hm]; exact hp, fun j hj => ?_⟩
    have := hb j hj
    simpa [List.getD_eq_getElem?_getD, show j < l.length by omega] using this
  rw [idxI, if_pos ha, hf]
theorem idxI_miss {p : Int → Bool} {l : List Int} (hb : ∀ j, j < l.length → p (l.getD j 0) = false) : idxI p l = -1 := by
  have ha : ¬ l.any p = true := by
    rw [List.any_eq_true]
    rintro ⟨x, hx, hp⟩
    obtain ⟨j, hj, rfl⟩ := List.getElem_of_mem hx
    have := hb j hj
    simp [List.getD_eq_getElem?_getD, hj] at this
    rw [this] at hp
    cases hp
  rw [idxI, if_neg ha]
theorem idxI_lt {p : Int → Bool} {l : List Int} (h : 0 ≤ idxI p l) : idxI p l < l.length := by
  unfold idxI at h ⊢
  by_cases ha : l.any p = true
  · rw [if_pos ha]
    have : l.findIdx p < l.length := List.findIdx_lt_length.2 (by simpa using ha)
    omega
  · rw [if_neg ha] at h
    omega
theorem idxI_nonneg (p : Int → Bool) (l : List Int) : decide (0 ≤ idxI p l) = l.any p := by
  unfold idxI
  cases l.any p <;> simp <;> omega
set_option maxHeartbeats 8000000 in
set_option maxRecDepth 100000 in
theorem idxI_calls (p : Int → Bool) (g : Nat) (lb : Array Value) (eg : ∀ args w, (callFunc g args).run Try.prog w = .ok (.enter g args) w) (A0 : Option Addr) (c0 : Nat) (l0 : List Int) (w : World) (hr0 : Kd.C (Kd.int .i64) w A0 l0.length l0)
    (hn : l0.length ≤ 9223372036854775806) (hp : ∀ W, Below w.heap.size w W → ∀ j, j < l0.length → Calls Try.prog g (#[.int .i64 (l0.getD j 0)] ++ lb) W fun e w' => e = .returned (.bool (p (l0.getD j 0))) ∧ Below w.heap.size w w') :
    Calls Try.prog 64 #[.slice A0 l0.length c0, .func (.func g) #[] lb] w fun e w' => e = .returned (.int .i64 (idxI p l0)) ∧ Below w.heap.size w w' := by
  have HR0 := Aside0.mk hr0
  have HP := Aside0.mk hp
  clear hr0 hp
  go_enter Try.func64, Try.ntmps64
  go_wp2
  go_loopg [5, 8] l0.length (fun gg _ s8 wr => ∃ kk : Nat, kk ≤ l0.length ∧ l0.length - kk ≤ gg ∧ s8 = .int .i64 kk ∧ Aside0 (Below w.heap.size w wr) ∧ Aside0 (∀ j, j < kk → p (l0.getD j 0) = false))
  case atStart => exact ⟨0, Nat.zero_le _, by omega, rfl, ⟨Below.refl _ w⟩, ⟨fun j hj => absurd hj (Nat.not_lt_zero _)⟩⟩
  case round =>
    obtain ⟨kk, hkk, hg, rfl, HB, HA⟩ := hrel
    by_cases hlt : kk < l0.length
    · have hltz : (kk : Int) < (l0.length : Int) := by omega
      obtain ⟨ad, rfl, hx⟩ := Kd.at_int HR0.out (kk : Int) (by omega) hltz
      replace hx := (HB.out.cell (World.block_lt_of_cell? w _ hx)).trans hx
      have hcall := HP.out wr HB.out kk hlt
      simp only [rd, Int.toNat_natCast] at hx
      generalize hy : l0.getD kk 0 = y at hx hcall
      have HY := Aside0.mk hy
      clear hy
      cases hq : p y with
      | true =>
        have HQ := Aside0.mk hq
        rw [hq] at hcall
        clear hq
        go_wp2_with (go_at_fn g; refine hcall.mono ?_; rintro e w' ⟨rfl, hb'⟩)
        go_ret
        refine ⟨?_, hb'⟩
        rw [idxI_hit hlt (by rw [HY.out]; exact HQ.out) HA.out]
        rfl
      | false =>
        have HQ := Aside0.mk hq
        rw [hq] at hcall
        clear hq
        go_wp2_with (go_at_fn g; refine hcall.mono ?_; rintro e w' ⟨rfl, hb'⟩)
        go_roundg (l0.length - (kk + 1))
        case measure => omega
        case rel =>
          refine ⟨kk + 1, by omega, by omega, by go_num, ⟨hb'⟩, ⟨fun j hj => ?_⟩⟩
          by_cases e : j = kk
          · subst e
            rw [HY.out]; exact HQ.out
          · exact HA.out j (by omega)
    · have hltz : ¬ (kk : Int) < (l0.length : Int) := by omega
      have hk : kk = l0.length := by omega
      subst hk
      go_wp2
      go_ret
      refine ⟨?_, HB.out⟩
      rw [idxI_miss HA.out]
      rfl


end Go.Proofs.Ytoafenblaioopaa.S

namespace Go.Proofs.Ytoafenblaioopaa.S
open Go.RowKit Go.Proofs.YtoafenblaioopaaW.PrintWords Go.Proofs.YtoafenblaioopaaW.PrintLast Go.Proofs.YtoafenblaioopaaW.PrintMore
attribute [local go_sem] max2_int min2_int max_two min_two max_three min_three max_four min_four   -- for this text's walks alone
set_option linter.unusedVariables false
set_option linter.unusedSimpArgs false

/-! ### impl_isLetter: function 90 -/
def impl_isLetter.f (a0 : Int) : Option (Bool) := if a0 ≥ 0 then (if a0 ≤ 1114111 then (if a0 < 55296 then (some true) else (some (decide (a0 > 57343)))) else (some false)) else (some false)
set_option maxHeartbeats 8000000 in
set_option maxRecDepth 100000 in
theorem impl_isLetter.calls (a0 : Int) (r : Bool) (w : World) (h : impl_isLetter.f a0 = some r) :
    Calls Try.prog 90 #[.int .i64 a0] w fun e w' => e = .returned (.bool r) ∧ Drawn0 w w' := by
  have H : (if a0 ≥ 0 then (if a0 ≤ 1114111 then (if a0 < 55296 then (some true) else (some (decide (a0 > 57343)))) else (some false)) else (some false)) = some r := h
  clear h
  by_cases c2 : a0 ≥ 0
  · rw [if_pos c2] at H
    have c2b0 : decide (0 ≤ a0) = true := decide_eq_true c2
    clear c2
    by_cases c3 : a0 ≤ 1114111
    · rw [if_pos c3] at H
      have c3b0 : decide (a0 ≤ 1114111) = true := decide_eq_true c3
      clear c3
      by_cases c4 : a0 < 55296
      · rw [if_pos c4] at H
        have c4b0 : decide (a0 < 55296) = true := decide_eq_true c4
        clear c4
        obtain rfl := Option.some.inj H
        go_enter Try.func90, Try.ntmps90
        go_wp2
        go_ret
        exact ⟨by first | rfl | (simp; done) | (simp [*]; done), by repeat (first | exact Drawn0.refl _ | apply Drawn0.step)⟩
      · rw [if_neg c4] at H
        have c4b0 : decide (a0 < 55296) = false := decide_eq_false c4
        clear c4
        obtain rfl := Option.some.inj H
        go_enter Try.func90, Try.ntmps90
        go_wp2
        go_ret
        exact ⟨by first | rfl | (simp; done) | (simp [*]; done), by repeat (first | exact Drawn0.refl _ | apply Drawn0.step)⟩
    · rw [if_neg c3] at H
      have c3b0 : decide (a0 ≤ 1114111) = false := decide_eq_false c3
      clear c3
      obtain rfl := Option.some.inj H
      go_enter Try.func90, Try.ntmps90
      go_wp2
      go_ret
      exact ⟨by first | rfl | (simp; done) | (simp [*]; done), by repeat (first | exact Drawn0.refl _ | apply Drawn0.step)⟩
  · rw [if_neg c2] at H
    have c2b0 : decide (0 ≤ a0) = false := decide_eq_false c2
    clear c2
    obtain rfl := Option.some.inj H
    go_enter Try.func90, Try.ntmps90
    go_wp2
    go_ret
    exact ⟨by first | rfl | (simp; done) | (simp [*]; done), by repeat (first | exact Drawn0.refl _ | apply Drawn0.step)⟩

end Go.Proofs.Ytoafenblaioopaa.S

namespace Go.Proofs.Ytoafenblaioopaa.S
open Go.RowKit Go.Proofs.YtoafenblaioopaaW.PrintWords Go.Proofs.YtoafenblaioopaaW.PrintLast Go.Proofs.YtoafenblaioopaaW.PrintMore
attribute [local go_sem] max2_int min2_int max_two min_two max_three min_three max_four min_four   -- for this text's walks alone
set_option linter.unusedVariables false
set_option linter.unusedSimpArgs false

/-! ### impl_lettersOk: function 60: lettersok.tpl -/
def isLetV (r : Int) : Bool := decide (0 ≤ r) && decide (r ≤ 1114111) && (decide (r < 55296) || decide (57343 < r))
theorem isLet_f (r : Int) : impl_isLetter.f r = some (isLetV r) := by
  unfold impl_isLetter.f isLetV
  by_cases h0 : 0 ≤ r
  · by_cases h1 : r ≤ 1114111
    · by_cases h2 : r < 55296
      · simp [h0, h1, h2]
      · simp [h0, h1, h2]
    · simp [h0, h1]
  · simp [h0]
set_option maxHeartbeats 8000000 in
set_option maxRecDepth 100000 in
theorem hasI_calls (p : Int → Bool) (g : Nat) (lb : Array Value) (eg : ∀ args w, (callFunc g args).run Try.prog w = .ok (.enter g args) w) (A0 : Option Addr) (c0 : Nat) (l0 : List Int) (w : World) (hr0 : Kd.C (Kd.int .i64) w A0 l0.length l0)
    (hn : l0.length ≤ 9223372036854775806) (hp : ∀ W, Below w.heap.size w W → ∀ j, j < l0.length → Calls Try.prog g (#[.int .i64 (l0.getD j 0)] ++ lb) W fun e w' => e = .returned (.bool (p (l0.getD j 0))) ∧ Below w.heap.size w w') :
    Calls Try.prog 88 #[.slice A0 l0.length c0, .func (.func g) #[] lb] w fun e w' => e = .returned (.bool (l0.any p)) ∧ Below w.heap.size w w' := by
  rw [← idxI_nonneg]
  go_enter Try.func88, Try.ntmps88
  go_wp2_with (go_at_call 64; refine (idxI_calls p g lb eg A0 c0 l0 _ hr0 hn hp).mono ?_; rintro e w' ⟨rfl, hb'⟩)
  go_ret
  exact ⟨rfl, hb'⟩
def okV (l : List Int) : Bool := decide (l.length ≤ 80) && l.all isLetV
def impl_lettersOk.f (l0 : List Int) : Option Bool := some (okV l0)
set_option maxHeartbeats 8000000 in
set_option maxRecDepth 100000 in
theorem lettersOk_1_calls (x : Int) (W : World) : Calls Try.prog 89 #[.int .i64 x] W fun e w' => e = .returned (.bool (!isLetV x)) ∧ Drawn0 W w' := by
  go_enter Try.func89, Try.ntmps89
  go_wp2_with (go_at_call 90; refine (impl_isLetter.calls x (isLetV x) _ (isLet_f x)).mono ?_; rintro e w' ⟨rfl, ⟨nd, rfl⟩⟩)
  go_ret
  exact ⟨rfl, Drawn0.step (Drawn0.refl _) _⟩
set_option maxHeartbeats 8000000 in
set_option maxRecDepth 100000 in
theorem impl_lettersOk.calls (A0 : Option Addr) (c0 : Nat) (l0 : List Int) (r : Bool) (w : World) (hr0 : Kd.C (Kd.int .i64) w A0 l0.length l0) (hc0 : l0.length ≤ c0) (h : impl_lettersOk.f l0 = some r) :
    Calls Try.prog 60 #[.slice A0 l0.length c0] w fun e w' => e = .returned (.bool r) ∧ Below w.heap.size w w' := by
  obtain rfl := Option.some.inj h
  clear h
  by_cases hl : l0.length ≤ 80
  · have hd : decide ((l0.length : Int) ≤ 80) = true := decide_eq_true (by omega)
    have e : okV l0 = !(l0.any fun x => !isLetV x) := by simp [okV, hl, List.all_eq_not_any_not]
    have HE := Aside0.mk e
    have HL := Aside0.mk hl
    clear e hl
    go_enter Try.func60, Try.ntmps60
    go_wp2_with (go_at_call 88; refine (hasI_calls (fun x => !isLetV x) 89 #[] (fun _ _ => by first | rfl | (go_simp; done)) A0 c0 l0 _ hr0 (by have := HL.out; omega) (fun W hb j hj => ((lettersOk_1_calls _ W).mono fun _ _ ⟨he, hd⟩ => ⟨he, hb.trans (hd.below.mono hb.size)⟩))).mono ?_; rintro e w' ⟨rfl, hb'⟩)
    go_ret
    exact ⟨by rw [HE.out]; rfl, hb'⟩
  · have hd : decide ((l0.length : Int) ≤ 80) = false := decide_eq_false (by omega)
    have e : okV l0 = false := by simp [okV, hl]
    have HE := Aside0.mk e
    clear e hl
    go_enter Try.func60, Try.ntmps60
    go_wp2
    go_ret
    exact ⟨by rw [HE.out]; rfl, Below.refl _ _⟩


end Go.Proofs.Ytoafenblaioopaa.S

namespace Go.Proofs.Ytoafenblaioopaa.S
open Go.RowKit Go.Proofs.YtoafenblaioopaaW.PrintWords Go.Proofs.YtoafenblaioopaaW.PrintLast Go.Proofs.YtoafenblaioopaaW.PrintMore
attribute [local go_sem] max2_int min2_int max_two min_two max_three min_three max_four min_four   -- for this text's walks alone
set_option linter.unusedVariables false
set_option linter.unusedSimpArgs false

/-! ### prelude: aa_prelude.tpl -/
/-- append(v, x) of a whole number, onto a row of the call's own. -/
theorem appI {P : Program} {rest : List Oper} {opsA : Array Oper} {o : Oper} {a : Act} {Q : Exit → Act → World → Prop} {w0 W : World} {t : TypeId} {base : Nat} (ht : P.underlying t = some (.slice 3)) (hinfo : (P.info? 3).map (fun i => (i.zero, i.size, i.bytes)) = some (some (.int .i64 0), 1, 8)) (hgd : o.guard = none) (s x : Operand)
    (ho : o.op = .call { callee := .builtin .append, args := #[s, x], argTypes := #[t, t] }) (v : Value) (xs : List Int) (p : Int) (hs : a.eval s = v) (hx : a.eval x = .slice (some ⟨W.heap.size, 0, none⟩) 1 1)
    (HO : Kd.R (Kd.int .i64) 3 W base (fun _ => True) v xs) (HB : Below base w0 W) (hbase : base ≤ W.heap.size) (hl : xs.length < 1000000)
    (h : ∀ v1 w1, Kd.R (Kd.int .i64) 3 w1 base (fun _ => True) v1 (xs ++ [p]) → Below base w0 w1 → W.grownBy w1 v.ownBlock → (v1.ownBlock = v.ownBlock ∨ ∃ b, v1.ownBlock = some b ∧ W.heap.size ≤ b) → wpList P opsA Q rest (a.put o.dst v1) w1) :
    wpList P opsA Q (o :: rest) a (W.alloc (.cells #[.int .i64 p] 3)) :=
  Kd.R_append (Kd.int .i64) base hgd s x t 3 (.int .i64 0) 8 ho ht hinfo rfl (by decide) (by omega) v xs p [.int .i64 p] (fun _ => True) (fun _ => False) hs hx rfl (fun _ hk => hk.elim) (fun _ _ => trivial) HO HB hbase (by omega) h

end Go.Proofs.Ytoafenblaioopaa.S

namespace Go.Proofs.Ytoafenblaioopaa.S
open Go.RowKit Go.Proofs.YtoafenblaioopaaW.PrintWords Go.Proofs.YtoafenblaioopaaW.PrintLast Go.Proofs.YtoafenblaioopaaW.PrintMore
attribute [local go_sem] max2_int min2_int max_two min_two max_three min_three max_four min_four   -- for this text's walks alone
set_option linter.unusedVariables false
set_option linter.unusedSimpArgs false

/-! ### cmp_isNaN_int: function 105 -/
def cmp_isNaN_int.f (a0 : Int) : Option (Bool) := some (a0 != a0)
set_option maxHeartbeats 8000000 in
set_option maxRecDepth 100000 in
theorem cmp_isNaN_int.calls (a0 : Int) (r : Bool) (w : World) (h : cmp_isNaN_int.f a0 = some r) :
    Calls Try.prog 105 #[.int .i64 a0] w fun e w' => e = .returned (.bool r) ∧ Drawn0 w w' := by
  have H : (some (a0 != a0)) = some r := h
  clear h
  obtain rfl := Option.some.inj H
  go_enter Try.func105, Try.ntmps105
  go_wp2
  go_ret
  exact ⟨by first | rfl | (simp; done) | (simp [*]; done), by repeat (first | exact Drawn0.refl _ | apply Drawn0.step)⟩

end Go.Proofs.Ytoafenblaioopaa.S

namespace Go.Proofs.Ytoafenblaioopaa.S
open Go.RowKit Go.Proofs.YtoafenblaioopaaW.PrintWords Go.Proofs.YtoafenblaioopaaW.PrintLast Go.Proofs.YtoafenblaioopaaW.PrintMore
attribute [local go_sem] max2_int min2_int max_two min_two max_three min_three max_four min_four   -- for this text's walks alone
set_option linter.unusedVariables false
set_option linter.unusedSimpArgs false

/-! ### cmp_Compare_int: function 80 -/
def cmp_Compare_int.f (a0 : Int) (a1 : Int) : Option (Int) := (cmp_isNaN_int.f a0).bind fun t107 => ((cmp_isNaN_int.f a1).bind fun t108 => (if t107 = true then (if t108 = true then (some 0) else (some (-1))) else (if t108 = true then (some 1) else (if a0 < a1 then (some (-1)) else (if a0 > a1 then (some 1) else (some 0))))))
set_option maxHeartbeats 8000000 in
set_option maxRecDepth 100000 in
theorem cmp_Compare_int.calls (a0 : Int) (a1 : Int) (r : Int) (w : World) (h : cmp_Compare_int.f a0 a1 = some r) :
    Calls Try.prog 80 #[.int .i64 a0, .int .i64 a1] w fun e w' => e = .returned (.int .i64 r) ∧ Drawn0 w w' := by
  have H : ((cmp_isNaN_int.f a0).bind fun t107 => ((cmp_isNaN_int.f a1).bind fun t108 => (if t107 = true then (if t108 = true then (some 0) else (some (-1))) else (if t108 = true then (some 1) else (if a0 < a1 then (some (-1)) else (if a0 > a1 then (some 1) else (some 0))))))) = some r := h
  clear h
  replace H := Option.bind_eq_some_iff.mp H
  obtain ⟨t107, A30, H⟩ := H
  replace H : ((cmp_isNaN_int.f a1).bind fun t108 => (if t107 = true then (if t108 = true then (some 0) else (some (-1))) else (if t108 = true then (some 1) else (if a0 < a1 then (some (-1)) else (if a0 > a1 then (some 1) else (some 0)))))) = some r := H
  have A3 := Aside0.mk A30
  clear A30
  replace H := Option.bind_eq_some_iff.mp H
  obtain ⟨t108, A40, H⟩ := H
  replace H : (if t107 = true then (if t108 = true then (some 0) else (some (-1))) else (if t108 = true then (some 1) else (if a0 < a1 then (some (-1)) else (if a0 > a1 then (some 1) else (some 0))))) = some r := H
  have A4 := Aside0.mk A40
  clear A40
  by_cases c5 : t107 = true
  · subst c5
    have H1 : (if t108 = true then (some 0) else (some (-1))) = some r := by rw [if_pos rfl] at H; exact H
    clear H
    have H := H1
    clear H1
    by_cases c6 : t108 = true
    · subst c6
      have H1 : (some 0) = some r := by rw [if_pos rfl] at H; exact H
      clear H
      have H := H1
      clear H1
      obtain rfl := Option.some.inj H
      go_enter Try.func80, Try.ntmps80
      go_wp2_with (first | ((with_reducible refine gate_callee (f := 105) rfl ?_); refine goesL_ (some 8) rfl rfl Try.func105 (by kernel_rfl) rfl #[.int .i64 a0] rfl (by (try simp only [List.map_toArray, List.map_cons, List.map_nil]); first | done | rfl | (simp only [List.length_drop, List.length_take]; rfl)) ?_; (with_reducible refine (cmp_isNaN_int.calls a0 true _ A3.out).mono ?_); rintro e w' ⟨rfl, ⟨nd, rfl⟩⟩; refine ⟨_, rfl, ?_⟩) | ((with_reducible refine gate_callee (f := 105) rfl ?_); refine goesL_ (some 10) rfl rfl Try.func105 (by kernel_rfl) rfl #[.int .i64 a1] rfl (by (try simp only [List.map_toArray, List.map_cons, List.map_nil]); first | done | rfl | (simp only [List.length_drop, List.length_take]; rfl)) ?_; (with_reducible refine (cmp_isNaN_int.calls a1 true _ A4.out).mono ?_); rintro e w' ⟨rfl, ⟨nd, rfl⟩⟩; refine ⟨_, rfl, ?_⟩))
      go_ret
      exact ⟨by first | rfl | (simp; done) | (simp [*]; done), by repeat (first | exact Drawn0.refl _ | apply Drawn0.step)⟩
    · replace c6 := Bool.eq_false_iff.mpr c6
      subst c6
      have H1 : (some (-1)) = some r := by rw [if_neg (show ¬ (false = true) by decide)] at H; exact H
      clear H
      have H := H1
      clear H1
      obtain rfl := Option.some.inj H
      go_enter Try.func80, Try.ntmps80
      go_wp2_with (first | ((with_reducible refine gate_callee (f := 105) rfl ?_); refine goesL_ (some 8) rfl rfl Try.func105 (by kernel_rfl) rfl #[.int .i64 a0] rfl (by (try simp only [List.map_toArray, List.map_cons, List.map_nil]); first | done | rfl | (simp only [List.length_drop, List.length_take]; rfl)) ?_; (with_reducible refine (cmp_isNaN_int.calls a0 true _ A3.out).mono ?_); rintro e w' ⟨rfl, ⟨nd, rfl⟩⟩; refine ⟨_, rfl, ?_⟩) | ((with_reducible refine gate_callee (f := 105) rfl ?_); refine goesL_ (some 10) rfl rfl Try.func105 (by kernel_rfl) rfl #[.int .i64 a1] rfl (by (try simp only [List.map_toArray, List.map_cons, List.map_nil]); first | done | rfl | (simp only [List.length_drop, List.length_take]; rfl)) ?_; (with_reducible refine (cmp_isNaN_int.calls a1 false _ A4.out).mono ?_); rintro e w' ⟨rfl, ⟨nd, rfl⟩⟩; refine ⟨_, rfl, ?_⟩))
      go_ret
      exact ⟨by first | rfl | (simp; done) | (simp [*]; done), by repeat (first | exact Drawn0.refl _ | apply Drawn0.step)⟩
  · replace c5 := Bool.eq_false_iff.mpr c5
    subst c5
    have H1 : (if t108 = true then (some 1) else (if a0 < a1 then (some (-1)) else (if a0 > a1 then (some 1) else (some 0)))) = some r := by rw [if_neg (show ¬ (false = true) by decide)] at H; exact H
    clear H
    have H := H1
    clear H1
    by_cases c7 : t108 = true
    · subst c7
      have H1 : (some 1) = some r := by rw [if_pos rfl] at H; exact H
      clear H
      have H := H1
      clear H1
      obtain rfl := Option.some.inj H
      go_enter Try.func80, Try.ntmps80
      go_wp2_with (first | ((with_reducible refine gate_callee (f := 105) rfl ?_); refine goesL_ (some 8) rfl rfl Try.func105 (by kernel_rfl) rfl #[.int .i64 a0] rfl (by (try simp only [List.map_toArray, List.map_cons, List.map_nil]); first | done | rfl | (simp only [List.length_drop, List.length_take]; rfl)) ?_; (with_reducible refine (cmp_isNaN_int.calls a0 false _ A3.out).mono ?_); rintro e w' ⟨rfl, ⟨nd, rfl⟩⟩; refine ⟨_, rfl, ?_⟩) | ((with_reducible refine gate_callee (f := 105) rfl ?_); refine goesL_ (some 10) rfl rfl Try.func105 (by kernel_rfl) rfl #[.int .i64 a1] rfl (by (try simp only [List.map_toArray, List.map_cons, List.map_nil]); first | done | rfl | (simp only [List.length_drop, List.length_take]; rfl)) ?_; (with_reducible refine (cmp_isNaN_int.calls a1 true _ A4.out).mono ?_); rintro e w' ⟨rfl, ⟨nd, rfl⟩⟩; refine ⟨_, rfl, ?_⟩))
      go_ret
      exact ⟨by first | rfl | (simp; done) | (simp [*]; done), by repeat (first | exact Drawn0.refl _ | apply Drawn0.step)⟩
    · replace c7 := Bool.eq_false_iff.mpr c7
      subst c7
      have H1 : (if a0 < a1 then (some (-1)) else (if a0 > a1 then (some 1) else (some 0))) = some r := by rw [if_neg (show ¬ (false = true) by decide)] at H; exact H
      clear H
      have H := H1
      clear H1
      by_cases c8 : a0 < a1
      · rw [if_pos c8] at H
        have c8b0 : decide (a0 < a1) = true := decide_eq_true c8
        clear c8
        obtain rfl := Option.some.inj H
        go_enter Try.func80, Try.ntmps80
        go_wp2_with (first | ((with_reducible refine gate_callee (f := 105) rfl ?_); refine goesL_ (some 8) rfl rfl Try.func105 (by kernel_rfl) rfl #[.int .i64 a0] rfl (by (try simp only [List.map_toArray, List.map_cons, List.map_nil]); first | done | rfl | (simp only [List.length_drop, List.length_take]; rfl)) ?_; (with_reducible refine (cmp_isNaN_int.calls a0 false _ A3.out).mono ?_); rintro e w' ⟨rfl, ⟨nd, rfl⟩⟩; refine ⟨_, rfl, ?_⟩) | ((with_reducible refine gate_callee (f := 105) rfl ?_); refine goesL_ (some 10) rfl rfl Try.func105 (by kernel_rfl) rfl #[.int .i64 a1] rfl (by (try simp only [List.map_toArray, List.map_cons, List.map_nil]); first | done | rfl | (simp only [List.length_drop, List.length_take]; rfl)) ?_; (with_reducible refine (cmp_isNaN_int.calls a1 false _ A4.out).mono ?_); rintro e w' ⟨rfl, ⟨nd, rfl⟩⟩; refine ⟨_, rfl, ?_⟩))
        go_ret
        exact ⟨by first | rfl | (simp; done) | (simp [*]; done), by repeat (first | exact Drawn0.refl _ | apply Drawn0.step)⟩
      · rw [if_neg c8] at H
        have c8b0 : decide (a0 < a1) = false := decide_eq_false c8
        clear c8
        by_cases c9 : a0 > a1
        · rw [if_pos c9] at H
          have c9b0 : decide (a1 < a0) = true := decide_eq_true c9
          clear c9
          obtain rfl := Option.some.inj H
          go_enter Try.func80, Try.ntmps80
          go_wp2_with (first | ((with_reducible refine gate_callee (f := 105) rfl ?_); refine goesL_ (some 8) rfl rfl Try.func105 (by kernel_rfl) rfl #[.int .i64 a0] rfl (by (try simp only [List.map_toArray, List.map_cons, List.map_nil]); first | done | rfl | (simp only [List.length_drop, List.length_take]; rfl)) ?_; (with_reducible refine (cmp_isNaN_int.calls a0 false _ A3.out).mono ?_); rintro e w' ⟨rfl, ⟨nd, rfl⟩⟩; refine ⟨_, rfl, ?_⟩) | ((with_reducible refine gate_callee (f := 105) rfl ?_); refine goesL_ (some 10) rfl rfl Try.func105 (by kernel_rfl) rfl #[.int .i64 a1] rfl (by (try simp only [List.map_toArray, List.map_cons, List.map_nil]); first | done | rfl | (simp only [List.length_drop, List.length_take]; rfl)) ?_; (with_reducible refine (cmp_isNaN_int.calls a1 false _ A4.out).mono ?_); rintro e w' ⟨rfl, ⟨nd, rfl⟩⟩; refine ⟨_, rfl, ?_⟩))
          go_ret
          exact ⟨by first | rfl | (simp; done) | (simp [*]; done), by repeat (first | exact Drawn0.refl _ | apply Drawn0.step)⟩
        · rw [if_neg c9] at H
          have c9b0 : decide (a1 < a0) = false := decide_eq_false c9
          clear c9
          obtain rfl := Option.some.inj H
          go_enter Try.func80, Try.ntmps80
          go_wp2_with (first | ((with_reducible refine gate_callee (f := 105) rfl ?_); refine goesL_ (some 8) rfl rfl Try.func105 (by kernel_rfl) rfl #[.int .i64 a0] rfl (by (try simp only [List.map_toArray, List.map_cons, List.map_nil]); first | done | rfl | (simp only [List.length_drop, List.length_take]; rfl)) ?_; (with_reducible refine (cmp_isNaN_int.calls a0 false _ A3.out).mono ?_); rintro e w' ⟨rfl, ⟨nd, rfl⟩⟩; refine ⟨_, rfl, ?_⟩) | ((with_reducible refine gate_callee (f := 105) rfl ?_); refine goesL_ (some 10) rfl rfl Try.func105 (by kernel_rfl) rfl #[.int .i64 a1] rfl (by (try simp only [List.map_toArray, List.map_cons, List.map_nil]); first | done | rfl | (simp only [List.length_drop, List.length_take]; rfl)) ?_; (with_reducible refine (cmp_isNaN_int.calls a1 false _ A4.out).mono ?_); rintro e w' ⟨rfl, ⟨nd, rfl⟩⟩; refine ⟨_, rfl, ?_⟩))
          go_ret
          exact ⟨by first | rfl | (simp; done) | (simp [*]; done), by repeat (first | exact Drawn0.refl _ | apply Drawn0.step)⟩

end Go.Proofs.Ytoafenblaioopaa.S

namespace Go.Proofs.Ytoafenblaioopaa.S
open Go.RowKit Go.Proofs.YtoafenblaioopaaW.PrintWords Go.Proofs.YtoafenblaioopaaW.PrintLast Go.Proofs.YtoafenblaioopaaW.PrintMore
attribute [local go_sem] max2_int min2_int max_two min_two max_three min_three max_four min_four   -- for this text's walks alone
set_option linter.unusedVariables false
set_option linter.unusedSimpArgs false

/-! ### impl_find_1: function 79 -/
def impl_find_1.f (a0_0 : Int) (a0_1 : Int) (a0_2 : Int) (a1 : Int) : Option (Int) := if a1 ≥ a0_0 then (if a1 ≤ a0_1 then (some 0) else ((cmp_Compare_int.f a0_0 a1).bind fun t110 => (some t110))) else ((cmp_Compare_int.f a0_0 a1).bind fun t111 => (some t111))
set_option maxHeartbeats 8000000 in
set_option maxRecDepth 100000 in
theorem impl_find_1.calls (a0_0 : Int) (a0_1 : Int) (a0_2 : Int) (a1 : Int) (r : Int) (w : World) (h : impl_find_1.f a0_0 a0_1 a0_2 a1 = some r) :
    Calls Try.prog 79 #[.agg #[.int .i64 a0_0, .int .i64 a0_1, .int .i64 a0_2], .int .i64 a1] w fun e w' => e = .returned (.int .i64 r) ∧ Below w.heap.size w w' := by
  have hu59 := Try.underlying59
  have HB := Aside0.mk (Below.refl w.heap.size w)
  have H : (if a1 ≥ a0_0 then (if a1 ≤ a0_1 then (some 0) else ((cmp_Compare_int.f a0_0 a1).bind fun t110 => (some t110))) else ((cmp_Compare_int.f a0_0 a1).bind fun t111 => (some t111))) = some r := h
  clear h
  by_cases c3 : a1 ≥ a0_0
  · rw [if_pos c3] at H
    have c3b0 : decide (a0_0 ≤ a1) = true := decide_eq_true c3
    clear c3
    by_cases c4 : a1 ≤ a0_1
    · rw [if_pos c4] at H
      have c4b0 : decide (a1 ≤ a0_1) = true := decide_eq_true c4
      clear c4
      obtain rfl := Option.some.inj H
      go_enter Try.func79, Try.ntmps79
      go_wp2_with (first | ((with_reducible refine gate_dst (N := 2) rfl ?_); refine box_event ?hg (N := 2) ?hd (cs := #[.int .i64 a0_0, .int .i64 a0_1, .int .i64 a0_2]) (t := 59) ?hr ?_; (case hd => rfl); (case hg => rfl); (case hr => first | (go_simp; done) | (go_simp; rfl)); intro gb109 hg w5 hbox hb; have n0_ := Aside0.mk (below_step (by repeat (first | (with_reducible first | exact HB.out | apply below_alloc | apply pw_below_drewN | apply below_drew1) | exact HB.out)) hb); have n1_ := Aside0.mk (hbox); have n2_ := Aside0.mk ((by rw [hg]; exact (below_size (by repeat (first | (with_reducible first | exact HB.out | apply below_alloc | apply pw_below_drewN | apply below_drew1) | exact HB.out))) : w.heap.size ≤ gb109)); have n3_ := Aside0.mk ((by rw [hg]; exact (below_size (by repeat (first | (with_reducible first | exact HB.out | apply below_alloc | apply pw_below_drewN | apply below_drew1) | exact HB.out))) : w.heap.size ≤ gb109)); clear HB; have HB := n0_; have BK109 := n1_; have GW109 := n2_; have GE109 := n3_; clear n0_ n1_ n2_ n3_; clear hb hbox hg; have hcz6_0 : w5.cell? ⟨gb109, 0, none⟩ = some (.int .i64 a0_0) := (blk_cell BK109.out 0).trans rfl; have hcz6_1 : w5.cell? ⟨gb109, 1, none⟩ = some (.int .i64 a0_1) := (blk_cell BK109.out 1).trans rfl; have hcz6_2 : w5.cell? ⟨gb109, 2, none⟩ = some (.int .i64 a0_2) := (blk_cell BK109.out 2).trans rfl; have hfz6_0 := blk_frozen BK109.out 0; have hfz6_1 := blk_frozen BK109.out 1; have hfz6_2 := blk_frozen BK109.out 2))
      go_ret
      exact ⟨by first | rfl | (simp [errW_none, errW_some] <;> rfl) | (simp [*, errW_none, errW_some] <;> rfl), by repeat (first | (with_reducible first | exact HB.out | apply below_alloc | apply pw_below_drewN | apply below_drew1 | refine below_set ?_ GE109.out) | exact HB.out)⟩
    · rw [if_neg c4] at H
      have c4b0 : decide (a1 ≤ a0_1) = false := decide_eq_false c4
      clear c4
      replace H := Option.bind_eq_some_iff.mp H
      obtain ⟨t110, A70, H⟩ := H
      replace H : (some t110) = some r := H
      have A7 := Aside0.mk A70
      clear A70
      obtain rfl := Option.some.inj H
      go_enter Try.func79, Try.ntmps79
      go_wp2_with (first | ((with_reducible refine gate_dst (N := 2) rfl ?_); refine box_event ?hg (N := 2) ?hd (cs := #[.int .i64 a0_0, .int .i64 a0_1, .int .i64 a0_2]) (t := 59) ?hr ?_; (case hd => rfl); (case hg => rfl); (case hr => first | (go_simp; done) | (go_simp; rfl)); intro gb109 hg w8 hbox hb; have n0_ := Aside0.mk (below_step (by repeat (first | (with_reducible first | exact HB.out | apply below_alloc | apply pw_below_drewN | apply below_drew1) | exact HB.out)) hb); have n1_ := Aside0.mk (hbox); have n2_ := Aside0.mk ((by rw [hg]; exact (below_size (by repeat (first | (with_reducible first | exact HB.out | apply below_alloc | apply pw_below_drewN | apply below_drew1) | exact HB.out))) : w.heap.size ≤ gb109)); have n3_ := Aside0.mk ((by rw [hg]; exact (below_size (by repeat (first | (with_reducible first | exact HB.out | apply below_alloc | apply pw_below_drewN | apply below_drew1) | exact HB.out))) : w.heap.size ≤ gb109)); clear HB; have HB := n0_; have BK109 := n1_; have GW109 := n2_; have GE109 := n3_; clear n0_ n1_ n2_ n3_; clear hb hbox hg; have hcz9_0 : w8.cell? ⟨gb109, 0, none⟩ = some (.int .i64 a0_0) := (blk_cell BK109.out 0).trans rfl; have hcz9_1 : w8.cell? ⟨gb109, 1, none⟩ = some (.int .i64 a0_1) := (blk_cell BK109.out 1).trans rfl; have hcz9_2 : w8.cell? ⟨gb109, 2, none⟩ = some (.int .i64 a0_2) := (blk_cell BK109.out 2).trans rfl; have hfz9_0 := blk_frozen BK109.out 0; have hfz9_1 := blk_frozen BK109.out 1; have hfz9_2 := blk_frozen BK109.out 2) | ((with_reducible refine gate_callee (f := 80) rfl ?_); refine goesL_ (some 18) rfl rfl Try.func80 (by kernel_rfl) rfl #[.int .i64 a0_0, .int .i64 a1] rfl (by (try simp only [List.map_toArray, List.map_cons, List.map_nil]); first | done | rfl | (simp only [List.length_drop, List.length_take]; rfl)) ?_; (with_reducible refine (cmp_Compare_int.calls a0_0 a1 t110 _ A7.out).mono ?_); rintro e w' ⟨rfl, ⟨nd, rfl⟩⟩; refine ⟨_, rfl, ?_⟩))
      go_ret
      exact ⟨by first | rfl | (simp [errW_none, errW_some] <;> rfl) | (simp [*, errW_none, errW_some] <;> rfl), by repeat (first | (with_reducible first | exact HB.out | apply below_alloc | apply pw_below_drewN | apply below_drew1 | refine below_set ?_ GE109.out) | exact HB.out)⟩
  · rw [if_neg c3] at H
    have c3b0 : decide (a0_0 ≤ a1) = false := decide_eq_false c3
    clear c3
    replace H := Option.bind_eq_some_iff.mp H
    obtain ⟨t111, A100, H⟩ := H
    replace H : (some t111) = some r := H
    have A10 := Aside0.mk A100
    clear A100
    obtain rfl := Option.some.inj H
    go_enter Try.func79, Try.ntmps79
    go_wp2_with (first | ((with_reducible refine gate_dst (N := 2) rfl ?_); refine box_event ?hg (N := 2) ?hd (cs := #[.int .i64 a0_0, .int .i64 a0_1, .int .i64 a0_2]) (t := 59) ?hr ?_; (case hd => rfl); (case hg => rfl); (case hr => first | (go_simp; done) | (go_simp; rfl)); intro gb109 hg w11 hbox hb; have n0_ := Aside0.mk (below_step (by repeat (first | (with_reducible first | exact HB.out | apply below_alloc | apply pw_below_drewN | apply below_drew1) | exact HB.out)) hb); have n1_ := Aside0.mk (hbox); have n2_ := Aside0.mk ((by rw [hg]; exact (below_size (by repeat (first | (with_reducible first | exact HB.out | apply below_alloc | apply pw_below_drewN | apply below_drew1) | exact HB.out))) : w.heap.size ≤ gb109)); have n3_ := Aside0.mk ((by rw [hg]; exact (below_size (by repeat (first | (with_reducible first | exact HB.out | apply below_alloc | apply pw_below_drewN | apply below_drew1) | exact HB.out))) : w.heap.size ≤ gb109)); clear HB; have HB := n0_; have BK109 := n1_; have GW109 := n2_; have GE109 := n3_; clear n0_ n1_ n2_ n3_; clear hb hbox hg; have hcz12_0 : w11.cell? ⟨gb109, 0, none⟩ = some (.int .i64 a0_0) := (blk_cell BK109.out 0).trans rfl; have hcz12_1 : w11.cell? ⟨gb109, 1, none⟩ = some (.int .i64 a0_1) := (blk_cell BK109.out 1).trans rfl; have hcz12_2 : w11.cell? ⟨gb109, 2, none⟩ = some (.int .i64 a0_2) := (blk_cell BK109.out 2).trans rfl; have hfz12_0 := blk_frozen BK109.out 0; have hfz12_1 := blk_frozen BK109.out 1; have hfz12_2 := blk_frozen BK109.out 2) | ((with_reducible refine gate_callee (f := 80) rfl ?_); refine goesL_ (some 18) rfl rfl Try.func80 (by kernel_rfl) rfl #[.int .i64 a0_0, .int .i64 a1] rfl (by (try simp only [List.map_toArray, List.map_cons, List.map_nil]); first | done | rfl | (simp only [List.length_drop, List.length_take]; rfl)) ?_; (with_reducible refine (cmp_Compare_int.calls a0_0 a1 t111 _ A10.out).mono ?_); rintro e w' ⟨rfl, ⟨nd, rfl⟩⟩; refine ⟨_, rfl, ?_⟩))
    go_ret
    exact ⟨by first | rfl | (simp [errW_none, errW_some] <;> rfl) | (simp [*, errW_none, errW_some] <;> rfl), by repeat (first | (with_reducible first | exact HB.out | apply below_alloc | apply pw_below_drewN | apply below_drew1 | refine below_set ?_ GE109.out) | exact HB.out)⟩

end Go.Proofs.Ytoafenblaioopaa.S

namespace Go.Proofs.Ytoafenblaioopaa.S
open Go.RowKit Go.Proofs.YtoafenblaioopaaW.PrintWords Go.Proofs.YtoafenblaioopaaW.PrintLast Go.Proofs.YtoafenblaioopaaW.PrintMore
attribute [local go_sem] max2_int min2_int max_two min_two max_three min_three max_four min_four   -- for this text's walks alone
set_option linter.unusedVariables false
set_option linter.unusedSimpArgs false

/-! ### impl_find: function 50: find.tpl -/
def cmpR (x : S59) (r : Int) : Int := if x.f0 ≤ r ∧ r ≤ x.f1 then 0 else if x.f0 < r then -1 else if r < x.f0 then 1 else 0
def bsR (l : List S59) (r : Int) : Nat → Nat → Nat → Nat
  | 0, lo, _ => lo
  | k + 1, lo, hi => if lo < hi then (if cmpR (l.getD ((lo + hi) / 2) z59) r < 0 then bsR l r k ((lo + hi) / 2 + 1) hi else bsR l r k lo ((lo + hi) / 2)) else lo
theorem bsR_end (l : List S59) (r : Int) (k lo : Nat) : bsR l r k lo lo = lo := by cases k <;> simp [bsR]
theorem bsR_lt {l : List S59} {r : Int} {k lo hi : Nat} (h : lo < hi) (hc : cmpR (l.getD ((lo + hi) / 2) z59) r < 0) : bsR l r (k + 1) lo hi = bsR l r k ((lo + hi) / 2 + 1) hi := by
  rw [bsR, if_pos h, if_pos hc]
theorem bsR_ge {l : List S59} {r : Int} {k lo hi : Nat} (h : lo < hi) (hc : ¬ cmpR (l.getD ((lo + hi) / 2) z59) r < 0) : bsR l r (k + 1) lo hi = bsR l r k lo ((lo + hi) / 2) := by
  rw [bsR, if_pos h, if_neg hc]
theorem bsR_more (l : List S59) (r : Int) : ∀ (k k' lo hi : Nat), hi - lo ≤ k → hi - lo ≤ k' → bsR l r k lo hi = bsR l r k' lo hi
  | 0, 0, _, _, _, _ => rfl
  | 0, k' + 1, lo, hi, h, _ => by rw [bsR, bsR, if_neg (by omega)]
  | k + 1, 0, lo, hi, _, h => by rw [bsR, bsR, if_neg (by omega)]
  | k + 1, k' + 1, lo, hi, h, h' => by
    rw [bsR, bsR]
    by_cases hlt : lo < hi
    · rw [if_pos hlt, if_pos hlt, bsR_more l r k k' ((lo + hi) / 2 + 1) hi (by omega) (by omega), bsR_more l r k k' lo ((lo + hi) / 2) (by omega) (by omega)]
    · rw [if_neg hlt, if_neg hlt]
theorem cmpC_f (a b : Int) : cmp_Compare_int.f a b = some (if a < b then -1 else if b < a then 1 else 0) := by
  simp only [cmp_Compare_int.f, cmp_isNaN_int.f, Option.bind_some, bne_self_eq_false, Bool.false_eq_true, if_false, gt_iff_lt]
  split
  · rfl
  · split <;> rfl
theorem cmpR_f (x : S59) (r : Int) : impl_find_1.f x.f0 x.f1 x.f2 r = some (cmpR x r) := by
  simp only [impl_find_1.f, cmpR, cmpC_f, Option.bind_some, ge_iff_le]
  by_cases h0 : x.f0 ≤ r
  · by_cases h1 : r ≤ x.f1
    · simp [h0, h1]
    · simp [h0, h1]
  · simp [h0]
set_option maxHeartbeats 8000000 in
set_option maxRecDepth 100000 in
theorem bsR_calls (A0 : Option Addr) (c0 : Nat) (l0 : List S59) (a1 : Int) (w : World) (hr0 : Kd.C k59 w A0 l0.length l0) (hn : l0.length ≤ 1000) :
    Calls Try.prog 78 #[.slice A0 l0.length c0, .int .i64 a1, .func (.func 79) #[] #[]] w fun e w' =>
      e = .returned (.tuple #[.int .i64 (bsR l0 a1 l0.length 0 l0.length : Nat), .bool (decide (bsR l0 a1 l0.length 0 l0.length < l0.length) && decide (cmpR (l0.getD (bsR l0 a1 l0.length 0 l0.length) z59) a1 = 0))]) ∧ Below w.heap.size w w' := by
  have HR0 := Aside0.mk hr0
  clear hr0
  go_enter Try.func78, Try.ntmps78
  go_wp2
  go_loopg [9, 10] l0.length (fun kx s9 s10 wr => ∃ lo hi : Nat, s9 = .int .i64 lo ∧ s10 = .int .i64 hi ∧ lo ≤ hi ∧ hi ≤ l0.length ∧ hi - lo ≤ kx ∧ Aside0 (Below w.heap.size w wr) ∧ Aside0 (bsR l0 a1 (hi - lo) lo hi = bsR l0 a1 l0.length 0 l0.length))
  case atStart => exact ⟨0, l0.length, rfl, rfl, Nat.zero_le _, Nat.le_refl _, by omega, ⟨Below.refl _ _⟩, ⟨rfl⟩⟩
  case round =>
    obtain ⟨lo, hi, rfl, rfl, hlh, hin, hg, HB, HI⟩ := hrel
    by_cases hlt : lo < hi
    · obtain ⟨ad, rfl, hx⟩ := at_T59 HR0.out (((lo + hi) / 2 : Nat) : Int) (by omega) (by omega)
      have HM := Aside0.mk (cmpR_f (l0.getD ((lo + hi) / 2) z59) a1)
      simp only [rd_T59, Int.toNat_natCast] at hx
      obtain ⟨x0, x1, x2⟩ := hx
      replace x0 := (HB.out.cell (World.block_lt_of_cell? w _ x0)).trans x0
      replace x1 := (HB.out.cell (World.block_lt_of_cell? w _ x1)).trans x1
      replace x2 := (HB.out.cell (World.block_lt_of_cell? w _ x2)).trans x2
      generalize hy : l0.getD ((lo + hi) / 2) z59 = y at x0 x1 x2 HM
      have HY := Aside0.mk hy
      clear hy
      by_cases hc : cmpR y a1 < 0
      · have hcb : decide (cmpR y a1 < 0) = true := decide_eq_true hc
        have HC := Aside0.mk hc
        clear hc
        go_wp2_with (go_at_call 79; refine (impl_find_1.calls _ _ _ _ _ _ HM.out).mono ?_; rintro e w' ⟨rfl, hb'⟩)
        go_roundg (hi - ((lo + hi) / 2 + 1))
        case measure => omega
        case rel =>
          refine ⟨(lo + hi) / 2 + 1, hi, by rw [show ((lo : Int) + (hi : Int)) / 2 + 1 = (((lo + hi) / 2 + 1 : Nat) : Int) by omega], rfl, by omega, hin, Nat.le_refl _, ⟨below_then HB.out HB.out.size hb'⟩, ⟨?_⟩⟩
          rw [← HI.out, show hi - lo = (hi - lo - 1) + 1 by omega, bsR_lt hlt (by rw [HY.out]; exact HC.out)]
          exact bsR_more _ _ _ _ _ _ (by omega) (by omega)
      · have hcb : decide (cmpR y a1 < 0) = false := decide_eq_false hc
        have HC := Aside0.mk hc
        clear hc
        go_wp2_with (go_at_call 79; refine (impl_find_1.calls _ _ _ _ _ _ HM.out).mono ?_; rintro e w' ⟨rfl, hb'⟩)
        go_roundg ((lo + hi) / 2 - lo)
        case measure => omega
        case rel =>
          refine ⟨lo, (lo + hi) / 2, rfl, by rw [show ((lo : Int) + (hi : Int)) / 2 = (((lo + hi) / 2 : Nat) : Int) by omega], by omega, by omega, Nat.le_refl _, ⟨below_then HB.out HB.out.size hb'⟩, ⟨?_⟩⟩
          rw [← HI.out, show hi - lo = (hi - lo - 1) + 1 by omega, bsR_ge hlt (by rw [HY.out]; have := HC.out; omega)]
          exact bsR_more _ _ _ _ _ _ (by omega) (by omega)
    · obtain rfl : hi = lo := by omega
      have e : bsR l0 a1 l0.length 0 l0.length = hi := by rw [← HI.out, bsR_end]
      have E := Aside0.mk e
      clear e HI
      by_cases hn2 : hi < l0.length
      · obtain ⟨ad, rfl, hx⟩ := at_T59 HR0.out (hi : Int) (by omega) (by omega)
        have HM := Aside0.mk (cmpR_f (l0.getD hi z59) a1)
        simp only [rd_T59, Int.toNat_natCast] at hx
        obtain ⟨x0, x1, x2⟩ := hx
        replace x0 := (HB.out.cell (World.block_lt_of_cell? w _ x0)).trans x0
        replace x1 := (HB.out.cell (World.block_lt_of_cell? w _ x1)).trans x1
        replace x2 := (HB.out.cell (World.block_lt_of_cell? w _ x2)).trans x2
        generalize hy : l0.getD hi z59 = y at x0 x1 x2 HM
        have HY := Aside0.mk hy
        clear hy
        by_cases hyx : cmpR y a1 = 0
        · go_wp2_with (go_at_call 79; refine (impl_find_1.calls _ _ _ _ _ _ HM.out).mono ?_; rintro e w' ⟨rfl, hb'⟩)
          go_ret2
          exact ⟨by rw [E.out, HY.out]; simp [hn2, hyx], below_then HB.out HB.out.size hb'⟩
        · go_wp2_with (go_at_call 79; refine (impl_find_1.calls _ _ _ _ _ _ HM.out).mono ?_; rintro e w' ⟨rfl, hb'⟩)
          go_ret2
          exact ⟨by rw [E.out, HY.out]; simp [hn2, hyx], below_then HB.out HB.out.size hb'⟩
      · go_wp2
        go_ret2
        exact ⟨by rw [E.out]; simp [hn2], HB.out⟩
def findV (l0 : List S59) (a1 a2 : Int) : Int := if bsR l0 a1 l0.length 0 l0.length < l0.length ∧ cmpR (l0.getD (bsR l0 a1 l0.length 0 l0.length) z59) a1 = 0 then (l0.getD (bsR l0 a1 l0.length 0 l0.length) z59).f2 else a2
def impl_find.f (l0 : List S59) (a1 a2 : Int) : Option Int := if l0.length ≤ 1000 then some (findV l0 a1 a2) else none
set_option maxHeartbeats 8000000 in
set_option maxRecDepth 100000 in
theorem impl_find.calls (A0 : Option Addr) (c0 : Nat) (l0 : List (S59)) (a1 : Int) (a2 : Int) (r : Int) (w : World) (hr0 : Kd.C k59 w A0 l0.length l0) (hc0 : l0.length ≤ c0) (h : impl_find.f l0 a1 a2 = some r) :
    Calls Try.prog 50 #[.slice A0 l0.length c0, .int .i64 a1, .int .i64 a2] w fun e w' => e = .returned (.int .i64 r) ∧ Below w.heap.size w w' := by
  unfold impl_find.f at h
  by_cases hn : l0.length ≤ 1000
  · rw [if_pos hn] at h
    obtain rfl := Option.some.inj h
    have HC := Aside0.mk (bsR_calls A0 c0 l0 a1)
    have HR := Aside0.mk hr0
    unfold findV
    clear h hc0
    generalize hi : bsR l0 a1 l0.length 0 l0.length = i at HC
    clear hi
    by_cases h1 : i < l0.length
    · by_cases h2 : cmpR (l0.getD i z59) a1 = 0
      · rw [if_pos ⟨h1, h2⟩]
        simp only [decide_eq_true h1, decide_eq_true h2, Bool.and_self] at HC
        clear h2
        obtain ⟨ad, rfl, hx⟩ := at_T59 hr0 (i : Int) (by omega) (by omega)
        simp only [rd_T59, Int.toNat_natCast] at hx
        obtain ⟨x0, x1, x2⟩ := hx
        clear hr0
        have HX := Aside0.mk x2
        clear x0 x1 x2
        have h1' : (i : Int) < (l0.length : Int) := by omega
        generalize l0.getD i z59 = y at HX
        go_enter Try.func50, Try.ntmps50
        go_wp2_with (go_at_call 78; refine (HC.out _ HR.out hn).mono ?_; rintro e w' ⟨rfl, hb'⟩; have hx2 := (hb'.cell (World.block_lt_of_cell? w _ HX.out)).trans HX.out)
        go_ret
        exact ⟨rfl, hb'⟩
      · rw [if_neg (fun h => h2 h.2)]
        simp only [decide_eq_false h2, Bool.and_false] at HC
        go_enter Try.func50, Try.ntmps50
        go_wp2_with (go_at_call 78; refine (HC.out _ HR.out hn).mono ?_; rintro e w' ⟨rfl, hb'⟩)
        go_ret
        exact ⟨rfl, hb'⟩
    · rw [if_neg (fun h => h1 h.1)]
      simp only [decide_eq_false h1, Bool.false_and] at HC
      go_enter Try.func50, Try.ntmps50
      go_wp2_with (go_at_call 78; refine (HC.out _ HR.out hn).mono ?_; rintro e w' ⟨rfl, hb'⟩)
      go_ret
      exact ⟨rfl, hb'⟩
  · rw [if_neg hn] at h
    exact absurd h (by simp)


end Go.Proofs.Ytoafenblaioopaa.S

namespace Go.Proofs.Ytoafenblaioopaa.S
open Go.RowKit Go.Proofs.YtoafenblaioopaaW.PrintWords Go.Proofs.YtoafenblaioopaaW.PrintLast Go.Proofs.YtoafenblaioopaaW.PrintMore
attribute [local go_sem] max2_int min2_int max_two min_two max_three min_three max_four min_four   -- for this text's walks alone
set_option linter.unusedVariables false
set_option linter.unusedSimpArgs false

/-! ### impl_RuneScript: function 16 -/
def impl_RuneScript.f (a0 : Int) : Option (Int) := (impl_find.f (([(⟨65, 90, 1⟩ : S59), (⟨97, 122, 1⟩ : S59), (⟨1488, 1514, 2⟩ : S59), (⟨1569, 1610, 3⟩ : S59), (⟨1632, 1641, 3⟩ : S59), (⟨19968, 40959, 4⟩ : S59)] : List (S59))) a0 0).bind fun t115 => (some t115)
set_option maxHeartbeats 8000000 in
set_option maxRecDepth 100000 in
theorem impl_RuneScript.calls (a0 : Int) (r : Int) (w : World) (h : impl_RuneScript.f a0 = some r) :
    Calls Try.prog 16 #[.int .i64 a0] w fun e w' => e = .returned (.int .i64 r) ∧ Below w.heap.size w w' := by
  have hu59 := Try.underlying59
  have HB := Aside0.mk (Below.refl w.heap.size w)
  have H : ((impl_find.f (([(⟨65, 90, 1⟩ : S59), (⟨97, 122, 1⟩ : S59), (⟨1488, 1514, 2⟩ : S59), (⟨1569, 1610, 3⟩ : S59), (⟨1632, 1641, 3⟩ : S59), (⟨19968, 40959, 4⟩ : S59)] : List (S59))) a0 0).bind fun t115 => (some t115)) = some r := h
  clear h
  obtain ⟨y112, hy112⟩ : ∃ y_ : List (S59), y_ = (([(⟨65, 90, 1⟩ : S59), (⟨97, 122, 1⟩ : S59), (⟨1488, 1514, 2⟩ : S59), (⟨1569, 1610, 3⟩ : S59), (⟨1632, 1641, 3⟩ : S59), (⟨19968, 40959, 4⟩ : S59)] : List (S59))) := ⟨_, rfl⟩
  replace H : ((impl_find.f y112 a0 0).bind fun t115 => (some t115)) = some r := by first | (rw [hy112]; with_reducible exact H) | (have H2_ := (Option.bind_some _ _).symm.trans H; rw [hy112]; with_reducible exact H2_) | (have H2_ := (Option.bind_some _ _).symm.trans H; with_reducible exact H2_) | with_reducible exact H | (rw [hy112]; exact H) | exact H
  have Ny112 := Aside0.mk hy112
  clear hy112
  replace H := Option.bind_eq_some_iff.mp H
  obtain ⟨t115, A20, H⟩ := H
  replace H : (some t115) = some r := H
  have A2 := Aside0.mk A20
  clear A20
  obtain rfl := Option.some.inj H
  go_enter Try.func16, Try.ntmps16
  go_wp2_with (first | ((with_reducible refine gate_dst (N := 9) rfl ?_); refine Kd.R_lit k59 _ 59 ?hg (N := 9) ?hd (xs := ([(⟨65, 90, 1⟩ : S59), (⟨97, 122, 1⟩ : S59), (⟨1488, 1514, 2⟩ : S59), (⟨1569, 1610, 3⟩ : S59), (⟨1632, 1641, 3⟩ : S59), (⟨19968, 40959, 4⟩ : S59)] : List (S59))) (inner := [.int .i64 65, .int .i64 90, .int .i64 1, .int .i64 97, .int .i64 122, .int .i64 1, .int .i64 1488, .int .i64 1514, .int .i64 2, .int .i64 1569, .int .i64 1610, .int .i64 3, .int .i64 1632, .int .i64 1641, .int .i64 3, .int .i64 19968, .int .i64 40959, .int .i64 4]) (ok := fun _ => True) (okp := fun _ => True) ?hr ?hp (fun _ hk => hk) trivial (Below.refl _ _) (Nat.le_refl _) (by simp) ?_; (case hd => rfl); (case hg => rfl); (case hr => first | (go_simp; done) | (go_simp; rfl)); (case hp => exact (Reps.c3 (show Kd.M k59 _ _ _ (⟨65, 90, 1⟩ : S59) [.int .i64 65, .int .i64 90, .int .i64 1] from (k59_mkM _ _ _ (⟨65, 90, 1⟩ : S59) )) (Reps.c3 (show Kd.M k59 _ _ _ (⟨97, 122, 1⟩ : S59) [.int .i64 97, .int .i64 122, .int .i64 1] from (k59_mkM _ _ _ (⟨97, 122, 1⟩ : S59) )) (Reps.c3 (show Kd.M k59 _ _ _ (⟨1488, 1514, 2⟩ : S59) [.int .i64 1488, .int .i64 1514, .int .i64 2] from (k59_mkM _ _ _ (⟨1488, 1514, 2⟩ : S59) )) (Reps.c3 (show Kd.M k59 _ _ _ (⟨1569, 1610, 3⟩ : S59) [.int .i64 1569, .int .i64 1610, .int .i64 3] from (k59_mkM _ _ _ (⟨1569, 1610, 3⟩ : S59) )) (Reps.c3 (show Kd.M k59 _ _ _ (⟨1632, 1641, 3⟩ : S59) [.int .i64 1632, .int .i64 1641, .int .i64 3] from (k59_mkM _ _ _ (⟨1632, 1641, 3⟩ : S59) )) (Reps.c3 (show Kd.M k59 _ _ _ (⟨19968, 40959, 4⟩ : S59) [.int .i64 19968, .int .i64 40959, .int .i64 4] from (k59_mkM _ _ _ (⟨19968, 40959, 4⟩ : S59) )) (Reps.none _ _)))))))); intro v113 w3 ho4 hb hg_ hnew_; clear hg_ hnew_; (first | rw [← Ny112.out] at ho4 | (simp only [Int.reduceToNat] at ho4; rw [← Ny112.out] at ho4)); have n0_ := Aside0.mk (Kd.R_lower ho4 (below_size (by repeat (first | (with_reducible first | exact HB.out | apply below_alloc | apply pw_below_drewN | apply below_drew1) | exact HB.out)))); have n1_ := Aside0.mk (below_step (by repeat (first | (with_reducible first | exact HB.out | apply below_alloc | apply pw_below_drewN | apply below_drew1) | exact HB.out)) hb); clear HB; have HO114 := n0_; have HB := n1_; clear n0_ n1_; clear hb ho4; obtain ⟨Ao5, co5, eo5⟩ := Kd.R_slice HO114.out; subst eo5) | ((with_reducible refine gate_callee (f := 50) rfl ?_); refine goesL_ (some 11) rfl rfl Try.func50 (by kernel_rfl) rfl #[.slice Ao5 y112.length co5, .int .i64 a0, .int .i64 0] rfl (by (try simp only [List.map_toArray, List.map_cons, List.map_nil]); first | done | rfl | (simp only [List.length_drop, List.length_take]; rfl)) ?_; (with_reducible refine (impl_find.calls _ _ y112 a0 0 t115 _ ?side1 ?side2 A2.out).mono ?_); (case side1 => repeat (first | exact (Kd.R_reads' HO114.out).2.2 | (with_reducible refine Kd.C_alloc ?_ _) | (with_reducible refine Kd.C_drewN ?_ _) | (with_reducible refine Kd.C_drew ?_))); (case side2 => exact (Kd.R_reads' HO114.out).2.1); rintro e w6 ⟨rfl, hb⟩; refine ⟨_, rfl, ?_⟩; have n0_ := Aside0.mk (Kd.R_below (by (with_reducible repeat (first | apply Kd.R_alloc | apply Kd.R_drewN | apply Kd.R_drew)); exact HO114.out) hb); have n1_ := Aside0.mk (below_step (by repeat (first | (with_reducible first | exact HB.out | apply below_alloc | apply pw_below_drewN | apply below_drew1) | exact HB.out)) hb); clear HO114; clear HB; have HO114 := n0_; have HB := n1_; clear n0_ n1_; (try clear hb); (try clear hb2); (try clear hk); (try clear hi)))
  go_ret
  exact ⟨by first | rfl | (simp [errW_none, errW_some] <;> rfl) | (simp [*, errW_none, errW_some] <;> rfl), by repeat (first | (with_reducible first | exact HB.out | apply below_alloc | apply pw_below_drewN | apply below_drew1) | exact HB.out)⟩

end Go.Proofs.Ytoafenblaioopaa.S

namespace Go.Proofs.Ytoafenblaioopaa.S
open Go.RowKit Go.Proofs.YtoafenblaioopaaW.PrintWords Go.Proofs.YtoafenblaioopaaW.PrintLast Go.Proofs.YtoafenblaioopaaW.PrintMore
attribute [local go_sem] max2_int min2_int max_two min_two max_three min_three max_four min_four   -- for this text's walks alone
set_option linter.unusedVariables false
set_option linter.unusedSimpArgs false

/-! ### impl_RuneMate: function 36: mate.tpl -/
def mateV (r : Int) : Int := if r = 40 then 41 else if r = 41 then 40 else if r = 91 then 93 else if r = 93 then 91 else if r = 123 then 125 else if r = 125 then 123 else 0
def impl_RuneMate.f (a0 : Int) : Option Int := if (Lit.int .i64 a0).wf = true then some (mateV a0) else none
theorem wpList_insert_own {H : Type} {P : Program} (w : World) {ops : Array Oper} {rest : List Oper} {o : Oper} {a : Act} {Q : Exit → Act → World → Prop}
    (hg : o.guard = none) (m x v : Operand) (t : TypeId) (hop : o.op = Op.insert t m x v)
    (k e : TypeId) (K : Maps.Keyed P k) (ht : P.underlying t = some (.map k e)) (R : Value → Option (DataW H × List MemPlace)) (b n : Nat) (D : DataW H)
    (hm : a.eval m = .map (some b)) (hown : w.ownsMap P k R b n D) (hn : n < maxLen) (key val : Value) (kl : Lit) (hx : a.eval x = key) (hv : a.eval v = val) (hkey : keyOf P k key = some kl)
    (d : DataW H) (ps : List MemPlace) (hval : R val = some (d, ps))
    (hK : ∀ w', w'.ownsMap P k R b (n + 1) (D.put kl d) → w.grownBy w' (some b) → wpList P ops Q rest (a.put o.dst undef) w') :
    wpList P ops Q (o :: rest) a w := by
  refine wpList_plain hg fun K' hK' => ?_
  obtain ⟨w', hrun, r1, r2⟩ := hown.update K ht hn hkey hval
  unfold Oper.wp
  simp [execOp, hop, hm, hx, hv, hrun, Result.andThen]
  exact hK' _ _ (hK w' r1 r2)
theorem atKey_step {H : Type} {D : DataW H} (hD : Maps.IsMap D) (k v a : Int) (z : DataW H) : (D.put (.int .i64 k) (.lit (.int .i64 v))).atKey (.int .i64 a) z = if a = k then .lit (.int .i64 v) else D.atKey (.int .i64 a) z := by
  by_cases h : a = k
  · rw [if_pos h, h, Maps.atKey_put_same hD (show WideAt.IsKeyLit (.int .i64 k) from trivial)]
  · rw [if_neg h, Maps.atKey_put_other (fun e => h (by injection e))]
def mateD (H : Type) : DataW H := ((((((DataW.map [] : DataW H).put (.int .i64 40) (.lit (.int .i64 41))).put (.int .i64 41) (.lit (.int .i64 40))).put (.int .i64 91) (.lit (.int .i64 93))).put (.int .i64 93) (.lit (.int .i64 91))).put (.int .i64 123) (.lit (.int .i64 125))).put (.int .i64 125) (.lit (.int .i64 123))
theorem mate_at {H : Type} (a0 : Int) (c : Int) (h : (mateD H).atKey (.int .i64 a0) (.lit (.int .i64 0)) = .lit (.int .i64 c)) : c = mateV a0 := by
  unfold mateD at h
  rw [atKey_step (((((Maps.isMap_empty.put _ _).put _ _).put _ _).put _ _).put _ _), atKey_step ((((Maps.isMap_empty.put _ _).put _ _).put _ _).put _ _), atKey_step (((Maps.isMap_empty.put _ _).put _ _).put _ _), atKey_step ((Maps.isMap_empty.put _ _).put _ _), atKey_step (Maps.isMap_empty.put _ _), atKey_step Maps.isMap_empty] at h
  unfold mateV
  by_cases h1 : a0 = 125
  · subst h1; simp at h ⊢; exact h.symm
  · by_cases h2 : a0 = 123
    · subst h2; simp at h ⊢; exact h.symm
    · by_cases h3 : a0 = 93
      · subst h3; simp at h ⊢; exact h.symm
      · by_cases h4 : a0 = 91
        · subst h4; simp at h ⊢; exact h.symm
        · by_cases h5 : a0 = 41
          · subst h5; simp at h ⊢; exact h.symm
          · by_cases h6 : a0 = 40
            · subst h6; simp at h ⊢; exact h.symm
            · rw [if_neg h1, if_neg h2, if_neg h3, if_neg h4, if_neg h5, if_neg h6] at h
              rw [if_neg h1, if_neg h2, if_neg h3, if_neg h4, if_neg h5, if_neg h6]
              have : (DataW.map [] : DataW H).atKey (.int .i64 a0) (.lit (.int .i64 0)) = .lit (.int .i64 0) := rfl
              rw [this] at h
              injection h with h
              injection h with _ h
              exact h.symm
theorem mate_zero (w : World) : (zeroValue 3).run Try.prog w = .ok (.int .i64 0) w := by kernel_rfl
set_option maxHeartbeats 8000000 in
set_option maxRecDepth 100000 in
theorem impl_RuneMate.calls (a0 : Int) (r : Int) (w : World) (h : impl_RuneMate.f a0 = some r) :
    Calls Try.prog 36 #[.int .i64 a0] w fun e w' => e = .returned (.int .i64 r) ∧ Below w.heap.size w w' := by
  unfold impl_RuneMate.f at h
  by_cases hw : (Lit.int .i64 a0).wf = true
  · rw [if_pos hw] at h
    obtain rfl := Option.some.inj h
    have HW := Aside0.mk hw
    clear h hw
    have hmm := @run_makeMap Try.prog
    have HO := Aside0.mk True.intro
    have HB := Aside0.mk (below_alloc (Below.refl w.heap.size w) (.map #[] 0))
    go_enter Try.func36, Try.ntmps36
    go_wp2_with (first
      | (refine wpList_insert_own _ rfl _ _ _ 71 rfl 3 3 (Maps.int_keyed Try.underlying3) Try.underlying71 (plainElem (H := Unit) Try.prog 3) w.heap.size _ _ rfl (by first | exact HO.out | exact World.ownsMap_made _ _ _ _) (by unfold maxLen; omega) _ _ _ rfl rfl (Maps.keyOf_int_mk Try.underlying3 (by decide)) _ [] (plainElem_int Try.underlying3 (by decide)) ?_; intro w1 ho1 hg1; have n0_ := Aside0.mk ho1; have n1_ := Aside0.mk (pw_below_grown HB.out _ HB.out.size hg1 (fun k e => by cases e; exact Nat.le_refl _)); clear HO HB ho1 hg1; have HO := n0_; have HB := n1_; clear n0_ n1_)
      | (refine wpList_lookup_own_int _ rfl _ _ 71 rfl 3 3 .i64 (Maps.int_keyed Try.underlying3) Try.underlying71 Try.underlying3 (mate_zero _) w.heap.size _ _ rfl HO.out _ _ rfl (Maps.keyOf_int_mk Try.underlying3 HW.out) ?_; intro c hat hwc; have HC := Aside0.mk hat; clear hat hwc))
    go_ret
    exact ⟨by rw [mate_at a0 _ HC.out]; rfl, HB.out⟩
  · rw [if_neg hw] at h
    exact absurd h (by simp)


end Go.Proofs.Ytoafenblaioopaa.S

namespace Go.Proofs.Ytoafenblaioopaa.S
open Go.RowKit Go.Proofs.YtoafenblaioopaaW.PrintWords Go.Proofs.YtoafenblaioopaaW.PrintLast Go.Proofs.YtoafenblaioopaaW.PrintMore
attribute [local go_sem] max2_int min2_int max_two min_two max_three min_three max_four min_four   -- for this text's walks alone
set_option linter.unusedVariables false
set_option linter.unusedSimpArgs false

/-! ### impl_scripts: function 61: scripts.tpl -/
/-- The variable at block gb is a stack of brackets: l. -/
def IsStk (w : World) (base gb : Nat) (l : List S99) : Prop := ∃ v : Value, w.heap[gb]? = some (.cells #[v] 87 (0, 0)) ∧ Kd.R k99 99 w base (fun _ => True) v l ∧ base ≤ gb
theorem IsStk.below {w w1 : World} {base gb : Nat} {l : List S99} (h : IsStk w base gb l) (hb : Below w.heap.size w w1) : IsStk w1 base gb l := by
  obtain ⟨v, h1, h2, h3⟩ := h
  exact ⟨v, blk_below h1 hb, Kd.R_below h2 hb, h3⟩
def popAt (l : List S99) (b : Int) : Nat → Option Nat
  | 0 => none
  | k + 1 => if (l.getD k z99).f0 = b then some k else popAt l b k
def popV (l : List S99) (b : Int) : Int × Bool × List S99 := match popAt l b l.length with | some k => ((l.getD k z99).f1, true, l.take k) | none => (0, false, l)
theorem infoK : (Try.prog.info? 99).map (fun i => (i.zero, i.size, i.bytes)) = some (some (.agg #[.int .i64 0, .int .i64 0]), 2, 16) := by kernel_rfl
set_option maxHeartbeats 8000000 in
set_option maxRecDepth 100000 in
theorem push_calls (w0 w : World) (gb : Nat) (l : List S99) (b m : Int) (hB : Below w0.heap.size w0 w) (hS : IsStk w w0.heap.size gb l) (hl : l.length < 1000000) :
    Calls Try.prog 92 #[.pointer (some ⟨gb, 0, none⟩), .int .i64 b, .int .i64 m] w fun e w' => e = .returned (.tuple #[]) ∧ IsStk w' w0.heap.size gb (l ++ [⟨b, m⟩]) ∧ Below w0.heap.size w0 w' ∧ ∀ ok u xs, Kd.R (Kd.int .i64) 3 w w0.heap.size ok u xs → Kd.R (Kd.int .i64) 3 w' w0.heap.size ok u xs := by
  obtain ⟨v, h1, h2, h3⟩ := hS
  have hc := (blk_cell h1 0).trans (show (#[v] : Array Value)[0]? = some v from rfl)
  have hf := blk_frozen h1 0
  have H1 := Aside0.mk h1
  have HO := Aside0.mk h2
  have HB := Aside0.mk hB
  have HG := Aside0.mk h3
  have HNE := Aside0.mk (Kd.R_ne h2 h1 (by decide))
  clear h1 h2 h3 hB
  go_enter Try.func92, Try.ntmps92
  go_wp2_with ((with_reducible refine gate_builtin (b := .append) (xs := #[.tmp 9, .tmp 13]) rfl ?_); at_builtin; refine Kd.R_append k99 (w0 := w0) w0.heap.size rfl (.tmp 9) (.tmp 13) 87 99 (.agg #[.int .i64 0, .int .i64 0]) 16 rfl Try.underlying87 infoK rfl (by decide) (by omega) v l ⟨b, m⟩ [.int .i64 b, .int .i64 m] (fun _ => True) (fun _ => False) rfl rfl ?aP (fun _ hk => hk.elim) ?aF ?aO ?aB ?aS ?aL ?_; (case aP => exact k99_mkM _ _ _ (⟨b, m⟩ : S99)); (case aF => exact (fun _ _ => trivial)); (case aO => exact HO.out); (case aB => exact HB.out); (case aS => exact HB.out.size); (case aL => omega); intro v1 w1 ho1 hb1 hg1 hat1; obtain ⟨A1, c1, hv1⟩ := Kd.R_slice ho1; subst hv1; simp only [List.length_append, List.length_cons, List.length_nil, Nat.zero_add] at ho1; have h11 := blk_grown H1.out hg1 HNE.out; have hc1 := (blk_cell h11 0).trans (show (#[v] : Array Value)[0]? = some v from rfl); have hf1 := blk_frozen h11 0; have H11 := Aside0.mk h11; have HO1 := Aside0.mk ho1; have HB1 := Aside0.mk hb1; have HG1 := Aside0.mk hg1; clear h11 ho1 hb1 hg1 hat1)
  go_end0
  refine ⟨rfl, ⟨_, by simpa using blk_set H11.out 0 (.slice A1 (l.length + 1) c1), Kd.R_set HO1.out H11.out (by decide) 0 _, HG.out⟩, HB1.out.setCell (p := ⟨gb, 0, none⟩) HG.out _, fun ok u xs hu => Kd.R_set (Kd.R_over' hu (Kd.R_typed HO.out) (by decide) HG1.out) H11.out (by decide) 0 _⟩
theorem popAt_lt {l : List S99} {b : Int} : ∀ {n k : Nat}, popAt l b n = some k → k < n
  | n + 1, k, h => by
    rw [popAt] at h
    split at h
    · injection h with h; omega
    · have := popAt_lt h; omega
set_option maxHeartbeats 8000000 in
set_option maxRecDepth 100000 in
theorem pop_calls (w0 w : World) (gb : Nat) (l : List S99) (b : Int) (hB : Below w0.heap.size w0 w) (hS : IsStk w w0.heap.size gb l) (hl : l.length < 1000000) :
    Calls Try.prog 93 #[.pointer (some ⟨gb, 0, none⟩), .int .i64 b] w fun e w' => e = .returned (.tuple #[.int .i64 (popV l b).1, .bool (popV l b).2.1]) ∧ IsStk w' w0.heap.size gb (popV l b).2.2 ∧ Below w0.heap.size w0 w' ∧ ∀ ok u xs, Kd.R (Kd.int .i64) 3 w w0.heap.size ok u xs → Kd.R (Kd.int .i64) 3 w' w0.heap.size ok u xs := by
  obtain ⟨v, h1, h2, h3⟩ := hS
  obtain ⟨A, c, hv, hlc, hC⟩ := Kd.R_reads h2
  subst hv
  have hc := (blk_cell h1 0).trans (show (#[.slice A l.length c] : Array Value)[0]? = some (.slice A l.length c) from rfl)
  have hf := blk_frozen h1 0
  have H1 := Aside0.mk h1
  have HO := Aside0.mk h2
  have HB := Aside0.mk hB
  have HG := Aside0.mk h3
  have HC := Aside0.mk hC
  have HLC := Aside0.mk hlc
  clear h1 h2 h3 hB hC hlc
  go_enter Try.func93, Try.ntmps93
  go_wp2
  go_loopg [6, 7] l.length (fun gg s6 _ wr => ∃ x : Int, s6 = .int .i64 x ∧ ∃ kk : Nat, Aside0 (x = (kk : Int) - 1) ∧ kk ≤ l.length ∧ kk ≤ gg ∧ Aside0 (Below w.heap.size w wr) ∧ Aside0 (popAt l b kk = popAt l b l.length))
  case atStart => exact ⟨_, rfl, l.length, ⟨rfl⟩, Nat.le_refl _, Nat.le_refl _, ⟨Below.refl _ _⟩, ⟨rfl⟩⟩
  case round =>
    clear hc hf
    obtain ⟨x, rfl, kk, HX, hkk, hg, HBW, HP⟩ := hrel
    have hx := HX.out
    cases kk with
    | zero =>
      obtain rfl : x = -1 := by omega
      have e : popV l b = (0, false, l) := by rw [popV, ← HP.out]; rfl
      have HE := Aside0.mk e
      clear e hx
      go_wp2
      go_ret2
      rw [HE.out]
      exact ⟨rfl, ⟨_, blk_below H1.out HBW.out, Kd.R_below HO.out HBW.out, HG.out⟩, below_then HB.out HB.out.size HBW.out, fun ok u xs hu => Kd.R_below hu HBW.out⟩
    | succ m =>
      obtain rfl : x = (m : Int) := by omega
      clear hx
      obtain ⟨ad, e1, hy⟩ := at_T99 HC.out (m : Int) (by omega) (by omega)
      subst e1
      simp only [rd_T99, Int.toNat_natCast] at hy
      obtain ⟨y0, y1⟩ := hy
      replace y0 := (HBW.out.cell (World.block_lt_of_cell? w _ y0)).trans y0
      replace y1 := (HBW.out.cell (World.block_lt_of_cell? w _ y1)).trans y1
      have hc := blk_below H1.out HBW.out
      have hcc := (blk_cell hc 0).trans (show (#[.slice (some ad) l.length c] : Array Value)[0]? = some (.slice (some ad) l.length c) from rfl)
      have hff := blk_frozen hc 0
      have H2 := Aside0.mk hc
      clear hc
      have hml : (m : Int) < (l.length : Int) := by omega
      by_cases hq : (l.getD m z99).f0 = b
      · have e : popV l b = ((l.getD m z99).f1, true, l.take m) := by rw [popV, ← HP.out, popAt, if_pos hq]
        have HE := Aside0.mk e
        clear e
        generalize hz : l.getD m z99 = z at y0 y1 hq HE
        have hqb : (z.f0 == b) = true := beq_iff_eq.mpr hq
        clear hz hq
        have HR := Aside0.mk (Kd.R_take (m := m) (Kd.R_below HO.out HBW.out) (by omega))
        obtain ⟨i0, hi0, _, _, _⟩ := info_parts infoK
        have hcut := cut_to (P := Try.prog) 87 99 .i64 Try.underlying87 hi0 (some ad) l.length c (m : Int) (by omega) (by omega) HLC.out
        clear hi0
        have hlt := blk_lt H2.out
        have hba := below_alloc (Below.refl wr.heap.size wr) (.cells #[.int .i64 z.f0, .int .i64 z.f1] 99)
        have hcc2 := (hba.cell (p := ⟨gb, 0, none⟩) hlt).trans hcc
        have hff2 := (hba.frozen (p := ⟨gb, 0, none⟩) hlt).trans hff
        have hne1 : ¬ gb = wr.heap.size := by omega
        have hne2 : ¬ wr.heap.size = gb := by omega
        have HBA := Aside0.mk hba
        clear hba hlt
        go_wp2
        go_ret2
        rw [HE.out]
        exact ⟨rfl, ⟨_, by simpa using blk_set (blk_alloc H2.out _) 0 (.slice (some ad) m c), Kd.R_set (Kd.R_alloc HR.out _) (blk_alloc H2.out _) (by decide) 0 _, HG.out⟩, (below_then HB.out HB.out.size (HBW.out.trans (below_alloc (Below.refl _ _) _ |>.mono HBW.out.size))).setCell (p := ⟨gb, 0, none⟩) HG.out _, fun ok u xs hu => Kd.R_set (Kd.R_alloc (Kd.R_below hu HBW.out) _) (blk_alloc H2.out _) (by decide) 0 _⟩
      · have e : popAt l b m = popAt l b l.length := by rw [← HP.out, popAt, if_neg hq]
        have HE := Aside0.mk e
        clear e
        generalize hz : l.getD m z99 = z at y0 y1 hq
        have hqb : (z.f0 == b) = false := beq_eq_false_iff_ne.mpr hq
        clear hz hq
        go_wp2
        go_roundg m
        case measure => omega
        case rel => exact ⟨_, rfl, m, ⟨rfl⟩, by omega, Nat.le_refl _, ⟨below_alloc HBW.out _⟩, ⟨HE.out⟩⟩
theorem IsStk.over {w w1 : World} {base gb : Nat} {l : List S99} {v : Value} {ok : Nat → Prop} {xs : List Int} (h : IsStk w base gb l) (ho : Kd.R (Kd.int .i64) 3 w base ok v xs) (hg : w.grownBy w1 v.ownBlock) : IsStk w1 base gb l := by
  obtain ⟨u, h1, h2, h3⟩ := h
  exact ⟨u, blk_grown h1 hg (Kd.R_ne ho h1 (by decide)), Kd.R_over' h2 (Kd.R_typed ho) (by decide) hg, h3⟩
theorem IsStk.new {w W : World} {base : Nat} (hB : Below base w W) (hs : base ≤ W.heap.size) : IsStk (W.alloc (.cells #[.slice none 0 0] 87)) base W.heap.size [] :=
  ⟨_, blk_new W _, Kd.R_nil _ _ _ _ _, hs⟩
def scriptV (a : Int) : Int := (impl_RuneScript.f a).getD 0
theorem scriptV_f (a : Int) : impl_RuneScript.f a = some (scriptV a) := by simp [scriptV, impl_RuneScript.f, impl_find.f]
def scStep (st : Int × List S99) (r : Int) : Int × List S99 :=
  if scriptV r ≠ 0 then (scriptV r, st.2) else if r < mateV r then (st.1, st.2 ++ [⟨r, st.1⟩]) else if mateV r ≠ 0 then (if (popV st.2 (mateV r)).2.1 = true then ((popV st.2 (mateV r)).1, (popV st.2 (mateV r)).2.2) else (st.1, (popV st.2 (mateV r)).2.2)) else st
def scRun : Int × List S99 → List Int → List Int
  | _, [] => []
  | st, r :: rs => (scStep st r).1 :: scRun (scStep st r) rs
def scFirst (l : List Int) : Int := if 0 ≤ idxI (fun r => scriptV r != 0) l then scriptV (rd l (idxI (fun r => scriptV r != 0) l)) else 0
def impl_scripts.f (l0 : List Int) : Option (List Int) := if l0.length ≤ 1000 ∧ (l0.all fun x => (Lit.int .i64 x).wf) = true then some (scRun (scFirst l0, []) l0) else none
theorem scFirst_eq (l : List Int) : scFirst l = if 0 ≤ idxI (fun r => scriptV r != 0) l then scriptV (rd l (idxI (fun r => scriptV r != 0) l)) else 0 := rfl
theorem popV_len (l : List S99) (b : Int) : (popV l b).2.2.length ≤ l.length := by
  unfold popV
  split
  · simp; omega
  · exact Nat.le_refl _
theorem scStep_len (st : Int × List S99) (r : Int) : (scStep st r).2.length ≤ st.2.length + 1 := by
  have := popV_len st.2 (mateV r)
  unfold scStep
  split
  · exact Nat.le_succ _
  · split
    · simp
    · split
      · split
        · simp only; omega
        · simp only; omega
      · exact Nat.le_succ _
theorem scRun_at (st : Int × List S99) (l : List Int) (k : Nat) (h : k < l.length) : scRun st (l.drop k) = (scStep st (l.getD k 0)).1 :: scRun (scStep st (l.getD k 0)) (l.drop (k + 1)) := by
  rw [List.drop_eq_getElem_cons h, scRun]
  simp [List.getD_eq_getElem?_getD, h]
set_option maxHeartbeats 8000000 in
set_option maxRecDepth 100000 in
theorem scripts_1_calls (x : Int) (W : World) : Calls Try.prog 91 #[.int .i64 x] W fun e w' => e = .returned (.bool (scriptV x != 0)) ∧ Below W.heap.size W w' := by
  go_enter Try.func91, Try.ntmps91
  go_wp2_with (go_at_call 16; refine (impl_RuneScript.calls _ _ _ (scriptV_f x)).mono ?_; rintro e w' ⟨rfl, hb⟩)
  go_ret
  exact ⟨rfl, hb⟩
set_option maxHeartbeats 8000000 in
set_option maxRecDepth 100000 in
theorem impl_scripts.calls (A0 : Option Addr) (c0 : Nat) (l0 : List Int) (r : List Int) (w : World) (hr0 : Kd.C (Kd.int .i64) w A0 l0.length l0) (hc0 : l0.length ≤ c0) (h : impl_scripts.f l0 = some r) :
    Calls Try.prog 61 #[.slice A0 l0.length c0] w fun e w' => ∃ v0_ : Value, e = .returned (v0_) ∧ Kd.R (Kd.int .i64) 3 w' w.heap.size (fun _ => True) v0_ r ∧ Below w.heap.size w w' := by
  unfold impl_scripts.f at h
  by_cases hh : l0.length ≤ 1000 ∧ (l0.all fun x => (Lit.int .i64 x).wf) = true
  · rw [if_pos hh] at h
    obtain rfl := Option.some.inj h
    obtain ⟨hn, hw⟩ := hh
    have HWF := Aside0.mk (fun k (hk : k < l0.length) => show (Lit.int .i64 (l0.getD k 0)).wf = true by
      have := List.all_eq_true.1 hw (l0[k]) (List.getElem_mem hk)
      simpa [List.getD_eq_getElem?_getD, hk] using this)
    have HR := Aside0.mk hr0
    clear h hw hr0
    have HI := Aside0.mk (idxI_calls (fun r => scriptV r != 0) 91 #[] (fun _ _ => by kernel_rfl) A0 c0 l0 w HR.out (by omega) (fun W hb j _ => (scripts_1_calls _ W).mono fun _ _ ⟨he, h2⟩ => ⟨he, below_then hb hb.size h2⟩))
    have hlt := idxI_lt (p := fun r => scriptV r != 0) (l := l0)
    have hF := scFirst_eq l0
    generalize idxI (fun r => scriptV r != 0) l0 = i at HI hlt hF
    by_cases hi : 0 ≤ i
    case' pos =>
      have hib : decide (0 ≤ i) = true := decide_eq_true hi
      have hi2 := hlt hi
      rw [if_pos hi] at hF
      have HF := Aside0.mk hF
      obtain ⟨ad, e1, y1⟩ := Kd.at_int HR.out i hi hi2
      subst e1
      have HY := Aside0.mk y1
      have q1 := eq_true hi2
      have q0 := eq_true hi
      clear hlt hi y1 hF hi2
      go_enter Try.func61, Try.ntmps61
      go_wp2_with (first
        | (go_at_call 64; refine HI.out.mono ?_; rintro e w1 ⟨rfl, hb⟩; have y2 := (hb.cell (World.block_lt_of_cell? w _ HY.out)).trans HY.out; have HB := Aside0.mk hb; clear hb)
        | (go_at_call 16; refine (impl_RuneScript.calls _ _ _ (scriptV_f _)).mono ?_; rintro e w2 ⟨rfl, hb⟩; have n2 := Aside0.mk (below_then HB.out HB.out.size hb); clear HB hb; have HB := n2; clear n2))
      clear hib q0 q1 HI HY y2
      have HB1 := Aside0.mk (below_alloc HB.out (.cells #[.slice none 0 0] 87))
      have HS0 := Aside0.mk (IsStk.new HB.out HB.out.size)
      clear HB
      generalize w2.heap.size = gb at HS0 ⊢
    case' neg =>
      have hib : decide (0 ≤ i) = false := decide_eq_false hi
      rw [if_neg hi] at hF
      have HF := Aside0.mk hF
      clear hlt hi hF
      go_enter Try.func61, Try.ntmps61
      go_wp2_with (first
        | (go_at_call 64; refine HI.out.mono ?_; rintro e w1 ⟨rfl, hb⟩; have HB := Aside0.mk hb; clear hb))
      clear hib HI
      have HB1 := Aside0.mk (below_alloc HB.out (.cells #[.slice none 0 0] 87))
      have HS0 := Aside0.mk (IsStk.new HB.out HB.out.size)
      clear HB
      generalize w1.heap.size = gb at HS0 ⊢
    all_goals
      go_loopg [3, 6, 24] l0.length (fun gg s3 s6 s24 wr => ∃ (last : Int) (kk : Nat) (o : List Int) (st : List S99), s3 = .int .i64 last ∧ s24 = .int .i64 kk ∧ kk ≤ l0.length ∧ l0.length - kk ≤ gg ∧ Aside0 (Kd.R (Kd.int .i64) 3 wr w.heap.size (fun _ => True) s6 o) ∧ Aside0 (IsStk wr w.heap.size gb st) ∧ Aside0 (Below w.heap.size w wr) ∧ Aside0 (o ++ scRun (last, st) (l0.drop kk) = scRun (scFirst l0, []) l0) ∧ Aside0 (o.length = kk) ∧ Aside0 (st.length ≤ kk))
      case atStart => exact ⟨_, 0, [], [], rfl, rfl, Nat.zero_le _, by omega, ⟨Kd.R_nil _ _ _ _ _⟩, HS0, HB1, ⟨by rw [HF.out]; rfl⟩, ⟨rfl⟩, ⟨Nat.le_refl _⟩⟩
      case round =>
        clear HB1 HS0 HF
        obtain ⟨last, kk, o, st, rfl, rfl, hkk, hg, HO, HS, HB, HX, HLO, HLS⟩ := hrel
        by_cases hlt : kk < l0.length
        · have hltz : (kk : Int) < (l0.length : Int) := by omega
          obtain ⟨ad, e1, y1⟩ := Kd.at_int HR.out (kk : Int) (by omega) hltz
          first | subst e1 | (obtain rfl := Option.some.inj e1)
          replace y1 := (HB.out.cell (World.block_lt_of_cell? w _ y1)).trans y1
          have hwf := HWF.out kk hlt
          simp only [rd, Int.toNat_natCast] at y1
          generalize hy : l0.getD kk 0 = y at y1 hwf
          have HY := Aside0.mk hy
          have HM := Aside0.mk (show impl_RuneMate.f y = some (mateV y) by rw [impl_RuneMate.f, if_pos hwf])
          have hol := HLO.out
          have hsl := HLS.out
          have HLT := Aside0.mk hlt
          clear hy hwf
          by_cases c1 : scriptV y = 0
          · by_cases c2 : y < mateV y
            · have hol' : o.length < 1000 := by omega
              have hsl' : st.length < 1000 := by omega
              clear hol hsl
              have b1 : (scriptV y != 0) = false := bne_eq_false_iff_eq.mpr c1
              have b2 : decide (y < mateV y) = true := decide_eq_true c2
              have HE := Aside0.mk (show scStep (last, st) y = (last, st ++ [⟨y, last⟩]) by rw [scStep, if_neg (by simp [c1]), if_pos c2])
              go_wp2_with (first | (go_at_call 16; refine (impl_RuneScript.calls _ _ _ (scriptV_f _)).mono ?_; rintro e w' ⟨rfl, hb⟩; have n0 := Aside0.mk (Kd.R_below HO.out hb); have n1 := Aside0.mk (HS.out.below hb); have n2 := Aside0.mk (below_then HB.out HB.out.size hb); clear HO HS HB hb; have HO := n0; have HS := n1; have HB := n2; clear n0 n1 n2) | (go_at_call 36; refine (impl_RuneMate.calls _ _ _ HM.out).mono ?_; rintro e w' ⟨rfl, hb⟩; have n0 := Aside0.mk (Kd.R_below HO.out hb); have n1 := Aside0.mk (HS.out.below hb); have n2 := Aside0.mk (below_then HB.out HB.out.size hb); clear HO HS HB hb; have HO := n0; have HS := n1; have HB := n2; clear n0 n1 n2) | (go_at_call 92; refine (push_calls w _ gb st _ _ HB.out HS.out (by omega)).mono ?_; rintro e w' ⟨rfl, hs, hb, hfr⟩; have n0 := Aside0.mk (hfr _ _ _ HO.out); have n1 := Aside0.mk hs; have n2 := Aside0.mk hb; clear HO HS HB hs hb hfr; have HO := n0; have HS := n1; have HB := n2; clear n0 n1 n2) | ((with_reducible refine gate_builtin (b := .append) (xs := #[.tmp 53, .tmp 55]) rfl ?_); at_builtin; refine appI (w0 := w) (base := w.heap.size) Try.underlying36 info3 rfl (.tmp 53) (.tmp 55) rfl u6 o _ rfl rfl ?aO ?aB ?aS ?aL ?_; (case aO => exact HO.out); (case aB => exact HB.out); (case aS => exact HB.out.size); (case aL => omega); intro v1 w1 ho1 hb1 hg1 hat1; have n0 := Aside0.mk ho1; have n1 := Aside0.mk (HS.out.over HO.out hg1); have n2 := Aside0.mk hb1; clear HO HS HB ho1 hb1 hg1 hat1; have HO := n0; have HS := n1; have HB := n2; clear n0 n1 n2))
              go_roundg (l0.length - (kk + 1))
              case measure => omega
              case rel => exact ⟨_, kk + 1, _, _, rfl, by go_num, by omega, Nat.le_refl _, HO, HS, HB, ⟨by rw [← HX.out, scRun_at _ _ _ hlt, HY.out, HE.out]; simp⟩, ⟨by have := HLO.out; simp; omega⟩, ⟨by have := HLS.out; have a := scStep_len (last, st) y; rw [HE.out] at a; simp only at a; omega⟩⟩
            · have hol' : o.length < 1000 := by omega
              have hsl' : st.length < 1000 := by omega
              clear hol hsl
              by_cases c3 : mateV y = 0
              · have b1 : (scriptV y != 0) = false := bne_eq_false_iff_eq.mpr c1
                have b2 : decide (y < mateV y) = false := decide_eq_false c2
                have b3 : (mateV y != 0) = false := bne_eq_false_iff_eq.mpr c3
                have HE := Aside0.mk (show scStep (last, st) y = (last, st) by rw [scStep, if_neg (by simp [c1]), if_neg c2, if_neg (by simp [c3])])
                go_wp2_with (first | (go_at_call 16; refine (impl_RuneScript.calls _ _ _ (scriptV_f _)).mono ?_; rintro e w' ⟨rfl, hb⟩; have n0 := Aside0.mk (Kd.R_below HO.out hb); have n1 := Aside0.mk (HS.out.below hb); have n2 := Aside0.mk (below_then HB.out HB.out.size hb); clear HO HS HB hb; have HO := n0; have HS := n1; have HB := n2; clear n0 n1 n2) | (go_at_call 36; refine (impl_RuneMate.calls _ _ _ HM.out).mono ?_; rintro e w' ⟨rfl, hb⟩; have n0 := Aside0.mk (Kd.R_below HO.out hb); have n1 := Aside0.mk (HS.out.below hb); have n2 := Aside0.mk (below_then HB.out HB.out.size hb); clear HO HS HB hb; have HO := n0; have HS := n1; have HB := n2; clear n0 n1 n2) | ((with_reducible refine gate_builtin (b := .append) (xs := #[.tmp 53, .tmp 55]) rfl ?_); at_builtin; refine appI (w0 := w) (base := w.heap.size) Try.underlying36 info3 rfl (.tmp 53) (.tmp 55) rfl u6 o _ rfl rfl ?aO ?aB ?aS ?aL ?_; (case aO => exact HO.out); (case aB => exact HB.out); (case aS => exact HB.out.size); (case aL => omega); intro v1 w1 ho1 hb1 hg1 hat1; have n0 := Aside0.mk ho1; have n1 := Aside0.mk (HS.out.over HO.out hg1); have n2 := Aside0.mk hb1; clear HO HS HB ho1 hb1 hg1 hat1; have HO := n0; have HS := n1; have HB := n2; clear n0 n1 n2))
                go_roundg (l0.length - (kk + 1))
                case measure => omega
                case rel => exact ⟨_, kk + 1, _, _, rfl, by go_num, by omega, Nat.le_refl _, HO, HS, HB, ⟨by rw [← HX.out, scRun_at _ _ _ hlt, HY.out, HE.out]; simp⟩, ⟨by have := HLO.out; simp; omega⟩, ⟨by have := HLS.out; have a := scStep_len (last, st) y; rw [HE.out] at a; simp only at a; omega⟩⟩
              · by_cases c4 : (popV st (mateV y)).2.1 = true
                · have b1 : (scriptV y != 0) = false := bne_eq_false_iff_eq.mpr c1
                  have b2 : decide (y < mateV y) = false := decide_eq_false c2
                  have b3 : (mateV y != 0) = true := bne_iff_ne.mpr c3
                  have HE := Aside0.mk (show scStep (last, st) y = ((popV st (mateV y)).1, (popV st (mateV y)).2.2) by rw [scStep, if_neg (by simp [c1]), if_neg c2, if_pos c3, if_pos c4])
                  go_wp2_with (first | (go_at_call 16; refine (impl_RuneScript.calls _ _ _ (scriptV_f _)).mono ?_; rintro e w' ⟨rfl, hb⟩; have n0 := Aside0.mk (Kd.R_below HO.out hb); have n1 := Aside0.mk (HS.out.below hb); have n2 := Aside0.mk (below_then HB.out HB.out.size hb); clear HO HS HB hb; have HO := n0; have HS := n1; have HB := n2; clear n0 n1 n2) | (go_at_call 36; refine (impl_RuneMate.calls _ _ _ HM.out).mono ?_; rintro e w' ⟨rfl, hb⟩; have n0 := Aside0.mk (Kd.R_below HO.out hb); have n1 := Aside0.mk (HS.out.below hb); have n2 := Aside0.mk (below_then HB.out HB.out.size hb); clear HO HS HB hb; have HO := n0; have HS := n1; have HB := n2; clear n0 n1 n2) | (go_at_call 93; refine (pop_calls w _ gb st _ HB.out HS.out (by omega)).mono ?_; rintro e w' ⟨rfl, hs, hb, hfr⟩; have n0 := Aside0.mk (hfr _ _ _ HO.out); have n1 := Aside0.mk hs; have n2 := Aside0.mk hb; clear HO HS HB hs hb hfr; have HO := n0; have HS := n1; have HB := n2; clear n0 n1 n2) | ((with_reducible refine gate_builtin (b := .append) (xs := #[.tmp 53, .tmp 55]) rfl ?_); at_builtin; refine appI (w0 := w) (base := w.heap.size) Try.underlying36 info3 rfl (.tmp 53) (.tmp 55) rfl u6 o _ rfl rfl ?aO ?aB ?aS ?aL ?_; (case aO => exact HO.out); (case aB => exact HB.out); (case aS => exact HB.out.size); (case aL => omega); intro v1 w1 ho1 hb1 hg1 hat1; have n0 := Aside0.mk ho1; have n1 := Aside0.mk (HS.out.over HO.out hg1); have n2 := Aside0.mk hb1; clear HO HS HB ho1 hb1 hg1 hat1; have HO := n0; have HS := n1; have HB := n2; clear n0 n1 n2))
                  go_roundg (l0.length - (kk + 1))
                  case measure => omega
                  case rel => exact ⟨_, kk + 1, _, _, rfl, by go_num, by omega, Nat.le_refl _, HO, HS, HB, ⟨by rw [← HX.out, scRun_at _ _ _ hlt, HY.out, HE.out]; simp⟩, ⟨by have := HLO.out; simp; omega⟩, ⟨by have := HLS.out; have a := scStep_len (last, st) y; rw [HE.out] at a; simp only at a; omega⟩⟩
                · have b1 : (scriptV y != 0) = false := bne_eq_false_iff_eq.mpr c1
                  have b2 : decide (y < mateV y) = false := decide_eq_false c2
                  have b3 : (mateV y != 0) = true := bne_iff_ne.mpr c3
                  have b4 : (popV st (mateV y)).2.1 = false := by simpa using c4
                  have HE := Aside0.mk (show scStep (last, st) y = (last, (popV st (mateV y)).2.2) by rw [scStep, if_neg (by simp [c1]), if_neg c2, if_pos c3, if_neg c4])
                  go_wp2_with (first | (go_at_call 16; refine (impl_RuneScript.calls _ _ _ (scriptV_f _)).mono ?_; rintro e w' ⟨rfl, hb⟩; have n0 := Aside0.mk (Kd.R_below HO.out hb); have n1 := Aside0.mk (HS.out.below hb); have n2 := Aside0.mk (below_then HB.out HB.out.size hb); clear HO HS HB hb; have HO := n0; have HS := n1; have HB := n2; clear n0 n1 n2) | (go_at_call 36; refine (impl_RuneMate.calls _ _ _ HM.out).mono ?_; rintro e w' ⟨rfl, hb⟩; have n0 := Aside0.mk (Kd.R_below HO.out hb); have n1 := Aside0.mk (HS.out.below hb); have n2 := Aside0.mk (below_then HB.out HB.out.size hb); clear HO HS HB hb; have HO := n0; have HS := n1; have HB := n2; clear n0 n1 n2) | (go_at_call 93; refine (pop_calls w _ gb st _ HB.out HS.out (by omega)).mono ?_; rintro e w' ⟨rfl, hs, hb, hfr⟩; have n0 := Aside0.mk (hfr _ _ _ HO.out); have n1 := Aside0.mk hs; have n2 := Aside0.mk hb; clear HO HS HB hs hb hfr; have HO := n0; have HS := n1; have HB := n2; clear n0 n1 n2) | ((with_reducible refine gate_builtin (b := .append) (xs := #[.tmp 53, .tmp 55]) rfl ?_); at_builtin; refine appI (w0 := w) (base := w.heap.size) Try.underlying36 info3 rfl (.tmp 53) (.tmp 55) rfl u6 o _ rfl rfl ?aO ?aB ?aS ?aL ?_; (case aO => exact HO.out); (case aB => exact HB.out); (case aS => exact HB.out.size); (case aL => omega); intro v1 w1 ho1 hb1 hg1 hat1; have n0 := Aside0.mk ho1; have n1 := Aside0.mk (HS.out.over HO.out hg1); have n2 := Aside0.mk hb1; clear HO HS HB ho1 hb1 hg1 hat1; have HO := n0; have HS := n1; have HB := n2; clear n0 n1 n2))
                  go_roundg (l0.length - (kk + 1))
                  case measure => omega
                  case rel => exact ⟨_, kk + 1, _, _, rfl, by go_num, by omega, Nat.le_refl _, HO, HS, HB, ⟨by rw [← HX.out, scRun_at _ _ _ hlt, HY.out, HE.out]; simp⟩, ⟨by have := HLO.out; simp; omega⟩, ⟨by have := HLS.out; have a := scStep_len (last, st) y; rw [HE.out] at a; simp only at a; omega⟩⟩
          · have hol' : o.length < 1000 := by omega
            have hsl' : st.length < 1000 := by omega
            clear hol hsl
            have b1 : (scriptV y != 0) = true := bne_iff_ne.mpr c1
            have HE := Aside0.mk (show scStep (last, st) y = (scriptV y, st) by rw [scStep, if_pos c1])
            go_wp2_with (first | (go_at_call 16; refine (impl_RuneScript.calls _ _ _ (scriptV_f _)).mono ?_; rintro e w' ⟨rfl, hb⟩; have n0 := Aside0.mk (Kd.R_below HO.out hb); have n1 := Aside0.mk (HS.out.below hb); have n2 := Aside0.mk (below_then HB.out HB.out.size hb); clear HO HS HB hb; have HO := n0; have HS := n1; have HB := n2; clear n0 n1 n2) | (go_at_call 36; refine (impl_RuneMate.calls _ _ _ HM.out).mono ?_; rintro e w' ⟨rfl, hb⟩; have n0 := Aside0.mk (Kd.R_below HO.out hb); have n1 := Aside0.mk (HS.out.below hb); have n2 := Aside0.mk (below_then HB.out HB.out.size hb); clear HO HS HB hb; have HO := n0; have HS := n1; have HB := n2; clear n0 n1 n2) | ((with_reducible refine gate_builtin (b := .append) (xs := #[.tmp 53, .tmp 55]) rfl ?_); at_builtin; refine appI (w0 := w) (base := w.heap.size) Try.underlying36 info3 rfl (.tmp 53) (.tmp 55) rfl u6 o _ rfl rfl ?aO ?aB ?aS ?aL ?_; (case aO => exact HO.out); (case aB => exact HB.out); (case aS => exact HB.out.size); (case aL => omega); intro v1 w1 ho1 hb1 hg1 hat1; have n0 := Aside0.mk ho1; have n1 := Aside0.mk (HS.out.over HO.out hg1); have n2 := Aside0.mk hb1; clear HO HS HB ho1 hb1 hg1 hat1; have HO := n0; have HS := n1; have HB := n2; clear n0 n1 n2))
            go_roundg (l0.length - (kk + 1))
            case measure => omega
            case rel => exact ⟨_, kk + 1, _, _, rfl, by go_num, by omega, Nat.le_refl _, HO, HS, HB, ⟨by rw [← HX.out, scRun_at _ _ _ hlt, HY.out, HE.out]; simp⟩, ⟨by have := HLO.out; simp; omega⟩, ⟨by have := HLS.out; have a := scStep_len (last, st) y; rw [HE.out] at a; simp only at a; omega⟩⟩
        · have hltz : ¬ (kk : Int) < (l0.length : Int) := by omega
          have e : kk = l0.length := by omega
          have HE := Aside0.mk e
          clear e
          go_wp2
          go_ret
          refine ⟨_, rfl, ?_, HB.out⟩
          have := HX.out
          rw [HE.out, List.drop_length, scRun, List.append_nil] at this
          rw [← this]
          exact HO.out
  · rw [if_neg hh] at h
    exact absurd h (by simp)


end Go.Proofs.Ytoafenblaioopaa.S

namespace Go.Proofs.Ytoafenblaioopaa.S
open Go.RowKit Go.Proofs.YtoafenblaioopaaW.PrintWords Go.Proofs.YtoafenblaioopaaW.PrintLast Go.Proofs.YtoafenblaioopaaW.PrintMore
attribute [local go_sem] max2_int min2_int max_two min_two max_three min_three max_four min_four   -- for this text's walks alone
set_option linter.unusedVariables false
set_option linter.unusedSimpArgs false

/-! ### impl_ScriptsOf: function 24 -/
def impl_ScriptsOf.f (l0 : List Int) : Option (List Int) := (impl_lettersOk.f l0).bind fun t249 => (if t249 = true then ((impl_scripts.f l0).bind fun t250 => (some t250)) else (some ([] : List Int)))
set_option maxHeartbeats 8000000 in
set_option maxRecDepth 100000 in
theorem impl_ScriptsOf.calls (A0 : Option Addr) (c0 : Nat) (l0 : List Int) (r : List Int) (w : World) (hr0 : Kd.C (Kd.int .i64) w A0 l0.length l0) (hc0 : l0.length ≤ c0) (h : impl_ScriptsOf.f l0 = some r) :
    Calls Try.prog 24 #[.slice A0 l0.length c0] w fun e w' => ∃ v0_ : Value, e = .returned (v0_) ∧ Kd.R (Kd.int .i64) 3 w' w.heap.size (fun _ => True) v0_ r ∧ Below w.heap.size w w' := by
  have HR0 := Aside0.mk hr0
  have HC0 := Aside0.mk hc0
  clear hr0 hc0
  have HB := Aside0.mk (Below.refl w.heap.size w)
  have H : ((impl_lettersOk.f l0).bind fun t249 => (if t249 = true then ((impl_scripts.f l0).bind fun t250 => (some t250)) else (some ([] : List Int)))) = some r := h
  clear h
  replace H := Option.bind_eq_some_iff.mp H
  obtain ⟨t249, A20, H⟩ := H
  replace H : (if t249 = true then ((impl_scripts.f l0).bind fun t250 => (some t250)) else (some ([] : List Int))) = some r := H
  have A2 := Aside0.mk A20
  clear A20
  by_cases c3 : t249 = true
  · subst c3
    have H1 : ((impl_scripts.f l0).bind fun t250 => (some t250)) = some r := by rw [if_pos rfl] at H; exact H
    clear H
    have H := H1
    clear H1
    replace H := Option.bind_eq_some_iff.mp H
    obtain ⟨t250, A40, H⟩ := H
    replace H : (some t250) = some r := H
    have A4 := Aside0.mk A40
    clear A40
    obtain rfl := Option.some.inj H
    go_enter Try.func24, Try.ntmps24
    go_wp2_with (first | ((with_reducible refine gate_callee (f := 60) rfl ?_); refine goesL_ (some 4) rfl rfl Try.func60 (by kernel_rfl) rfl #[.slice A0 l0.length c0] rfl (by (try simp only [List.map_toArray, List.map_cons, List.map_nil]); first | done | rfl | (simp only [List.length_drop, List.length_take]; rfl)) ?_; (with_reducible refine (impl_lettersOk.calls _ _ l0 true _ ?side1 ?side2 A2.out).mono ?_); (case side1 => repeat (first | exact HR0.out | (with_reducible refine Kd.C_alloc ?_ _) | (with_reducible refine Kd.C_drewN ?_ _) | (with_reducible refine Kd.C_drew ?_))); (case side2 => exact HC0.out); rintro e w5 ⟨rfl, hb⟩; refine ⟨_, rfl, ?_⟩; have n0_ := Aside0.mk (below_step (by repeat (first | (with_reducible first | exact HB.out | apply below_alloc | apply pw_below_drewN | apply below_drew1) | exact HB.out)) hb); clear HB; have HB := n0_; clear n0_; (try clear hb); (try clear hb2); (try clear hk); (try clear hi)) | ((with_reducible refine gate_callee (f := 61) rfl ?_); refine goesL_ (some 7) rfl rfl Try.func61 (by kernel_rfl) rfl #[.slice A0 l0.length c0] rfl (by (try simp only [List.map_toArray, List.map_cons, List.map_nil]); first | done | rfl | (simp only [List.length_drop, List.length_take]; rfl)) ?_; (with_reducible refine (impl_scripts.calls _ _ l0 t250 _ ?side1 ?side2 A4.out).mono ?_); (case side1 => repeat (first | exact (Kd.C_below HR0.out HB.out) | (with_reducible refine Kd.C_alloc ?_ _) | (with_reducible refine Kd.C_drewN ?_ _) | (with_reducible refine Kd.C_drew ?_))); (case side2 => exact HC0.out); rintro e w6 ⟨v251, rfl, ho0, hb⟩; refine ⟨_, rfl, ?_⟩; have n0_ := Aside0.mk (Kd.R_lower ho0 (below_size (by repeat (first | (with_reducible first | exact HB.out | apply below_alloc | apply pw_below_drewN | apply below_drew1) | exact HB.out)))); have n1_ := Aside0.mk (below_step (by repeat (first | (with_reducible first | exact HB.out | apply below_alloc | apply pw_below_drewN | apply below_drew1) | exact HB.out)) hb); clear HB; have HO252 := n0_; have HB := n1_; clear n0_ n1_; (try clear hb); (try clear hb2); (try clear hk); (try clear hi); (try clear ho0)))
    go_ret
    exact ⟨_, by first | rfl | (simp [errW_none, errW_some] <;> rfl) | (simp [*, errW_none, errW_some] <;> rfl), by (with_reducible repeat (first | apply Kd.R_alloc | apply Kd.R_drewN | apply Kd.R_drew)); exact HO252.out, by repeat (first | (with_reducible first | exact HB.out | apply below_alloc | apply pw_below_drewN | apply below_drew1) | exact HB.out)⟩
  · replace c3 := Bool.eq_false_iff.mpr c3
    subst c3
    have H1 : (some ([] : List Int)) = some r := by rw [if_neg (show ¬ (false = true) by decide)] at H; exact H
    clear H
    have H := H1
    clear H1
    obtain rfl := Option.some.inj H
    go_enter Try.func24, Try.ntmps24
    go_wp2_with (first | ((with_reducible refine gate_callee (f := 60) rfl ?_); refine goesL_ (some 4) rfl rfl Try.func60 (by kernel_rfl) rfl #[.slice A0 l0.length c0] rfl (by (try simp only [List.map_toArray, List.map_cons, List.map_nil]); first | done | rfl | (simp only [List.length_drop, List.length_take]; rfl)) ?_; (with_reducible refine (impl_lettersOk.calls _ _ l0 false _ ?side1 ?side2 A2.out).mono ?_); (case side1 => repeat (first | exact HR0.out | (with_reducible refine Kd.C_alloc ?_ _) | (with_reducible refine Kd.C_drewN ?_ _) | (with_reducible refine Kd.C_drew ?_))); (case side2 => exact HC0.out); rintro e w7 ⟨rfl, hb⟩; refine ⟨_, rfl, ?_⟩; have n0_ := Aside0.mk (below_step (by repeat (first | (with_reducible first | exact HB.out | apply below_alloc | apply pw_below_drewN | apply below_drew1) | exact HB.out)) hb); clear HB; have HB := n0_; clear n0_; (try clear hb); (try clear hb2); (try clear hk); (try clear hi)))
    go_ret
    exact ⟨_, by first | rfl | (simp [errW_none, errW_some] <;> rfl) | (simp [*, errW_none, errW_some] <;> rfl), by first | exact Kd.R_nil _ _ _ _ _ | exact Kd.N_nil _ _ _ _ _ | exact Kd.V_nil _ _ _ _ _ | exact Kd.Q_nil _ _ _ _ _ | exact Kd.S_nil _ _ _ _ _, by repeat (first | (with_reducible first | exact HB.out | apply below_alloc | apply pw_below_drewN | apply below_drew1) | exact HB.out)⟩

end Go.Proofs.Ytoafenblaioopaa.S

namespace Go.Proofs.Ytoafenblaioopaa.S
open Go.RowKit Go.Proofs.YtoafenblaioopaaW.PrintWords Go.Proofs.YtoafenblaioopaaW.PrintLast Go.Proofs.YtoafenblaioopaaW.PrintMore
attribute [local go_sem] max2_int min2_int max_two min_two max_three min_three max_four min_four   -- for this text's walks alone
set_option linter.unusedVariables false
set_option linter.unusedSimpArgs false

/-! ### impl_levelsOk: function 101: levelsok.tpl -/
def levOkV (r : Int) : Bool := decide (-1 ≤ r) && decide (r ≤ 22)
def levelsOkV (l : List Int) : Bool := decide (l.length ≤ 80) && l.all levOkV
def impl_levelsOk.f (l0 : List Int) : Option Bool := some (levelsOkV l0)
set_option maxHeartbeats 8000000 in
set_option maxRecDepth 100000 in
theorem levelsOk_1_calls (x : Int) (W : World) : Calls Try.prog 110 #[.int .i64 x] W fun e w' => e = .returned (.bool (!levOkV x)) ∧ Drawn0 W w' := by
  by_cases h0 : x < -1
  · have e : levOkV x = false := by simp [levOkV]; omega
    have HE := Aside0.mk e
    clear e
    go_enter Try.func110, Try.ntmps110
    go_wp2
    go_ret
    exact ⟨by rw [HE.out]; rfl, Drawn0.refl _⟩
  · have e : (!levOkV x) = decide (22 < x) := by
      unfold levOkV
      have : -1 ≤ x := by omega
      by_cases h1 : x ≤ 22
      · simp [this, h1]
      · simp [h1]; omega
    have HE := Aside0.mk e
    clear e
    go_enter Try.func110, Try.ntmps110
    go_wp2
    go_ret
    exact ⟨by rw [HE.out]; rfl, Drawn0.refl _⟩
set_option maxHeartbeats 8000000 in
set_option maxRecDepth 100000 in
theorem impl_levelsOk.calls (A0 : Option Addr) (c0 : Nat) (l0 : List Int) (r : Bool) (w : World) (hr0 : Kd.C (Kd.int .i64) w A0 l0.length l0) (hc0 : l0.length ≤ c0) (h : impl_levelsOk.f l0 = some r) :
    Calls Try.prog 101 #[.slice A0 l0.length c0] w fun e w' => e = .returned (.bool r) ∧ Below w.heap.size w w' := by
  obtain rfl := Option.some.inj h
  clear h
  by_cases hl : l0.length ≤ 80
  · have hd : decide ((l0.length : Int) ≤ 80) = true := decide_eq_true (by omega)
    have e : levelsOkV l0 = !(l0.any fun x => !levOkV x) := by simp [levelsOkV, hl, List.all_eq_not_any_not]
    have HE := Aside0.mk e
    have HL := Aside0.mk hl
    clear e hl
    go_enter Try.func101, Try.ntmps101
    go_wp2_with (go_at_call 88; refine (hasI_calls (fun x => !levOkV x) 110 #[] (fun _ _ => by first | rfl | (go_simp; done)) A0 c0 l0 _ hr0 (by have := HL.out; omega) (fun W hb j hj => ((levelsOk_1_calls _ W).mono fun _ _ ⟨he, hd⟩ => ⟨he, hb.trans (hd.below.mono hb.size)⟩))).mono ?_; rintro e w' ⟨rfl, hb'⟩)
    go_ret
    exact ⟨by rw [HE.out]; rfl, hb'⟩
  · have hd : decide ((l0.length : Int) ≤ 80) = false := decide_eq_false (by omega)
    have e : levelsOkV l0 = false := by simp [levelsOkV, hl]
    have HE := Aside0.mk e
    clear e hl
    go_enter Try.func101, Try.ntmps101
    go_wp2
    go_ret
    exact ⟨by rw [HE.out]; rfl, Below.refl _ _⟩


end Go.Proofs.Ytoafenblaioopaa.S

namespace Go.Proofs.Ytoafenblaioopaa.S
open Go.RowKit Go.Proofs.YtoafenblaioopaaW.PrintWords Go.Proofs.YtoafenblaioopaaW.PrintLast Go.Proofs.YtoafenblaioopaaW.PrintMore
attribute [local go_sem] max2_int min2_int max_two min_two max_three min_three max_four min_four   -- for this text's walks alone
set_option linter.unusedVariables false
set_option linter.unusedSimpArgs false

/-! ### impl_runsOf: function 102 -/
mutual
def impl_runsOf.l0 : Nat → List (S53) → List Int → Int → Int → Option ((List (S53)))
  | 0, _, _, _, _ => none
  | k + 1, x3, x7, x8, x9 => if x9 < x8 then (if 0 ≤ x9 then (if x9 < (x7.length : Int) then (if (wrap64 ((x3.length : Int) - 1)) ≥ 0 then (if (rd x7 x9) = (-1) then (impl_runsOf.j1 k x3 x9 (rd x7 x9) (wrap64 ((x3.length : Int) - 1)) x7 x8 x9 true) else (if 0 ≤ (wrap64 ((x3.length : Int) - 1)) then (if (wrap64 ((x3.length : Int) - 1)) < (x3.length : Int) then (impl_runsOf.j1 k x3 x9 (rd x7 x9) (wrap64 ((x3.length : Int) - 1)) x7 x8 x9 ((rd x7 x9) == ((rd_T53 x3 (wrap64 ((x3.length : Int) - 1))).f2))) else (none)) else (none))) else (impl_runsOf.j1 k x3 x9 (rd x7 x9) (wrap64 ((x3.length : Int) - 1)) x7 x8 x9 false)) else (none)) else (none)) else (some x3)
def impl_runsOf.j1 : Nat → List (S53) → Int → Int → Int → List Int → Int → Int → Bool → Option ((List (S53)))
  | 0, _, _, _, _, _, _, _, _ => none
  | k + 1, x3, x4, x5, x6, x7, x8, x9, x25 => if x25 = true then (if 0 ≤ x6 then (if x6 < (x3.length : Int) then (impl_runsOf.l0 k (x3.set (x6 : Int).toNat (⟨(rd_T53 x3 x6).f0, wrap64 (x4 + 1), (rd_T53 x3 x6).f2⟩ : S53)) x7 x8 (wrap64 (x9 + 1))) else (none)) else (none)) else (if x6 ≥ 0 then (if 0 ≤ x6 then (if x6 < (x3.length : Int) then (if ((rd_T53 x3 x6).f2) = (-1) then ((some (x3.set (x6 : Int).toNat (⟨(rd_T53 x3 x6).f0, wrap64 (x4 + 1), (rd_T53 x3 x6).f2⟩ : S53) : List (S53))).bind fun y616 => (impl_runsOf.l0 k (y616.set (x6 : Int).toNat (⟨(rd_T53 y616 x6).f0, (rd_T53 y616 x6).f1, x5⟩ : S53)) x7 x8 (wrap64 (x9 + 1)))) else (if x3.length < 5864062014805 then (impl_runsOf.l0 k (x3 ++ [(⟨x4, wrap64 (x4 + 1), x5⟩ : S53)]) x7 x8 (wrap64 (x9 + 1))) else (none))) else (none)) else (none)) else (if x3.length < 5864062014805 then (impl_runsOf.l0 k (x3 ++ [(⟨x4, wrap64 (x4 + 1), x5⟩ : S53)]) x7 x8 (wrap64 (x9 + 1))) else (none)))
end
def impl_runsOf.f (k : Nat) (l0 : List Int) : Option ((List (S53))) := impl_runsOf.l0 k ([] : List (S53)) l0 (l0.length : Int) 0
theorem impl_runsOf.mono_l : ∀ k, (∀ y0 y1 y2 y3, LeO (impl_runsOf.l0 k y0 y1 y2 y3) (impl_runsOf.l0 (k + 1) y0 y1 y2 y3)) ∧ (∀ y0 y1 y2 y3 y4 y5 y6 y7, LeO (impl_runsOf.j1 k y0 y1 y2 y3 y4 y5 y6 y7) (impl_runsOf.j1 (k + 1) y0 y1 y2 y3 y4 y5 y6 y7))
  | 0 => ⟨fun _ _ _ _ r h => by simp [impl_runsOf.l0] at h, fun _ _ _ _ _ _ _ _ r h => by simp [impl_runsOf.j1] at h⟩
  | k + 1 => by
    obtain ⟨ih0, ih1⟩ := impl_runsOf.mono_l k
    refine ⟨?_, ?_⟩
    · intro y0 y1 y2 y3
      unfold impl_runsOf.l0
      repeat' first
      | (with_reducible exact ih0 _ _ _ _)
      | (with_reducible exact ih1 _ _ _ _ _ _ _ _)
      | (with_reducible exact LeO.refl _)
      | (with_reducible exact LeO.none _)
      | (with_reducible refine LeO.ite ?_ ?_)
      | (with_reducible refine LeO.bind ?_ (fun _ => ?_))
      | exact ih0 _ _ _ _
      | exact ih1 _ _ _ _ _ _ _ _
      | exact LeO.none _
      | refine LeO.ite ?_ ?_
      | refine LeO.bind ?_ (fun _ => ?_)
    · intro y0 y1 y2 y3 y4 y5 y6 y7
      unfold impl_runsOf.j1
      repeat' first
      | (with_reducible exact ih0 _ _ _ _)
      | (with_reducible exact ih1 _ _ _ _ _ _ _ _)
      | (with_reducible exact LeO.refl _)
      | (with_reducible exact LeO.none _)
      | (with_reducible refine LeO.ite ?_ ?_)
      | (with_reducible refine LeO.bind ?_ (fun _ => ?_))
      | exact ih0 _ _ _ _
      | exact ih1 _ _ _ _ _ _ _ _
      | exact LeO.none _
      | refine LeO.ite ?_ ?_
      | refine LeO.bind ?_ (fun _ => ?_)
theorem impl_runsOf.mono : ∀ a0 k, LeO (impl_runsOf.f k a0) (impl_runsOf.f (k + 1) a0) := by
  intro a0 k
  obtain ⟨ih0, ih1⟩ := impl_runsOf.mono_l k
  unfold impl_runsOf.f
  repeat' first
      | (with_reducible exact ih0 _ _ _ _)
      | (with_reducible exact ih1 _ _ _ _ _ _ _ _)
      | (with_reducible exact LeO.refl _)
      | (with_reducible exact LeO.none _)
      | (with_reducible refine LeO.ite ?_ ?_)
      | (with_reducible refine LeO.bind ?_ (fun _ => ?_))
      | exact ih0 _ _ _ _
      | exact ih1 _ _ _ _ _ _ _ _
      | exact LeO.none _
      | refine LeO.ite ?_ ?_
      | refine LeO.bind ?_ (fun _ => ?_)
set_option maxHeartbeats 8000000 in
set_option maxRecDepth 100000 in
theorem impl_runsOf.calls (k : Nat) (A0 : Option Addr) (c0 : Nat) (l0 : List Int) (r : List (S53)) (w : World) (hr0 : Kd.C (Kd.int .i64) w A0 l0.length l0) (hc0 : l0.length ≤ c0) (h : impl_runsOf.f k l0 = some r) :
    Calls Try.prog 102 #[.slice A0 l0.length c0] w fun e w' => ∃ v0_ : Value, e = .returned (v0_) ∧ Kd.R k53 53 w' w.heap.size (fun _ => True) v0_ r ∧ Below w.heap.size w w' := by
  have hu53 := Try.underlying53
  have HR0 := Aside0.mk hr0
  have HC0 := Aside0.mk hc0
  clear hr0 hc0
  have HB := Aside0.mk (Below.refl w.heap.size w)
  have H : (impl_runsOf.l0 k ([] : List (S53)) l0 (l0.length : Int) 0) = some r := h
  clear h
  have H' := Aside0.mk H
  clear H
  go_enter Try.func102, Try.ntmps102
  go_wp2
  go_loopg [3, 9] k (fun kq v3 v9 w' => ∃ (x3_1 : List (S53)) (x9_1 : Int), v9 = .int .i64 x9_1 ∧ Aside0 (impl_runsOf.l0 kq x3_1 l0 (l0.length : Int) x9_1 = some r) ∧ Aside0 (kq ≤ k) ∧ Aside0 (Kd.R k53 53 w' w.heap.size (fun _ => True) v3 x3_1) ∧ Aside0 (Below w.heap.size w w'))
  case atStart => exact ⟨(([] : List (S53))), (0), (by first | rfl | (simp; done) | (simp [*]; done)), H', ⟨Nat.le_refl _⟩, ⟨by first | exact Kd.R_nil _ _ _ _ _ | exact Kd.N_nil _ _ _ _ _ | exact Kd.V_nil _ _ _ _ _ | exact Kd.Q_nil _ _ _ _ _ | exact Kd.S_nil _ _ _ _ _⟩, ⟨by repeat (first | (with_reducible first | exact HB.out | apply below_alloc | apply pw_below_drewN | apply below_drew1) | exact HB.out)⟩⟩
  case round =>
    clear H'
    try clear c1
    obtain ⟨x3_1, x9_1, rfl, HA, HK1, HO_3, HB⟩ := hrel
    cases gk with
    | zero => exact absurd HA.out (by simp [impl_runsOf.l0])
    | succ k1 =>
      have H := HA.out
      clear HA
      simp only [impl_runsOf.l0] at H
      by_cases c2 : x9_1 < (l0.length : Int)
      · rw [if_pos c2] at H
        have c2b0 : decide (x9_1 < (l0.length : Int)) = true := decide_eq_true c2
        clear c2
        by_cases c3 : 0 ≤ x9_1
        · rw [if_pos c3] at H
          have c3b0 : decide (0 ≤ x9_1) = true := decide_eq_true c3
          clear c3
          by_cases c4 : x9_1 < (l0.length : Int)
          · rw [if_pos c4] at H
            have c4b0 : decide (x9_1 < (l0.length : Int)) = true := decide_eq_true c4
            clear c4
            have HC5 := Aside0.mk H
            clear H
            have p612 : 0 ≤ (x9_1 : Int) := of_decide_eq_true (by first | (with_reducible assumption) | assumption)
            have q612 : x9_1 < (l0.length : Int) := of_decide_eq_true (by first | (with_reducible assumption) | assumption)
            obtain ⟨ad612, e612, hx612_0⟩ := Kd.at_int HR0.out x9_1 p612 q612
            cases e612
            replace hx612_0 := (HB.out.cell (World.block_lt_of_cell? w _ hx612_0)).trans hx612_0
            replace p612 := eq_true p612
            replace q612 := eq_true q612
            obtain ⟨Ao6, co6, eo6⟩ := Kd.R_slice HO_3.out
            subst eo6
            go_upto_region 7 with (fail)
            go_cut [25] (fun v25 wc => ∃ (kq : Nat) (x25_4 : Bool), v25 = .bool x25_4 ∧ Aside0 (impl_runsOf.j1 kq x3_1 x9_1 (rd l0 x9_1) (wrap64 ((x3_1.length : Int) - 1)) l0 (l0.length : Int) x9_1 x25_4 = some r) ∧ Aside0 (kq ≤ k1) ∧ Aside0 (Kd.R k53 53 wc w.heap.size (fun _ => True) (.slice Ao6 x3_1.length co6) x3_1) ∧ Aside0 (Below w.heap.size w wc))
            case first =>
              have H := HC5.out
              clear HC5
              by_cases c7 : (wrap64 ((x3_1.length : Int) - 1)) ≥ 0
              · rw [if_pos c7] at H
                have c7b0 : decide (0 ≤ (wrap64 ((x3_1.length : Int) - 1))) = true := decide_eq_true c7
                clear c7
                (first | rw [c7b0] | (simp only [i64_w, i32_w]; rw [c7b0]) | skip)
                by_cases c8 : (rd l0 x9_1) = (-1)
                · rw [if_pos c8] at H
                  have c8b0 : ((rd l0 x9_1) == (-1)) = true := beq_iff_eq.mpr c8
                  have c8b1 : ((rd l0 x9_1) != (-1)) = false := bne_eq_false_iff_eq.mpr c8
                  clear c8
                  have H' := Aside0.mk H
                  clear H
                  go_wp2
                  go_meet
                  case rel => exact ⟨_, (true), (by first | rfl | (simp; done) | (simp [*]; done)), H', ⟨by have := HK1.out; first | omega | exact Nat.le_refl _⟩, ⟨by (with_reducible repeat (first | apply Kd.R_alloc | apply Kd.R_drewN | apply Kd.R_drew)); exact HO_3.out⟩, ⟨by repeat (first | (with_reducible first | exact HB.out | apply below_alloc | apply pw_below_drewN | apply below_drew1) | exact HB.out)⟩⟩
                · rw [if_neg c8] at H
                  have c8b0 : ((rd l0 x9_1) == (-1)) = false := beq_eq_false_iff_ne.mpr c8
                  have c8b1 : ((rd l0 x9_1) != (-1)) = true := bne_iff_ne.mpr c8
                  obtain ⟨ji9, hji9⟩ : ∃ j_ : Int, (wrap64 ((x3_1.length : Int) - 1)) = j_ := ⟨_, rfl⟩
                  replace H : (if 0 ≤ (ji9) then (if (ji9) < (x3_1.length : Int) then (impl_runsOf.j1 k1 x3_1 x9_1 (rd l0 x9_1) ji9 l0 (l0.length : Int) x9_1 ((rd l0 x9_1) == ((rd_T53 x3_1 (ji9)).f2))) else (none)) else (none)) = some r := by first | (rw [hji9] at H; exact H) | (simp only [hji9] at H ⊢; exact H)
                  (try rw [hji9] at c7b0)
                  have hji9w : (IntKind.i64.wrap ((x3_1.length : Int) - 1)) = ji9 := (i64_w _).trans hji9
                  by_cases c10 : 0 ≤ (ji9)
                  · rw [if_pos c10] at H
                    have c10b0 : decide (0 ≤ (ji9)) = true := decide_eq_true c10
                    clear c10
                    by_cases c11 : (ji9) < (x3_1.length : Int)
                    · rw [if_pos c11] at H
                      have c11b0 : decide ((ji9) < (x3_1.length : Int)) = true := decide_eq_true c11
                      clear c11
                      have H' := Aside0.mk H
                      clear H
                      have p613 : 0 ≤ ((ji9) : Int) := of_decide_eq_true (by first | (with_reducible assumption) | assumption)
                      have q613 : (ji9) < (x3_1.length : Int) := of_decide_eq_true (by first | (with_reducible assumption) | assumption)
                      obtain ⟨ad613, e613, hx613_0, hx613_1, hx613_2⟩ := at_T53 (Kd.R_reads' HO_3.out).2.2 (ji9) p613 q613
                      cases e613
                      replace p613 := eq_true p613
                      replace q613 := eq_true q613
                      go_wp2
                      go_meet
                      case rel => exact ⟨_, (((rd l0 x9_1) == ((rd_T53 x3_1 (ji9)).f2))), (by first | rfl | (simp; done) | (simp only [← hji9] <;> (first | rfl | simp)) | (simp [*]; done)), (by first | exact H' | (rw [hji9]; exact H')), ⟨by have := HK1.out; first | omega | exact Nat.le_refl _⟩, ⟨by (with_reducible repeat (first | apply Kd.R_alloc | apply Kd.R_drewN | apply Kd.R_drew)); exact HO_3.out⟩, ⟨by repeat (first | (with_reducible first | exact HB.out | apply below_alloc | apply pw_below_drewN | apply below_drew1) | exact HB.out)⟩⟩
                    · rw [if_neg c11] at H
                      exact absurd H (by simp)
                  · rw [if_neg c10] at H
                    exact absurd H (by simp)
              · rw [if_neg c7] at H
                have c7b0 : decide (0 ≤ (wrap64 ((x3_1.length : Int) - 1))) = false := decide_eq_false c7
                clear c7
                (first | rw [c7b0] | (simp only [i64_w, i32_w]; rw [c7b0]) | skip)
                have H' := Aside0.mk H
                clear H
                go_wp2
                go_meet
                case rel => exact ⟨_, (false), (by first | rfl | (simp; done) | (simp [*]; done)), H', ⟨by have := HK1.out; first | omega | exact Nat.le_refl _⟩, ⟨by (with_reducible repeat (first | apply Kd.R_alloc | apply Kd.R_drewN | apply Kd.R_drew)); exact HO_3.out⟩, ⟨by repeat (first | (with_reducible first | exact HB.out | apply below_alloc | apply pw_below_drewN | apply below_drew1) | exact HB.out)⟩⟩
            case rest =>
              clear HC5
              try clear c1
              try clear c2
              try clear c2b0
              try clear p2
              try clear c3
              try clear c3b0
              try clear c4
              try clear c4b0
              try clear p6
              try clear q6
              try clear hx6
              try clear c7
              try clear c7b0
              try clear c8
              try clear c8b0
              try clear c8b1
              try clear c10
              try clear c10b0
              try clear c11
              try clear c11b0
              try clear hx612_0
              try clear hx613_0
              try clear hx613_1
              try clear hx613_2
              try clear p612
              try clear p613
              try clear q612
              try clear q613
              obtain ⟨kq, x25_4, rfl, HA, HJ4, HO_3, HB⟩ := hcut
              cases kq with
              | zero => exact absurd HA.out (by simp [impl_runsOf.j1])
              | succ kj4 =>
                have H := HA.out
                clear HA
                simp only [impl_runsOf.j1] at H
                by_cases c12 : x25_4 = true
                · subst c12
                  have H1 : (if 0 ≤ (wrap64 ((x3_1.length : Int) - 1)) then (if (wrap64 ((x3_1.length : Int) - 1)) < (x3_1.length : Int) then (impl_runsOf.l0 kj4 (x3_1.set ((wrap64 ((x3_1.length : Int) - 1)) : Int).toNat (⟨(rd_T53 x3_1 (wrap64 ((x3_1.length : Int) - 1))).f0, wrap64 (x9_1 + 1), (rd_T53 x3_1 (wrap64 ((x3_1.length : Int) - 1))).f2⟩ : S53)) l0 (l0.length : Int) (wrap64 (x9_1 + 1))) else (none)) else (none)) = some r := by rw [if_pos rfl] at H; exact H
                  clear H
                  have H := H1
                  clear H1
                  obtain ⟨ji13, hji13⟩ : ∃ j_ : Int, (wrap64 ((x3_1.length : Int) - 1)) = j_ := ⟨_, rfl⟩
                  replace H : (if 0 ≤ (ji13) then (if (ji13) < (x3_1.length : Int) then (impl_runsOf.l0 kj4 (x3_1.set ((ji13) : Int).toNat (⟨(rd_T53 x3_1 (ji13)).f0, wrap64 (x9_1 + 1), (rd_T53 x3_1 (ji13)).f2⟩ : S53)) l0 (l0.length : Int) (wrap64 (x9_1 + 1))) else (none)) else (none)) = some r := by first | (rw [hji13] at H; exact H) | (simp only [hji13] at H ⊢; exact H)
                  have hji13w : (IntKind.i64.wrap ((x3_1.length : Int) - 1)) = ji13 := (i64_w _).trans hji13
                  by_cases c14 : 0 ≤ (ji13)
                  · rw [if_pos c14] at H
                    have c14b0 : decide (0 ≤ (ji13)) = true := decide_eq_true c14
                    clear c14
                    by_cases c15 : (ji13) < (x3_1.length : Int)
                    · rw [if_pos c15] at H
                      have c15b0 : decide ((ji13) < (x3_1.length : Int)) = true := decide_eq_true c15
                      clear c15
                      obtain ⟨y614, hy614⟩ : ∃ y_ : List (S53), y_ = (x3_1.set ((ji13) : Int).toNat (⟨(rd_T53 x3_1 (ji13)).f0, wrap64 (x9_1 + 1), (rd_T53 x3_1 (ji13)).f2⟩ : S53)) := ⟨_, rfl⟩
                      replace H : (impl_runsOf.l0 kj4 y614 l0 (l0.length : Int) (wrap64 (x9_1 + 1))) = some r := by first | (rw [hy614]; with_reducible exact H) | (have H2_ := (Option.bind_some _ _).symm.trans H; rw [hy614]; with_reducible exact H2_) | (have H2_ := (Option.bind_some _ _).symm.trans H; with_reducible exact H2_) | with_reducible exact H | (rw [hy614]; exact H) | exact H
                      have Ny614 := Aside0.mk hy614
                      clear hy614
                      have H' := Aside0.mk H
                      clear H
                      have p16 : 0 ≤ ((ji13) : Int) := of_decide_eq_true (by first | (with_reducible assumption) | assumption)
                      have q16 : ((ji13) : Int) < ((x3_1.length : Int) : Int) := of_decide_eq_true (by first | (with_reducible assumption) | assumption)
                      obtain ⟨go16, co16, eo16, gb16, gl16, cl16, HG16⟩ := Kd.R_form HO_3.out (by omega)
                      (first | cases eo16 | (injection eo16 with ea_ en_ ec_; (first | subst ea_ | (injection ea_ with ea_; subst ea_)); subst ec_; clear en_))
                      have GB16 := Aside0.mk gb16
                      have GG16 := Aside0.mk HG16
                      clear gb16 gl16 HG16
                      obtain ⟨ce16, hcl16, hM16, hcc16, hfr16⟩ := Kd.R_elem HO_3.out z53 ((ji13) : Int) p16 q16
                      obtain rfl := k53_openM hM16
                      have hx16_0 : wc.cell? ⟨go16, ((ji13) : Int).toNat * 3, none⟩ = some (.int .i64 ((rd_T53 x3_1 (ji13)).f0)) := hcc16 0 _ rfl
                      have hx16_1 : wc.cell? ⟨go16, ((ji13) : Int).toNat * 3 + 1, none⟩ = some (.int .i64 ((rd_T53 x3_1 (ji13)).f1)) := hcc16 1 _ rfl
                      have hx16_2 : wc.cell? ⟨go16, ((ji13) : Int).toNat * 3 + 2, none⟩ = some (.int .i64 ((rd_T53 x3_1 (ji13)).f2)) := hcc16 2 _ rfl
                      have hf16_0 : wc.frozen? ⟨go16, ((ji13) : Int).toNat * 3, none⟩ = false := hfr16 0
                      have hf16_1 : wc.frozen? ⟨go16, ((ji13) : Int).toNat * 3 + 1, none⟩ = false := hfr16 1
                      have hf16_2 : wc.frozen? ⟨go16, ((ji13) : Int).toNat * 3 + 2, none⟩ = false := hfr16 2
                      clear hcl16 hcc16 hfr16 hM16
                      replace p16 := eq_true p16
                      replace q16 := eq_true q16
                      have HX17 := Aside0.mk (show Kd.R k53 53 wc w.heap.size (fun _ => True) (.slice (some ⟨go16, 0, none⟩) x3_1.length co6) x3_1 from (by (with_reducible repeat (first | apply Kd.R_alloc | apply Kd.R_drewN | apply Kd.R_drew)); exact HO_3.out))
                      obtain ⟨ce17, hcl17, hM17, hcc17, hfr17⟩ := Kd.R_elem HX17.out z53 ((ji13) : Int) (of_decide_eq_true (by first | (with_reducible assumption) | assumption)) (by have h_ : ((ji13) : Int) < ((x3_1.length : Int) : Int) := of_decide_eq_true (by first | (with_reducible assumption) | assumption); first | exact h_ | (have e_ := (Kd.R_reads' HO_3.out).1; omega) | simpa using h_)
                      obtain rfl := k53_openM hM17
                      have HP17 := Kd.R_seg HX17.out ((ji13) : Int) (of_decide_eq_true (by first | (with_reducible assumption) | assumption)) (by have h_ : ((ji13) : Int) < ((x3_1.length : Int) : Int) := of_decide_eq_true (by first | (with_reducible assumption) | assumption); first | exact h_ | (have e_ := (Kd.R_reads' HO_3.out).1; omega) | simpa using h_) (seg := [.int .i64 (wrap64 (x9_1 + 1))]) (j := 1) hcl17 hcc17 (show 2 ≤ 3 from by decide) (x' := (⟨(rd_T53 x3_1 (ji13)).f0, wrap64 (x9_1 + 1), (rd_T53 x3_1 (ji13)).f2⟩ : S53)) (k53_mkM _ _ _ (⟨(rd_T53 x3_1 (ji13)).f0, wrap64 (x9_1 + 1), (rd_T53 x3_1 (ji13)).f2⟩ : S53) ) (fun _ hk => hk)
                      have hx17_1 := hcc17 1 _ rfl
                      (try simp only [show (k53).sz = 3 from rfl, Nat.mul_one, Nat.add_zero] at hx17_1)
                      have hf17_1 := hfr17 1
                      (try simp only [show (k53).sz = 3 from rfl, Nat.mul_one, Nat.add_zero] at hf17_1)
                      clear hcl17 hcc17 hfr17 hM17
                      go_wp2_with (first | ((with_reducible refine gate_store (t := 3) (p := 46) rfl ?_); refine store_event (t := 3) (p := 46) (v := ?vo_w18) (w1 := (wc.setCell ⟨go16, ((ji13) : Int).toNat * 3 + 1, none⟩ (.int .i64 (wrap64 (x9_1 + 1))))) ?hg ?ho ?hn ?hr ?_; (case ho => rfl); (case hg => rfl); (case hn => rfl); (case hr => first | (go_simp; done) | (go_simp; rfl)); intro w18 hw; have hg : wc.grownBy w18 (some go16) := (by rw [hw]; exact HP17.2); have hp_ : Kd.R k53 53 w18 w.heap.size (fun _ => True) (.slice (some ⟨go16, 0, none⟩) x3_1.length co6) y614 := (by rw [hw, Ny614.out]; exact HP17.1); clear HP17; have n0_ := Aside0.mk (hp_); have n1_ := Aside0.mk ((by rw [hw]; exact below_set (HB.out) GB16.out : Below w.heap.size w w18)); clear HO_3; clear HB; have HO_3 := n0_; have HB := n1_; clear n0_ n1_; clear hg hw hp_))
                      go_roundg kj4
                      case measure => have := HK1.out; have := HJ4.out; omega
                      case rel => exact ⟨(y614), (wrap64 (x9_1 + 1)), (by first | rfl | (simp; done) | (simp [*]; done)), H', ⟨by have := HK1.out; have := HJ4.out; omega⟩, ⟨by (with_reducible repeat (first | apply Kd.R_alloc | apply Kd.R_drewN | apply Kd.R_drew)); exact HO_3.out⟩, ⟨by repeat (first | (with_reducible first | exact HB.out | apply below_alloc | apply pw_below_drewN | apply below_drew1) | exact HB.out)⟩⟩
                    · rw [if_neg c15] at H
                      exact absurd H (by simp)
                  · rw [if_neg c14] at H
                    exact absurd H (by simp)
                · replace c12 := Bool.eq_false_iff.mpr c12
                  subst c12
                  have H1 : (if (wrap64 ((x3_1.length : Int) - 1)) ≥ 0 then (if 0 ≤ (wrap64 ((x3_1.length : Int) - 1)) then (if (wrap64 ((x3_1.length : Int) - 1)) < (x3_1.length : Int) then (if ((rd_T53 x3_1 (wrap64 ((x3_1.length : Int) - 1))).f2) = (-1) then ((some (x3_1.set ((wrap64 ((x3_1.length : Int) - 1)) : Int).toNat (⟨(rd_T53 x3_1 (wrap64 ((x3_1.length : Int) - 1))).f0, wrap64 (x9_1 + 1), (rd_T53 x3_1 (wrap64 ((x3_1.length : Int) - 1))).f2⟩ : S53) : List (S53))).bind fun y616 => (impl_runsOf.l0 kj4 (y616.set ((wrap64 ((x3_1.length : Int) - 1)) : Int).toNat (⟨(rd_T53 y616 (wrap64 ((x3_1.length : Int) - 1))).f0, (rd_T53 y616 (wrap64 ((x3_1.length : Int) - 1))).f1, (rd l0 x9_1)⟩ : S53)) l0 (l0.length : Int) (wrap64 (x9_1 + 1)))) else (if x3_1.length < 5864062014805 then (impl_runsOf.l0 kj4 (x3_1 ++ [(⟨x9_1, wrap64 (x9_1 + 1), (rd l0 x9_1)⟩ : S53)]) l0 (l0.length : Int) (wrap64 (x9_1 + 1))) else (none))) else (none)) else (none)) else (if x3_1.length < 5864062014805 then (impl_runsOf.l0 kj4 (x3_1 ++ [(⟨x9_1, wrap64 (x9_1 + 1), (rd l0 x9_1)⟩ : S53)]) l0 (l0.length : Int) (wrap64 (x9_1 + 1))) else (none))) = some r := by rw [if_neg (show ¬ (false = true) by decide)] at H; exact H
                  clear H
                  have H := H1
                  clear H1
                  by_cases c19 : (wrap64 ((x3_1.length : Int) - 1)) ≥ 0
                  · rw [if_pos c19] at H
                    have c19b0 : decide (0 ≤ (wrap64 ((x3_1.length : Int) - 1))) = true := decide_eq_true c19
                    clear c19
                    obtain ⟨ji20, hji20⟩ : ∃ j_ : Int, (wrap64 ((x3_1.length : Int) - 1)) = j_ := ⟨_, rfl⟩
                    replace H : (if 0 ≤ (ji20) then (if (ji20) < (x3_1.length : Int) then (if ((rd_T53 x3_1 (ji20)).f2) = (-1) then ((some (x3_1.set ((ji20) : Int).toNat (⟨(rd_T53 x3_1 (ji20)).f0, wrap64 (x9_1 + 1), (rd_T53 x3_1 (ji20)).f2⟩ : S53) : List (S53))).bind fun y616 => (impl_runsOf.l0 kj4 (y616.set ((ji20) : Int).toNat (⟨(rd_T53 y616 (ji20)).f0, (rd_T53 y616 (ji20)).f1, (rd l0 x9_1)⟩ : S53)) l0 (l0.length : Int) (wrap64 (x9_1 + 1)))) else (if x3_1.length < 5864062014805 then (impl_runsOf.l0 kj4 (x3_1 ++ [(⟨x9_1, wrap64 (x9_1 + 1), (rd l0 x9_1)⟩ : S53)]) l0 (l0.length : Int) (wrap64 (x9_1 + 1))) else (none))) else (none)) else (none)) = some r := by first | (rw [hji20] at H; exact H) | (simp only [hji20] at H ⊢; exact H)
                    (try rw [hji20] at c19b0)
                    have hji20w : (IntKind.i64.wrap ((x3_1.length : Int) - 1)) = ji20 := (i64_w _).trans hji20
                    by_cases c21 : 0 ≤ (ji20)
                    · rw [if_pos c21] at H
                      have c21b0 : decide (0 ≤ (ji20)) = true := decide_eq_true c21
                      clear c21
                      by_cases c22 : (ji20) < (x3_1.length : Int)
                      · rw [if_pos c22] at H
                        have c22b0 : decide ((ji20) < (x3_1.length : Int)) = true := decide_eq_true c22
                        clear c22
                        by_cases c23 : ((rd_T53 x3_1 (ji20)).f2) = (-1)
                        · rw [if_pos c23] at H
                          have c23b0 : (((rd_T53 x3_1 (ji20)).f2) == (-1)) = true := beq_iff_eq.mpr c23
                          have c23b1 : (((rd_T53 x3_1 (ji20)).f2) != (-1)) = false := bne_eq_false_iff_eq.mpr c23
                          clear c23
                          obtain ⟨y616, hy616⟩ : ∃ y_ : List (S53), y_ = (x3_1.set ((ji20) : Int).toNat (⟨(rd_T53 x3_1 (ji20)).f0, wrap64 (x9_1 + 1), (rd_T53 x3_1 (ji20)).f2⟩ : S53)) := ⟨_, rfl⟩
                          replace H : (impl_runsOf.l0 kj4 (y616.set ((ji20) : Int).toNat (⟨(rd_T53 y616 (ji20)).f0, (rd_T53 y616 (ji20)).f1, (rd l0 x9_1)⟩ : S53)) l0 (l0.length : Int) (wrap64 (x9_1 + 1))) = some r := by first | (rw [hy616]; with_reducible exact H) | (have H2_ := (Option.bind_some _ _).symm.trans H; rw [hy616]; with_reducible exact H2_) | (have H2_ := (Option.bind_some _ _).symm.trans H; with_reducible exact H2_) | with_reducible exact H | (rw [hy616]; exact H) | exact H
                          have Ny616 := Aside0.mk hy616
                          clear hy616
                          obtain ⟨y617, hy617⟩ : ∃ y_ : List (S53), y_ = (y616.set ((ji20) : Int).toNat (⟨(rd_T53 y616 (ji20)).f0, (rd_T53 y616 (ji20)).f1, (rd l0 x9_1)⟩ : S53)) := ⟨_, rfl⟩
                          replace H : (impl_runsOf.l0 kj4 y617 l0 (l0.length : Int) (wrap64 (x9_1 + 1))) = some r := by first | (rw [hy617]; with_reducible exact H) | (have H2_ := (Option.bind_some _ _).symm.trans H; rw [hy617]; with_reducible exact H2_) | (have H2_ := (Option.bind_some _ _).symm.trans H; with_reducible exact H2_) | with_reducible exact H | (rw [hy617]; exact H) | exact H
                          have Ny617 := Aside0.mk hy617
                          clear hy617
                          have H' := Aside0.mk H
                          clear H
                          have p615 : 0 ≤ ((ji20) : Int) := of_decide_eq_true (by first | (with_reducible assumption) | assumption)
                          have q615 : (ji20) < (x3_1.length : Int) := of_decide_eq_true (by first | (with_reducible assumption) | assumption)
                          obtain ⟨ad615, e615, hx615_0, hx615_1, hx615_2⟩ := at_T53 (Kd.R_reads' HO_3.out).2.2 (ji20) p615 q615
                          cases e615
                          replace p615 := eq_true p615
                          replace q615 := eq_true q615
                          have p24 : 0 ≤ ((ji20) : Int) := of_decide_eq_true (by first | (with_reducible assumption) | assumption)
                          have q24 : ((ji20) : Int) < ((x3_1.length : Int) : Int) := of_decide_eq_true (by first | (with_reducible assumption) | assumption)
                          obtain ⟨go24, co24, eo24, gb24, gl24, cl24, HG24⟩ := Kd.R_form HO_3.out (by omega)
                          (first | cases eo24 | (injection eo24 with ea_ en_ ec_; (first | subst ea_ | (injection ea_ with ea_; subst ea_)); subst ec_; clear en_))
                          have GB24 := Aside0.mk gb24
                          have GG24 := Aside0.mk HG24
                          clear gb24 gl24 HG24
                          (first | simp only [add_plain] at hx615_0 | skip)
                          (first | simp only [add_plain] at hx615_1 | skip)
                          (first | simp only [add_plain] at hx615_2 | skip)
                          obtain ⟨ce24, hcl24, hM24, hcc24, hfr24⟩ := Kd.R_elem HO_3.out z53 ((ji20) : Int) p24 q24
                          obtain rfl := k53_openM hM24
                          have hx24_0 : wc.cell? ⟨go24, ((ji20) : Int).toNat * 3, none⟩ = some (.int .i64 ((rd_T53 x3_1 (ji20)).f0)) := hcc24 0 _ rfl
                          have hx24_1 : wc.cell? ⟨go24, ((ji20) : Int).toNat * 3 + 1, none⟩ = some (.int .i64 ((rd_T53 x3_1 (ji20)).f1)) := hcc24 1 _ rfl
                          have hx24_2 : wc.cell? ⟨go24, ((ji20) : Int).toNat * 3 + 2, none⟩ = some (.int .i64 ((rd_T53 x3_1 (ji20)).f2)) := hcc24 2 _ rfl
                          have hf24_0 : wc.frozen? ⟨go24, ((ji20) : Int).toNat * 3, none⟩ = false := hfr24 0
                          have hf24_1 : wc.frozen? ⟨go24, ((ji20) : Int).toNat * 3 + 1, none⟩ = false := hfr24 1
                          have hf24_2 : wc.frozen? ⟨go24, ((ji20) : Int).toNat * 3 + 2, none⟩ = false := hfr24 2
                          clear hcl24 hcc24 hfr24 hM24
                          replace p24 := eq_true p24
                          replace q24 := eq_true q24
                          have HX26 := Aside0.mk (show Kd.R k53 53 wc w.heap.size (fun _ => True) (.slice (some ⟨go24, 0, none⟩) x3_1.length co6) x3_1 from (by (with_reducible repeat (first | apply Kd.R_alloc | apply Kd.R_drewN | apply Kd.R_drew)); exact HO_3.out))
                          obtain ⟨ce26, hcl26, hM26, hcc26, hfr26⟩ := Kd.R_elem HX26.out z53 ((ji20) : Int) (of_decide_eq_true (by first | (with_reducible assumption) | assumption)) (by have h_ : ((ji20) : Int) < ((x3_1.length : Int) : Int) := of_decide_eq_true (by first | (with_reducible assumption) | assumption); first | exact h_ | (have e_ := (Kd.R_reads' HO_3.out).1; omega) | simpa using h_)
                          obtain rfl := k53_openM hM26
                          have HP26 := Kd.R_seg HX26.out ((ji20) : Int) (of_decide_eq_true (by first | (with_reducible assumption) | assumption)) (by have h_ : ((ji20) : Int) < ((x3_1.length : Int) : Int) := of_decide_eq_true (by first | (with_reducible assumption) | assumption); first | exact h_ | (have e_ := (Kd.R_reads' HO_3.out).1; omega) | simpa using h_) (seg := [.int .i64 (wrap64 (x9_1 + 1))]) (j := 1) hcl26 hcc26 (show 2 ≤ 3 from by decide) (x' := (⟨(rd_T53 x3_1 (ji20)).f0, wrap64 (x9_1 + 1), (rd_T53 x3_1 (ji20)).f2⟩ : S53)) (k53_mkM _ _ _ (⟨(rd_T53 x3_1 (ji20)).f0, wrap64 (x9_1 + 1), (rd_T53 x3_1 (ji20)).f2⟩ : S53) ) (fun _ hk => hk)
                          have hx26_1 := hcc26 1 _ rfl
                          (try simp only [show (k53).sz = 3 from rfl, Nat.mul_one, Nat.add_zero] at hx26_1)
                          have hf26_1 := hfr26 1
                          (try simp only [show (k53).sz = 3 from rfl, Nat.mul_one, Nat.add_zero] at hf26_1)
                          clear hcl26 hcc26 hfr26 hM26
                          go_wp2_with (first | ((with_reducible refine gate_store (t := 3) (p := 66) rfl ?_); refine store_event (t := 3) (p := 66) (v := ?vo_w27) (w1 := (wc.setCell ⟨go24, ((ji20) : Int).toNat * 3 + 1, none⟩ (.int .i64 (wrap64 (x9_1 + 1))))) ?hg ?ho ?hn ?hr ?_; (case ho => rfl); (case hg => rfl); (case hn => rfl); (case hr => first | (go_simp; done) | (go_simp; rfl)); intro w27 hw; have hg : wc.grownBy w27 (some go24) := (by rw [hw]; exact HP26.2); have hp_ : Kd.R k53 53 w27 w.heap.size (fun _ => True) (.slice (some ⟨go24, 0, none⟩) x3_1.length co6) y616 := (by rw [hw, Ny616.out]; exact HP26.1); clear HP26; have n0_ := Aside0.mk (hp_); have n1_ := Aside0.mk ((by rw [hw]; exact below_set (HB.out) GB24.out : Below w.heap.size w w27)); clear HO_3; clear HB; have HO_3 := n0_; have HB := n1_; clear n0_ n1_; clear hg hw hp_; have p25 : 0 ≤ ((ji20) : Int) := of_decide_eq_true (by first | (with_reducible assumption) | assumption); have q25 : ((ji20) : Int) < ((x3_1.length : Int) : Int) := of_decide_eq_true (by first | (with_reducible assumption) | assumption); obtain ⟨ce25, hcl25, hM25, hcc25, hfr25⟩ := Kd.R_elem HO_3.out z53 ((ji20) : Int) p25 q25; obtain rfl := k53_openM hM25; have hx25_0 : w27.cell? ⟨go24, ((ji20) : Int).toNat * 3, none⟩ = some (.int .i64 ((rd_T53 y616 (ji20)).f0)) := hcc25 0 _ rfl; have hx25_1 : w27.cell? ⟨go24, ((ji20) : Int).toNat * 3 + 1, none⟩ = some (.int .i64 ((rd_T53 y616 (ji20)).f1)) := hcc25 1 _ rfl; have hx25_2 : w27.cell? ⟨go24, ((ji20) : Int).toNat * 3 + 2, none⟩ = some (.int .i64 ((rd_T53 y616 (ji20)).f2)) := hcc25 2 _ rfl; have hf25_0 : w27.frozen? ⟨go24, ((ji20) : Int).toNat * 3, none⟩ = false := hfr25 0; have hf25_1 : w27.frozen? ⟨go24, ((ji20) : Int).toNat * 3 + 1, none⟩ = false := hfr25 1; have hf25_2 : w27.frozen? ⟨go24, ((ji20) : Int).toNat * 3 + 2, none⟩ = false := hfr25 2; clear hcl25 hcc25 hfr25 hM25; replace p25 := eq_true p25; replace q25 := eq_true q25; have HX28 := Aside0.mk (show Kd.R k53 53 w27 w.heap.size (fun _ => True) (.slice (some ⟨go24, 0, none⟩) x3_1.length co6) y616 from (by (with_reducible repeat (first | apply Kd.R_alloc | apply Kd.R_drewN | apply Kd.R_drew)); exact HO_3.out)); obtain ⟨ce28, hcl28, hM28, hcc28, hfr28⟩ := Kd.R_elem HX28.out z53 ((ji20) : Int) (of_decide_eq_true (by first | (with_reducible assumption) | assumption)) (by have h_ : ((ji20) : Int) < ((x3_1.length : Int) : Int) := of_decide_eq_true (by first | (with_reducible assumption) | assumption); first | exact h_ | (have e_ := (Kd.R_reads' HO_3.out).1; omega) | simpa using h_); obtain rfl := k53_openM hM28; have HP28 := Kd.R_seg HX28.out ((ji20) : Int) (of_decide_eq_true (by first | (with_reducible assumption) | assumption)) (by have h_ : ((ji20) : Int) < ((x3_1.length : Int) : Int) := of_decide_eq_true (by first | (with_reducible assumption) | assumption); first | exact h_ | (have e_ := (Kd.R_reads' HO_3.out).1; omega) | simpa using h_) (seg := [.int .i64 (rd l0 x9_1)]) (j := 2) hcl28 hcc28 (show 3 ≤ 3 from by decide) (x' := (⟨(rd_T53 y616 (ji20)).f0, (rd_T53 y616 (ji20)).f1, (rd l0 x9_1)⟩ : S53)) (k53_mkM _ _ _ (⟨(rd_T53 y616 (ji20)).f0, (rd_T53 y616 (ji20)).f1, (rd l0 x9_1)⟩ : S53) ) (fun _ hk => hk); have hx28_2 := hcc28 2 _ rfl; (try simp only [show (k53).sz = 3 from rfl, Nat.mul_one, Nat.add_zero] at hx28_2); have hf28_2 := hfr28 2; (try simp only [show (k53).sz = 3 from rfl, Nat.mul_one, Nat.add_zero] at hf28_2); clear hcl28 hcc28 hfr28 hM28) | ((with_reducible refine gate_store (t := 3) (p := 68) rfl ?_); refine store_event (t := 3) (p := 68) (v := ?vo_w29) (w1 := (w27.setCell ⟨go24, ((ji20) : Int).toNat * 3 + 2, none⟩ (.int .i64 (rd l0 x9_1)))) ?hg ?ho ?hn ?hr ?_; (case ho => rfl); (case hg => rfl); (case hn => rfl); (case hr => first | (go_simp; done) | (go_simp; rfl)); intro w29 hw; have hg : w27.grownBy w29 (some go24) := (by rw [hw]; exact HP28.2); have hp_ : Kd.R k53 53 w29 w.heap.size (fun _ => True) (.slice (some ⟨go24, 0, none⟩) x3_1.length co6) y617 := (by rw [hw, Ny617.out]; exact HP28.1); clear HP28; have n0_ := Aside0.mk (hp_); have n1_ := Aside0.mk ((by rw [hw]; exact below_set (HB.out) GB24.out : Below w.heap.size w w29)); clear HO_3; clear HB; have HO_3 := n0_; have HB := n1_; clear n0_ n1_; clear hg hw hp_))
                          go_roundg kj4
                          case measure => have := HK1.out; have := HJ4.out; omega
                          case rel => exact ⟨(y617), (wrap64 (x9_1 + 1)), (by first | rfl | (simp; done) | (simp [*]; done)), H', ⟨by have := HK1.out; have := HJ4.out; omega⟩, ⟨by (with_reducible repeat (first | apply Kd.R_alloc | apply Kd.R_drewN | apply Kd.R_drew)); exact HO_3.out⟩, ⟨by repeat (first | (with_reducible first | exact HB.out | apply below_alloc | apply pw_below_drewN | apply below_drew1) | exact HB.out)⟩⟩
                        · rw [if_neg c23] at H
                          have c23b0 : (((rd_T53 x3_1 (ji20)).f2) == (-1)) = false := beq_eq_false_iff_ne.mpr c23
                          have c23b1 : (((rd_T53 x3_1 (ji20)).f2) != (-1)) = true := bne_iff_ne.mpr c23
                          by_cases c30 : x3_1.length < 5864062014805
                          · rw [if_pos c30] at H
                            have LMc30 := Aside0.mk c30
                            clear c30
                            obtain ⟨y618, hy618⟩ : ∃ y_ : List (S53), y_ = (x3_1 ++ [(⟨x9_1, wrap64 (x9_1 + 1), (rd l0 x9_1)⟩ : S53)]) := ⟨_, rfl⟩
                            replace H : (impl_runsOf.l0 kj4 y618 l0 (l0.length : Int) (wrap64 (x9_1 + 1))) = some r := by first | (rw [hy618]; with_reducible exact H) | (have H2_ := (Option.bind_some _ _).symm.trans H; rw [hy618]; with_reducible exact H2_) | (have H2_ := (Option.bind_some _ _).symm.trans H; with_reducible exact H2_) | with_reducible exact H | (rw [hy618]; exact H) | exact H
                            have Ny618 := Aside0.mk hy618
                            clear hy618
                            have H' := Aside0.mk H
                            clear H
                            have p615 : 0 ≤ ((ji20) : Int) := of_decide_eq_true (by first | (with_reducible assumption) | assumption)
                            have q615 : (ji20) < (x3_1.length : Int) := of_decide_eq_true (by first | (with_reducible assumption) | assumption)
                            obtain ⟨ad615, e615, hx615_0, hx615_1, hx615_2⟩ := at_T53 (Kd.R_reads' HO_3.out).2.2 (ji20) p615 q615
                            cases e615
                            replace p615 := eq_true p615
                            replace q615 := eq_true q615
                            go_wp2_with (first | ((with_reducible refine gate_builtin (b := .append) (xs := #[.tmp 17, .tmp 23]) rfl ?_); at_builtin; refine Kd.R_append k53 (w0 := w) w.heap.size rfl (.tmp 17) (.tmp 23) 48 53 (.agg #[(.int .i64 0), (.int .i64 0), (.int .i64 0)]) 24 rfl Try.underlying48 info53 rfl (by decide) (by omega) (.slice (some ad615) x3_1.length co6) x3_1 (⟨x9_1, wrap64 (x9_1 + 1), (rd l0 x9_1)⟩ : S53) [.int .i64 x9_1, .int .i64 (wrap64 (x9_1 + 1)), .int .i64 (rd l0 x9_1)] (fun _ => True) (fun _ => False) rfl rfl ?aP (fun _ hk => hk.elim) ?aF ?aO ?aB ?aS ?aL ?_; (case aP => exact k53_mkM _ _ _ (⟨x9_1, wrap64 (x9_1 + 1), (rd l0 x9_1)⟩ : S53)); (case aB => exact (by repeat (first | (with_reducible first | exact HB.out | apply below_alloc | apply pw_below_drewN | apply below_drew1) | exact HB.out))); (case aF => exact (fun _ _ => trivial)); (case aO => exact (by (with_reducible repeat (first | apply Kd.R_alloc | apply Kd.R_drewN | apply Kd.R_drew)); exact HO_3.out)); (case aS => exact (below_size (by repeat (first | (with_reducible first | exact HB.out | apply below_alloc | apply pw_below_drewN | apply below_drew1) | exact HB.out)))); (case aL => have := LMc30.out; omega); intro v619 w31 ho hb hg hat; rw [← Ny618.out] at ho; have n0_ := Aside0.mk (hb); have n1_ := Aside0.mk (ho); clear HB; clear HO_3; have HB := n0_; have HO620 := n1_; clear n0_ n1_; clear ho hb hg hat))
                            go_roundg kj4
                            case measure => have := HK1.out; have := HJ4.out; omega
                            case rel => exact ⟨(y618), (wrap64 (x9_1 + 1)), (by first | rfl | (simp; done) | (simp [*]; done)), H', ⟨by have := HK1.out; have := HJ4.out; omega⟩, ⟨by (with_reducible repeat (first | apply Kd.R_alloc | apply Kd.R_drewN | apply Kd.R_drew)); exact HO620.out⟩, ⟨by repeat (first | (with_reducible first | exact HB.out | apply below_alloc | apply pw_below_drewN | apply below_drew1) | exact HB.out)⟩⟩
                          · rw [if_neg c30] at H
                            exact absurd H (by simp)
                      · rw [if_neg c22] at H
                        exact absurd H (by simp)
                    · rw [if_neg c21] at H
                      exact absurd H (by simp)
                  · rw [if_neg c19] at H
                    have c19b0 : decide (0 ≤ (wrap64 ((x3_1.length : Int) - 1))) = false := decide_eq_false c19
                    clear c19
                    by_cases c32 : x3_1.length < 5864062014805
                    · rw [if_pos c32] at H
                      have LMc32 := Aside0.mk c32
                      clear c32
                      obtain ⟨y621, hy621⟩ : ∃ y_ : List (S53), y_ = (x3_1 ++ [(⟨x9_1, wrap64 (x9_1 + 1), (rd l0 x9_1)⟩ : S53)]) := ⟨_, rfl⟩
                      replace H : (impl_runsOf.l0 kj4 y621 l0 (l0.length : Int) (wrap64 (x9_1 + 1))) = some r := by first | (rw [hy621]; with_reducible exact H) | (have H2_ := (Option.bind_some _ _).symm.trans H; rw [hy621]; with_reducible exact H2_) | (have H2_ := (Option.bind_some _ _).symm.trans H; with_reducible exact H2_) | with_reducible exact H | (rw [hy621]; exact H) | exact H
                      have Ny621 := Aside0.mk hy621
                      clear hy621
                      have H' := Aside0.mk H
                      clear H
                      go_wp2_with (first | ((with_reducible refine gate_builtin (b := .append) (xs := #[.tmp 17, .tmp 23]) rfl ?_); at_builtin; refine Kd.R_append k53 (w0 := w) w.heap.size rfl (.tmp 17) (.tmp 23) 48 53 (.agg #[(.int .i64 0), (.int .i64 0), (.int .i64 0)]) 24 rfl Try.underlying48 info53 rfl (by decide) (by omega) (.slice Ao6 x3_1.length co6) x3_1 (⟨x9_1, wrap64 (x9_1 + 1), (rd l0 x9_1)⟩ : S53) [.int .i64 x9_1, .int .i64 (wrap64 (x9_1 + 1)), .int .i64 (rd l0 x9_1)] (fun _ => True) (fun _ => False) rfl rfl ?aP (fun _ hk => hk.elim) ?aF ?aO ?aB ?aS ?aL ?_; (case aP => exact k53_mkM _ _ _ (⟨x9_1, wrap64 (x9_1 + 1), (rd l0 x9_1)⟩ : S53)); (case aB => exact (by repeat (first | (with_reducible first | exact HB.out | apply below_alloc | apply pw_below_drewN | apply below_drew1) | exact HB.out))); (case aF => exact (fun _ _ => trivial)); (case aO => exact (by (with_reducible repeat (first | apply Kd.R_alloc | apply Kd.R_drewN | apply Kd.R_drew)); exact HO_3.out)); (case aS => exact (below_size (by repeat (first | (with_reducible first | exact HB.out | apply below_alloc | apply pw_below_drewN | apply below_drew1) | exact HB.out)))); (case aL => have := LMc32.out; omega); intro v622 w33 ho hb hg hat; rw [← Ny621.out] at ho; have n0_ := Aside0.mk (hb); have n1_ := Aside0.mk (ho); clear HB; clear HO_3; have HB := n0_; have HO623 := n1_; clear n0_ n1_; clear ho hb hg hat))
                      go_roundg kj4
                      case measure => have := HK1.out; have := HJ4.out; omega
                      case rel => exact ⟨(y621), (wrap64 (x9_1 + 1)), (by first | rfl | (simp; done) | (simp [*]; done)), H', ⟨by have := HK1.out; have := HJ4.out; omega⟩, ⟨by (with_reducible repeat (first | apply Kd.R_alloc | apply Kd.R_drewN | apply Kd.R_drew)); exact HO623.out⟩, ⟨by repeat (first | (with_reducible first | exact HB.out | apply below_alloc | apply pw_below_drewN | apply below_drew1) | exact HB.out)⟩⟩
                    · rw [if_neg c32] at H
                      exact absurd H (by simp)
          · rw [if_neg c4] at H
            exact absurd H (by simp)
        · rw [if_neg c3] at H
          exact absurd H (by simp)
      · rw [if_neg c2] at H
        have c2b0 : decide (x9_1 < (l0.length : Int)) = false := decide_eq_false c2
        clear c2
        obtain rfl := Option.some.inj H
        go_wp2
        go_ret
        exact ⟨_, by first | rfl | (simp [errW_none, errW_some] <;> rfl) | (simp [*, errW_none, errW_some] <;> rfl), by (with_reducible repeat (first | apply Kd.R_alloc | apply Kd.R_drewN | apply Kd.R_drew)); exact HO_3.out, by repeat (first | (with_reducible first | exact HB.out | apply below_alloc | apply pw_below_drewN | apply below_drew1) | exact HB.out)⟩

end Go.Proofs.Ytoafenblaioopaa.S

namespace Go.Proofs.Ytoafenblaioopaa.S
open Go.RowKit Go.Proofs.YtoafenblaioopaaW.PrintWords Go.Proofs.YtoafenblaioopaaW.PrintLast Go.Proofs.YtoafenblaioopaaW.PrintMore
attribute [local go_sem] max2_int min2_int max_two min_two max_three min_three max_four min_four   -- for this text's walks alone
set_option linter.unusedVariables false
set_option linter.unusedSimpArgs false

/-! ### impl_RunsOf: function 73 -/
def impl_RunsOf.f (k : Nat) (l0 : List Int) : Option ((List (S53))) := (impl_levelsOk.f l0).bind fun t624 => (if t624 = true then ((impl_runsOf.f k l0).bind fun t625 => (some t625)) else (some ([] : List (S53))))
theorem impl_RunsOf.mono : ∀ a0 k, LeO (impl_RunsOf.f k a0) (impl_RunsOf.f (k + 1) a0) := by
  intro a0 k
  unfold impl_RunsOf.f
  repeat' first
      | (with_reducible exact impl_runsOf.mono _ _)
      | (with_reducible exact LeO.refl _)
      | (with_reducible exact LeO.none _)
      | (with_reducible refine LeO.ite ?_ ?_)
      | (with_reducible refine LeO.bind ?_ (fun _ => ?_))
      | exact impl_runsOf.mono _ _
      | exact LeO.none _
      | refine LeO.ite ?_ ?_
      | refine LeO.bind ?_ (fun _ => ?_)
set_option maxHeartbeats 8000000 in
set_option maxRecDepth 100000 in
theorem impl_RunsOf.calls (k : Nat) (A0 : Option Addr) (c0 : Nat) (l0 : List Int) (r : List (S53)) (w : World) (hr0 : Kd.C (Kd.int .i64) w A0 l0.length l0) (hc0 : l0.length ≤ c0) (h : impl_RunsOf.f k l0 = some r) :
    Calls Try.prog 73 #[.slice A0 l0.length c0] w fun e w' => ∃ v0_ : Value, e = .returned (v0_) ∧ Kd.R k53 53 w' w.heap.size (fun _ => True) v0_ r ∧ Below w.heap.size w w' := by
  have HR0 := Aside0.mk hr0
  have HC0 := Aside0.mk hc0
  clear hr0 hc0
  have HB := Aside0.mk (Below.refl w.heap.size w)
  have H : ((impl_levelsOk.f l0).bind fun t624 => (if t624 = true then ((impl_runsOf.f k l0).bind fun t625 => (some t625)) else (some ([] : List (S53))))) = some r := h
  clear h
  replace H := Option.bind_eq_some_iff.mp H
  obtain ⟨t624, A20, H⟩ := H
  replace H : (if t624 = true then ((impl_runsOf.f k l0).bind fun t625 => (some t625)) else (some ([] : List (S53)))) = some r := H
  have A2 := Aside0.mk A20
  clear A20
  by_cases c3 : t624 = true
  · subst c3
    have H1 : ((impl_runsOf.f k l0).bind fun t625 => (some t625)) = some r := by rw [if_pos rfl] at H; exact H
    clear H
    have H := H1
    clear H1
    replace H := Option.bind_eq_some_iff.mp H
    obtain ⟨t625, A40, H⟩ := H
    replace H : (some t625) = some r := H
    have A4 := Aside0.mk A40
    clear A40
    obtain rfl := Option.some.inj H
    go_enter Try.func73, Try.ntmps73
    go_wp2_with (first | ((with_reducible refine gate_callee (f := 101) rfl ?_); refine goesL_ (some 4) rfl rfl Try.func101 (by kernel_rfl) rfl #[.slice A0 l0.length c0] rfl (by (try simp only [List.map_toArray, List.map_cons, List.map_nil]); first | done | rfl | (simp only [List.length_drop, List.length_take]; rfl)) ?_; (with_reducible refine (impl_levelsOk.calls _ _ l0 true _ ?side1 ?side2 A2.out).mono ?_); (case side1 => repeat (first | exact HR0.out | (with_reducible refine Kd.C_alloc ?_ _) | (with_reducible refine Kd.C_drewN ?_ _) | (with_reducible refine Kd.C_drew ?_))); (case side2 => exact HC0.out); rintro e w5 ⟨rfl, hb⟩; refine ⟨_, rfl, ?_⟩; have n0_ := Aside0.mk (below_step (by repeat (first | (with_reducible first | exact HB.out | apply below_alloc | apply pw_below_drewN | apply below_drew1) | exact HB.out)) hb); clear HB; have HB := n0_; clear n0_; (try clear hb); (try clear hb2); (try clear hk); (try clear hi)) | ((with_reducible refine gate_callee (f := 102) rfl ?_); refine goesL_ (some 7) rfl rfl Try.func102 (by kernel_rfl) rfl #[.slice A0 l0.length c0] rfl (by (try simp only [List.map_toArray, List.map_cons, List.map_nil]); first | done | rfl | (simp only [List.length_drop, List.length_take]; rfl)) ?_; (with_reducible refine (impl_runsOf.calls k _ _ l0 t625 _ ?side1 ?side2 A4.out).mono ?_); (case side1 => repeat (first | exact (Kd.C_below HR0.out HB.out) | (with_reducible refine Kd.C_alloc ?_ _) | (with_reducible refine Kd.C_drewN ?_ _) | (with_reducible refine Kd.C_drew ?_))); (case side2 => exact HC0.out); rintro e w6 ⟨v626, rfl, ho0, hb⟩; refine ⟨_, rfl, ?_⟩; have n0_ := Aside0.mk (Kd.R_lower ho0 (below_size (by repeat (first | (with_reducible first | exact HB.out | apply below_alloc | apply pw_below_drewN | apply below_drew1) | exact HB.out)))); have n1_ := Aside0.mk (below_step (by repeat (first | (with_reducible first | exact HB.out | apply below_alloc | apply pw_below_drewN | apply below_drew1) | exact HB.out)) hb); clear HB; have HO627 := n0_; have HB := n1_; clear n0_ n1_; (try clear hb); (try clear hb2); (try clear hk); (try clear hi); (try clear ho0)))
    go_ret
    exact ⟨_, by first | rfl | (simp [errW_none, errW_some] <;> rfl) | (simp [*, errW_none, errW_some] <;> rfl), by (with_reducible repeat (first | apply Kd.R_alloc | apply Kd.R_drewN | apply Kd.R_drew)); exact HO627.out, by repeat (first | (with_reducible first | exact HB.out | apply below_alloc | apply pw_below_drewN | apply below_drew1) | exact HB.out)⟩
  · replace c3 := Bool.eq_false_iff.mpr c3
    subst c3
    have H1 : (some ([] : List (S53))) = some r := by rw [if_neg (show ¬ (false = true) by decide)] at H; exact H
    clear H
    have H := H1
    clear H1
    obtain rfl := Option.some.inj H
    go_enter Try.func73, Try.ntmps73
    go_wp2_with (first | ((with_reducible refine gate_callee (f := 101) rfl ?_); refine goesL_ (some 4) rfl rfl Try.func101 (by kernel_rfl) rfl #[.slice A0 l0.length c0] rfl (by (try simp only [List.map_toArray, List.map_cons, List.map_nil]); first | done | rfl | (simp only [List.length_drop, List.length_take]; rfl)) ?_; (with_reducible refine (impl_levelsOk.calls _ _ l0 false _ ?side1 ?side2 A2.out).mono ?_); (case side1 => repeat (first | exact HR0.out | (with_reducible refine Kd.C_alloc ?_ _) | (with_reducible refine Kd.C_drewN ?_ _) | (with_reducible refine Kd.C_drew ?_))); (case side2 => exact HC0.out); rintro e w7 ⟨rfl, hb⟩; refine ⟨_, rfl, ?_⟩; have n0_ := Aside0.mk (below_step (by repeat (first | (with_reducible first | exact HB.out | apply below_alloc | apply pw_below_drewN | apply below_drew1) | exact HB.out)) hb); clear HB; have HB := n0_; clear n0_; (try clear hb); (try clear hb2); (try clear hk); (try clear hi)))
    go_ret
    exact ⟨_, by first | rfl | (simp [errW_none, errW_some] <;> rfl) | (simp [*, errW_none, errW_some] <;> rfl), by first | exact Kd.R_nil _ _ _ _ _ | exact Kd.N_nil _ _ _ _ _ | exact Kd.V_nil _ _ _ _ _ | exact Kd.Q_nil _ _ _ _ _ | exact Kd.S_nil _ _ _ _ _, by repeat (first | (with_reducible first | exact HB.out | apply below_alloc | apply pw_below_drewN | apply below_drew1) | exact HB.out)⟩

end Go.Proofs.Ytoafenblaioopaa.S

namespace Go.Proofs.Ytoafenblaioopaa.S
open Go.RowKit Go.Proofs.YtoafenblaioopaaW.PrintWords Go.Proofs.YtoafenblaioopaaW.PrintLast Go.Proofs.YtoafenblaioopaaW.PrintMore
attribute [local go_sem] max2_int min2_int max_two min_two max_three min_three max_four min_four   -- for this text's walks alone
set_option linter.unusedVariables false
set_option linter.unusedSimpArgs false

/-! ### impl_ScriptRuns: function 38 -/
def impl_ScriptRuns.f (k : Nat) (l0 : List Int) : Option ((List (S53))) := (impl_ScriptsOf.f l0).bind fun t628 => ((impl_RunsOf.f k t628).bind fun t631 => (some t631))
theorem impl_ScriptRuns.mono : ∀ a0 k, LeO (impl_ScriptRuns.f k a0) (impl_ScriptRuns.f (k + 1) a0) := by
  intro a0 k
  unfold impl_ScriptRuns.f
  repeat' first
      | (with_reducible exact impl_RunsOf.mono _ _)
      | (with_reducible exact LeO.refl _)
      | (with_reducible exact LeO.none _)
      | (with_reducible refine LeO.ite ?_ ?_)
      | (with_reducible refine LeO.bind ?_ (fun _ => ?_))
      | exact impl_RunsOf.mono _ _
      | exact LeO.none _
      | refine LeO.ite ?_ ?_
      | refine LeO.bind ?_ (fun _ => ?_)
set_option maxHeartbeats 8000000 in
set_option maxRecDepth 100000 in
theorem impl_ScriptRuns.calls (k : Nat) (A0 : Option Addr) (c0 : Nat) (l0 : List Int) (r : List (S53)) (w : World) (hr0 : Kd.C (Kd.int .i64) w A0 l0.length l0) (hc0 : l0.length ≤ c0) (h : impl_ScriptRuns.f k l0 = some r) :
    Calls Try.prog 38 #[.slice A0 l0.length c0] w fun e w' => ∃ v0_ : Value, e = .returned (v0_) ∧ Kd.R k53 53 w' w.heap.size (fun _ => True) v0_ r ∧ Below w.heap.size w w' := by
  have HR0 := Aside0.mk hr0
  have HC0 := Aside0.mk hc0
  clear hr0 hc0
  have HB := Aside0.mk (Below.refl w.heap.size w)
  have H : ((impl_ScriptsOf.f l0).bind fun t628 => ((impl_RunsOf.f k t628).bind fun t631 => (some t631))) = some r := h
  clear h
  replace H := Option.bind_eq_some_iff.mp H
  obtain ⟨t628, A20, H⟩ := H
  replace H : ((impl_RunsOf.f k t628).bind fun t631 => (some t631)) = some r := H
  have A2 := Aside0.mk A20
  clear A20
  replace H := Option.bind_eq_some_iff.mp H
  obtain ⟨t631, A30, H⟩ := H
  replace H : (some t631) = some r := H
  have A3 := Aside0.mk A30
  clear A30
  obtain rfl := Option.some.inj H
  go_enter Try.func38, Try.ntmps38
  go_wp2_with (first | ((with_reducible refine gate_callee (f := 24) rfl ?_); refine goesL_ (some 4) rfl rfl Try.func24 (by kernel_rfl) rfl #[.slice A0 l0.length c0] rfl (by (try simp only [List.map_toArray, List.map_cons, List.map_nil]); first | done | rfl | (simp only [List.length_drop, List.length_take]; rfl)) ?_; (with_reducible refine (impl_ScriptsOf.calls _ _ l0 t628 _ ?side1 ?side2 A2.out).mono ?_); (case side1 => repeat (first | exact HR0.out | (with_reducible refine Kd.C_alloc ?_ _) | (with_reducible refine Kd.C_drewN ?_ _) | (with_reducible refine Kd.C_drew ?_))); (case side2 => exact HC0.out); rintro e w4 ⟨v629, rfl, ho0, hb⟩; refine ⟨_, rfl, ?_⟩; have n0_ := Aside0.mk (Kd.R_lower ho0 (below_size (by repeat (first | (with_reducible first | exact HB.out | apply below_alloc | apply pw_below_drewN | apply below_drew1) | exact HB.out)))); have n1_ := Aside0.mk (below_step (by repeat (first | (with_reducible first | exact HB.out | apply below_alloc | apply pw_below_drewN | apply below_drew1) | exact HB.out)) hb); clear HB; have HO630 := n0_; have HB := n1_; clear n0_ n1_; (try clear hb); (try clear hb2); (try clear hk); (try clear hi); (try clear ho0); obtain ⟨Ao5, co5, eo5⟩ := Kd.R_slice HO630.out; subst eo5) | ((with_reducible refine gate_callee (f := 73) rfl ?_); refine goesL_ (some 5) rfl rfl Try.func73 (by kernel_rfl) rfl #[.slice Ao5 t628.length co5] rfl (by (try simp only [List.map_toArray, List.map_cons, List.map_nil]); first | done | rfl | (simp only [List.length_drop, List.length_take]; rfl)) ?_; (with_reducible refine (impl_RunsOf.calls k _ _ t628 t631 _ ?side1 ?side2 A3.out).mono ?_); (case side1 => repeat (first | exact (Kd.R_reads' HO630.out).2.2 | (with_reducible refine Kd.C_alloc ?_ _) | (with_reducible refine Kd.C_drewN ?_ _) | (with_reducible refine Kd.C_drew ?_))); (case side2 => exact (Kd.R_reads' HO630.out).2.1); rintro e w6 ⟨v632, rfl, ho0, hb⟩; refine ⟨_, rfl, ?_⟩; have n0_ := Aside0.mk (Kd.R_below (by (with_reducible repeat (first | apply Kd.R_alloc | apply Kd.R_drewN | apply Kd.R_drew)); exact HO630.out) hb); have n1_ := Aside0.mk (Kd.R_lower ho0 (below_size (by repeat (first | (with_reducible first | exact HB.out | apply below_alloc | apply pw_below_drewN | apply below_drew1) | exact HB.out)))); have n2_ := Aside0.mk (below_step (by repeat (first | (with_reducible first | exact HB.out | apply below_alloc | apply pw_below_drewN | apply below_drew1) | exact HB.out)) hb); clear HO630; clear HB; have HO630 := n0_; have HO633 := n1_; have HB := n2_; clear n0_ n1_ n2_; (try clear hb); (try clear hb2); (try clear hk); (try clear hi); (try clear ho0)))
  go_ret
  exact ⟨_, by first | rfl | (simp [errW_none, errW_some] <;> rfl) | (simp [*, errW_none, errW_some] <;> rfl), by (with_reducible repeat (first | apply Kd.R_alloc | apply Kd.R_drewN | apply Kd.R_drew)); exact HO633.out, by repeat (first | (with_reducible first | exact HB.out | apply below_alloc | apply pw_below_drewN | apply below_drew1) | exact HB.out)⟩

end Go.Proofs.Ytoafenblaioopaa.S

namespace Go.Proofs.Ytoafenblaioopaa.S
open Go.RowKit Go.Proofs.YtoafenblaioopaaW.PrintWords Go.Proofs.YtoafenblaioopaaW.PrintLast Go.Proofs.YtoafenblaioopaaW.PrintMore
attribute [local go_sem] max2_int min2_int max_two min_two max_three min_three max_four min_four   -- for this text's walks alone
set_option linter.unusedVariables false
set_option linter.unusedSimpArgs false

/-! ### laws_eqRun: function 74 -/
def laws_eqRun.f (a0_0 : Int) (a0_1 : Int) (a0_2 : Int) (a1_0 : Int) (a1_1 : Int) (a1_2 : Int) : Option (Bool) := if a0_0 = a1_0 then (if a0_1 = a1_1 then (if a0_2 = a1_2 then (some true) else (some false)) else (some false)) else (some false)
set_option maxHeartbeats 8000000 in
set_option maxRecDepth 100000 in
theorem laws_eqRun.calls (a0_0 : Int) (a0_1 : Int) (a0_2 : Int) (a1_0 : Int) (a1_1 : Int) (a1_2 : Int) (r : Bool) (w : World) (h : laws_eqRun.f a0_0 a0_1 a0_2 a1_0 a1_1 a1_2 = some r) :
    Calls Try.prog 74 #[.agg #[.int .i64 a0_0, .int .i64 a0_1, .int .i64 a0_2], .agg #[.int .i64 a1_0, .int .i64 a1_1, .int .i64 a1_2]] w fun e w' => e = .returned (.bool r) ∧ Below w.heap.size w w' := by
  have hu53 := Try.underlying53
  have HB := Aside0.mk (Below.refl w.heap.size w)
  have H : (if a0_0 = a1_0 then (if a0_1 = a1_1 then (if a0_2 = a1_2 then (some true) else (some false)) else (some false)) else (some false)) = some r := h
  clear h
  by_cases c3 : a0_0 = a1_0
  · rw [if_pos c3] at H
    have c3b0 : (a0_0 == a1_0) = true := beq_iff_eq.mpr c3
    have c3b1 : (a0_0 != a1_0) = false := bne_eq_false_iff_eq.mpr c3
    clear c3
    by_cases c4 : a0_1 = a1_1
    · rw [if_pos c4] at H
      have c4b0 : (a0_1 == a1_1) = true := beq_iff_eq.mpr c4
      have c4b1 : (a0_1 != a1_1) = false := bne_eq_false_iff_eq.mpr c4
      clear c4
      by_cases c5 : a0_2 = a1_2
      · rw [if_pos c5] at H
        have c5b0 : (a0_2 == a1_2) = true := beq_iff_eq.mpr c5
        have c5b1 : (a0_2 != a1_2) = false := bne_eq_false_iff_eq.mpr c5
        clear c5
        obtain rfl := Option.some.inj H
        go_enter Try.func74, Try.ntmps74
        go_wp2_with (first | ((with_reducible refine gate_dst (N := 2) rfl ?_); refine box_event ?hg (N := 2) ?hd (cs := #[.int .i64 a0_0, .int .i64 a0_1, .int .i64 a0_2]) (t := 53) ?hr ?_; (case hd => rfl); (case hg => rfl); (case hr => first | (go_simp; done) | (go_simp; rfl)); intro gb634 hg w6 hbox hb; have n0_ := Aside0.mk (below_step (by repeat (first | (with_reducible first | exact HB.out | apply below_alloc | apply pw_below_drewN | apply below_drew1) | exact HB.out)) hb); have n1_ := Aside0.mk (hbox); have n2_ := Aside0.mk ((by rw [hg]; exact (below_size (by repeat (first | (with_reducible first | exact HB.out | apply below_alloc | apply pw_below_drewN | apply below_drew1) | exact HB.out))) : w.heap.size ≤ gb634)); have n3_ := Aside0.mk ((by rw [hg]; exact (below_size (by repeat (first | (with_reducible first | exact HB.out | apply below_alloc | apply pw_below_drewN | apply below_drew1) | exact HB.out))) : w.heap.size ≤ gb634)); clear HB; have HB := n0_; have BK634 := n1_; have GW634 := n2_; have GE634 := n3_; clear n0_ n1_ n2_ n3_; clear hb hbox hg) | ((with_reducible refine gate_dst (N := 3) rfl ?_); refine box_event ?hg (N := 3) ?hd (cs := #[.int .i64 a1_0, .int .i64 a1_1, .int .i64 a1_2]) (t := 53) ?hr ?_; (case hd => rfl); (case hg => rfl); (case hr => first | (go_simp; done) | (go_simp; rfl)); intro gb635 hg w7 hbox hb; have n0_ := Aside0.mk (blk_below (g := gb634) (o := .cells #[.int .i64 a0_0, .int .i64 a0_1, .int .i64 a0_2] 53 (0, 0)) (by (with_reducible repeat (first | refine blk_drewN ?_ _ | refine blk_drew ?_ | refine blk_alloc ?_ _)); exact BK634.out) hb); have n1_ := Aside0.mk (below_step (by repeat (first | (with_reducible first | exact HB.out | apply below_alloc | apply pw_below_drewN | apply below_drew1 | refine below_set ?_ GE634.out) | exact HB.out)) hb); have n2_ := Aside0.mk (hbox); have n3_ := Aside0.mk ((by rw [hg]; exact (below_size (by repeat (first | (with_reducible first | exact HB.out | apply below_alloc | apply pw_below_drewN | apply below_drew1 | refine below_set ?_ GE634.out) | exact HB.out))) : w.heap.size ≤ gb635)); have n4_ := Aside0.mk ((by rw [hg]; exact (below_size (by repeat (first | (with_reducible first | exact HB.out | apply below_alloc | apply pw_below_drewN | apply below_drew1 | refine below_set ?_ GE634.out) | exact HB.out))) : w.heap.size ≤ gb635)); have n5_ := Aside0.mk ((by rw [hg]; exact Nat.ne_of_lt (blk_lt (g := gb634) (o := .cells #[.int .i64 a0_0, .int .i64 a0_1, .int .i64 a0_2] 53 (0, 0)) (by (with_reducible repeat (first | refine blk_drewN ?_ _ | refine blk_drew ?_ | refine blk_alloc ?_ _)); exact BK634.out)) : gb634 ≠ gb635)); have n6_ := Aside0.mk ((by rw [hg]; exact Nat.ne_of_gt (blk_lt (g := gb634) (o := .cells #[.int .i64 a0_0, .int .i64 a0_1, .int .i64 a0_2] 53 (0, 0)) (by (with_reducible repeat (first | refine blk_drewN ?_ _ | refine blk_drew ?_ | refine blk_alloc ?_ _)); exact BK634.out)) : gb635 ≠ gb634)); clear BK634; clear HB; have BK634 := n0_; have HB := n1_; have BK635 := n2_; have GW635 := n3_; have GE635 := n4_; have NB634_635 := n5_; have NB635_634 := n6_; clear n0_ n1_ n2_ n3_ n4_ n5_ n6_; clear hb hbox hg; have hnb8 := NB634_635.out; have hnc8 := NB635_634.out; have hcz9_0 : w7.cell? ⟨gb634, 0, none⟩ = some (.int .i64 a0_0) := (blk_cell BK634.out 0).trans rfl; have hcz9_1 : w7.cell? ⟨gb634, 1, none⟩ = some (.int .i64 a0_1) := (blk_cell BK634.out 1).trans rfl; have hcz9_2 : w7.cell? ⟨gb634, 2, none⟩ = some (.int .i64 a0_2) := (blk_cell BK634.out 2).trans rfl; have hfz9_0 := blk_frozen BK634.out 0; have hfz9_1 := blk_frozen BK634.out 1; have hfz9_2 := blk_frozen BK634.out 2; have hcz10_0 : w7.cell? ⟨gb635, 0, none⟩ = some (.int .i64 a1_0) := (blk_cell BK635.out 0).trans rfl; have hcz10_1 : w7.cell? ⟨gb635, 1, none⟩ = some (.int .i64 a1_1) := (blk_cell BK635.out 1).trans rfl; have hcz10_2 : w7.cell? ⟨gb635, 2, none⟩ = some (.int .i64 a1_2) := (blk_cell BK635.out 2).trans rfl; have hfz10_0 := blk_frozen BK635.out 0; have hfz10_1 := blk_frozen BK635.out 1; have hfz10_2 := blk_frozen BK635.out 2))
        go_ret
        exact ⟨by first | rfl | (simp [errW_none, errW_some] <;> rfl) | (simp [*, errW_none, errW_some] <;> rfl), by repeat (first | (with_reducible first | exact HB.out | apply below_alloc | apply pw_below_drewN | apply below_drew1 | refine below_set ?_ GE634.out | refine below_set ?_ GE635.out) | exact HB.out)⟩
      · rw [if_neg c5] at H
        have c5b0 : (a0_2 == a1_2) = false := beq_eq_false_iff_ne.mpr c5
        have c5b1 : (a0_2 != a1_2) = true := bne_iff_ne.mpr c5
        obtain rfl := Option.some.inj H
        go_enter Try.func74, Try.ntmps74
        go_wp2_with (first | ((with_reducible refine gate_dst (N := 2) rfl ?_); refine box_event ?hg (N := 2) ?hd (cs := #[.int .i64 a0_0, .int .i64 a0_1, .int .i64 a0_2]) (t := 53) ?hr ?_; (case hd => rfl); (case hg => rfl); (case hr => first | (go_simp; done) | (go_simp; rfl)); intro gb634 hg w11 hbox hb; have n0_ := Aside0.mk (below_step (by repeat (first | (with_reducible first | exact HB.out | apply below_alloc | apply pw_below_drewN | apply below_drew1) | exact HB.out)) hb); have n1_ := Aside0.mk (hbox); have n2_ := Aside0.mk ((by rw [hg]; exact (below_size (by repeat (first | (with_reducible first | exact HB.out | apply below_alloc | apply pw_below_drewN | apply below_drew1) | exact HB.out))) : w.heap.size ≤ gb634)); have n3_ := Aside0.mk ((by rw [hg]; exact (below_size (by repeat (first | (with_reducible first | exact HB.out | apply below_alloc | apply pw_below_drewN | apply below_drew1) | exact HB.out))) : w.heap.size ≤ gb634)); clear HB; have HB := n0_; have BK634 := n1_; have GW634 := n2_; have GE634 := n3_; clear n0_ n1_ n2_ n3_; clear hb hbox hg) | ((with_reducible refine gate_dst (N := 3) rfl ?_); refine box_event ?hg (N := 3) ?hd (cs := #[.int .i64 a1_0, .int .i64 a1_1, .int .i64 a1_2]) (t := 53) ?hr ?_; (case hd => rfl); (case hg => rfl); (case hr => first | (go_simp; done) | (go_simp; rfl)); intro gb635 hg w12 hbox hb; have n0_ := Aside0.mk (blk_below (g := gb634) (o := .cells #[.int .i64 a0_0, .int .i64 a0_1, .int .i64 a0_2] 53 (0, 0)) (by (with_reducible repeat (first | refine blk_drewN ?_ _ | refine blk_drew ?_ | refine blk_alloc ?_ _)); exact BK634.out) hb); have n1_ := Aside0.mk (below_step (by repeat (first | (with_reducible first | exact HB.out | apply below_alloc | apply pw_below_drewN | apply below_drew1 | refine below_set ?_ GE634.out) | exact HB.out)) hb); have n2_ := Aside0.mk (hbox); have n3_ := Aside0.mk ((by rw [hg]; exact (below_size (by repeat (first | (with_reducible first | exact HB.out | apply below_alloc | apply pw_below_drewN | apply below_drew1 | refine below_set ?_ GE634.out) | exact HB.out))) : w.heap.size ≤ gb635)); have n4_ := Aside0.mk ((by rw [hg]; exact (below_size (by repeat (first | (with_reducible first | exact HB.out | apply below_alloc | apply pw_below_drewN | apply below_drew1 | refine below_set ?_ GE634.out) | exact HB.out))) : w.heap.size ≤ gb635)); have n5_ := Aside0.mk ((by rw [hg]; exact Nat.ne_of_lt (blk_lt (g := gb634) (o := .cells #[.int .i64 a0_0, .int .i64 a0_1, .int .i64 a0_2] 53 (0, 0)) (by (with_reducible repeat (first | refine blk_drewN ?_ _ | refine blk_drew ?_ | refine blk_alloc ?_ _)); exact BK634.out)) : gb634 ≠ gb635)); have n6_ := Aside0.mk ((by rw [hg]; exact Nat.ne_of_gt (blk_lt (g := gb634) (o := .cells #[.int .i64 a0_0, .int .i64 a0_1, .int .i64 a0_2] 53 (0, 0)) (by (with_reducible repeat (first | refine blk_drewN ?_ _ | refine blk_drew ?_ | refine blk_alloc ?_ _)); exact BK634.out)) : gb635 ≠ gb634)); clear BK634; clear HB; have BK634 := n0_; have HB := n1_; have BK635 := n2_; have GW635 := n3_; have GE635 := n4_; have NB634_635 := n5_; have NB635_634 := n6_; clear n0_ n1_ n2_ n3_ n4_ n5_ n6_; clear hb hbox hg; have hnb13 := NB634_635.out; have hnc13 := NB635_634.out; have hcz14_0 : w12.cell? ⟨gb634, 0, none⟩ = some (.int .i64 a0_0) := (blk_cell BK634.out 0).trans rfl; have hcz14_1 : w12.cell? ⟨gb634, 1, none⟩ = some (.int .i64 a0_1) := (blk_cell BK634.out 1).trans rfl; have hcz14_2 : w12.cell? ⟨gb634, 2, none⟩ = some (.int .i64 a0_2) := (blk_cell BK634.out 2).trans rfl; have hfz14_0 := blk_frozen BK634.out 0; have hfz14_1 := blk_frozen BK634.out 1; have hfz14_2 := blk_frozen BK634.out 2; have hcz15_0 : w12.cell? ⟨gb635, 0, none⟩ = some (.int .i64 a1_0) := (blk_cell BK635.out 0).trans rfl; have hcz15_1 : w12.cell? ⟨gb635, 1, none⟩ = some (.int .i64 a1_1) := (blk_cell BK635.out 1).trans rfl; have hcz15_2 : w12.cell? ⟨gb635, 2, none⟩ = some (.int .i64 a1_2) := (blk_cell BK635.out 2).trans rfl; have hfz15_0 := blk_frozen BK635.out 0; have hfz15_1 := blk_frozen BK635.out 1; have hfz15_2 := blk_frozen BK635.out 2))
        go_ret
        exact ⟨by first | rfl | (simp [errW_none, errW_some] <;> rfl) | (simp [*, errW_none, errW_some] <;> rfl), by repeat (first | (with_reducible first | exact HB.out | apply below_alloc | apply pw_below_drewN | apply below_drew1 | refine below_set ?_ GE634.out | refine below_set ?_ GE635.out) | exact HB.out)⟩
    · rw [if_neg c4] at H
      have c4b0 : (a0_1 == a1_1) = false := beq_eq_false_iff_ne.mpr c4
      have c4b1 : (a0_1 != a1_1) = true := bne_iff_ne.mpr c4
      obtain rfl := Option.some.inj H
      go_enter Try.func74, Try.ntmps74
      go_wp2_with (first | ((with_reducible refine gate_dst (N := 2) rfl ?_); refine box_event ?hg (N := 2) ?hd (cs := #[.int .i64 a0_0, .int .i64 a0_1, .int .i64 a0_2]) (t := 53) ?hr ?_; (case hd => rfl); (case hg => rfl); (case hr => first | (go_simp; done) | (go_simp; rfl)); intro gb634 hg w16 hbox hb; have n0_ := Aside0.mk (below_step (by repeat (first | (with_reducible first | exact HB.out | apply below_alloc | apply pw_below_drewN | apply below_drew1) | exact HB.out)) hb); have n1_ := Aside0.mk (hbox); have n2_ := Aside0.mk ((by rw [hg]; exact (below_size (by repeat (first | (with_reducible first | exact HB.out | apply below_alloc | apply pw_below_drewN | apply below_drew1) | exact HB.out))) : w.heap.size ≤ gb634)); have n3_ := Aside0.mk ((by rw [hg]; exact (below_size (by repeat (first | (with_reducible first | exact HB.out | apply below_alloc | apply pw_below_drewN | apply below_drew1) | exact HB.out))) : w.heap.size ≤ gb634)); clear HB; have HB := n0_; have BK634 := n1_; have GW634 := n2_; have GE634 := n3_; clear n0_ n1_ n2_ n3_; clear hb hbox hg) | ((with_reducible refine gate_dst (N := 3) rfl ?_); refine box_event ?hg (N := 3) ?hd (cs := #[.int .i64 a1_0, .int .i64 a1_1, .int .i64 a1_2]) (t := 53) ?hr ?_; (case hd => rfl); (case hg => rfl); (case hr => first | (go_simp; done) | (go_simp; rfl)); intro gb635 hg w17 hbox hb; have n0_ := Aside0.mk (blk_below (g := gb634) (o := .cells #[.int .i64 a0_0, .int .i64 a0_1, .int .i64 a0_2] 53 (0, 0)) (by (with_reducible repeat (first | refine blk_drewN ?_ _ | refine blk_drew ?_ | refine blk_alloc ?_ _)); exact BK634.out) hb); have n1_ := Aside0.mk (below_step (by repeat (first | (with_reducible first | exact HB.out | apply below_alloc | apply pw_below_drewN | apply below_drew1 | refine below_set ?_ GE634.out) | exact HB.out)) hb); have n2_ := Aside0.mk (hbox); have n3_ := Aside0.mk ((by rw [hg]; exact (below_size (by repeat (first | (with_reducible first | exact HB.out | apply below_alloc | apply pw_below_drewN | apply below_drew1 | refine below_set ?_ GE634.out) | exact HB.out))) : w.heap.size ≤ gb635)); have n4_ := Aside0.mk ((by rw [hg]; exact (below_size (by repeat (first | (with_reducible first | exact HB.out | apply below_alloc | apply pw_below_drewN | apply below_drew1 | refine below_set ?_ GE634.out) | exact HB.out))) : w.heap.size ≤ gb635)); have n5_ := Aside0.mk ((by rw [hg]; exact Nat.ne_of_lt (blk_lt (g := gb634) (o := .cells #[.int .i64 a0_0, .int .i64 a0_1, .int .i64 a0_2] 53 (0, 0)) (by (with_reducible repeat (first | refine blk_drewN ?_ _ | refine blk_drew ?_ | refine blk_alloc ?_ _)); exact BK634.out)) : gb634 ≠ gb635)); have n6_ := Aside0.mk ((by rw [hg]; exact Nat.ne_of_gt (blk_lt (g := gb634) (o := .cells #[.int .i64 a0_0, .int .i64 a0_1, .int .i64 a0_2] 53 (0, 0)) (by (with_reducible repeat (first | refine blk_drewN ?_ _ | refine blk_drew ?_ | refine blk_alloc ?_ _)); exact BK634.out)) : gb635 ≠ gb634)); clear BK634; clear HB; have BK634 := n0_; have HB := n1_; have BK635 := n2_; have GW635 := n3_; have GE635 := n4_; have NB634_635 := n5_; have NB635_634 := n6_; clear n0_ n1_ n2_ n3_ n4_ n5_ n6_; clear hb hbox hg; have hnb18 := NB634_635.out; have hnc18 := NB635_634.out; have hcz19_0 : w17.cell? ⟨gb634, 0, none⟩ = some (.int .i64 a0_0) := (blk_cell BK634.out 0).trans rfl; have hcz19_1 : w17.cell? ⟨gb634, 1, none⟩ = some (.int .i64 a0_1) := (blk_cell BK634.out 1).trans rfl; have hcz19_2 : w17.cell? ⟨gb634, 2, none⟩ = some (.int .i64 a0_2) := (blk_cell BK634.out 2).trans rfl; have hfz19_0 := blk_frozen BK634.out 0; have hfz19_1 := blk_frozen BK634.out 1; have hfz19_2 := blk_frozen BK634.out 2; have hcz20_0 : w17.cell? ⟨gb635, 0, none⟩ = some (.int .i64 a1_0) := (blk_cell BK635.out 0).trans rfl; have hcz20_1 : w17.cell? ⟨gb635, 1, none⟩ = some (.int .i64 a1_1) := (blk_cell BK635.out 1).trans rfl; have hcz20_2 : w17.cell? ⟨gb635, 2, none⟩ = some (.int .i64 a1_2) := (blk_cell BK635.out 2).trans rfl; have hfz20_0 := blk_frozen BK635.out 0; have hfz20_1 := blk_frozen BK635.out 1; have hfz20_2 := blk_frozen BK635.out 2))
      go_ret
      exact ⟨by first | rfl | (simp [errW_none, errW_some] <;> rfl) | (simp [*, errW_none, errW_some] <;> rfl), by repeat (first | (with_reducible first | exact HB.out | apply below_alloc | apply pw_below_drewN | apply below_drew1 | refine below_set ?_ GE634.out | refine below_set ?_ GE635.out) | exact HB.out)⟩
  · rw [if_neg c3] at H
    have c3b0 : (a0_0 == a1_0) = false := beq_eq_false_iff_ne.mpr c3
    have c3b1 : (a0_0 != a1_0) = true := bne_iff_ne.mpr c3
    obtain rfl := Option.some.inj H
    go_enter Try.func74, Try.ntmps74
    go_wp2_with (first | ((with_reducible refine gate_dst (N := 2) rfl ?_); refine box_event ?hg (N := 2) ?hd (cs := #[.int .i64 a0_0, .int .i64 a0_1, .int .i64 a0_2]) (t := 53) ?hr ?_; (case hd => rfl); (case hg => rfl); (case hr => first | (go_simp; done) | (go_simp; rfl)); intro gb634 hg w21 hbox hb; have n0_ := Aside0.mk (below_step (by repeat (first | (with_reducible first | exact HB.out | apply below_alloc | apply pw_below_drewN | apply below_drew1) | exact HB.out)) hb); have n1_ := Aside0.mk (hbox); have n2_ := Aside0.mk ((by rw [hg]; exact (below_size (by repeat (first | (with_reducible first | exact HB.out | apply below_alloc | apply pw_below_drewN | apply below_drew1) | exact HB.out))) : w.heap.size ≤ gb634)); have n3_ := Aside0.mk ((by rw [hg]; exact (below_size (by repeat (first | (with_reducible first | exact HB.out | apply below_alloc | apply pw_below_drewN | apply below_drew1) | exact HB.out))) : w.heap.size ≤ gb634)); clear HB; have HB := n0_; have BK634 := n1_; have GW634 := n2_; have GE634 := n3_; clear n0_ n1_ n2_ n3_; clear hb hbox hg) | ((with_reducible refine gate_dst (N := 3) rfl ?_); refine box_event ?hg (N := 3) ?hd (cs := #[.int .i64 a1_0, .int .i64 a1_1, .int .i64 a1_2]) (t := 53) ?hr ?_; (case hd => rfl); (case hg => rfl); (case hr => first | (go_simp; done) | (go_simp; rfl)); intro gb635 hg w22 hbox hb; have n0_ := Aside0.mk (blk_below (g := gb634) (o := .cells #[.int .i64 a0_0, .int .i64 a0_1, .int .i64 a0_2] 53 (0, 0)) (by (with_reducible repeat (first | refine blk_drewN ?_ _ | refine blk_drew ?_ | refine blk_alloc ?_ _)); exact BK634.out) hb); have n1_ := Aside0.mk (below_step (by repeat (first | (with_reducible first | exact HB.out | apply below_alloc | apply pw_below_drewN | apply below_drew1 | refine below_set ?_ GE634.out) | exact HB.out)) hb); have n2_ := Aside0.mk (hbox); have n3_ := Aside0.mk ((by rw [hg]; exact (below_size (by repeat (first | (with_reducible first | exact HB.out | apply below_alloc | apply pw_below_drewN | apply below_drew1 | refine below_set ?_ GE634.out) | exact HB.out))) : w.heap.size ≤ gb635)); have n4_ := Aside0.mk ((by rw [hg]; exact (below_size (by repeat (first | (with_reducible first | exact HB.out | apply below_alloc | apply pw_below_drewN | apply below_drew1 | refine below_set ?_ GE634.out) | exact HB.out))) : w.heap.size ≤ gb635)); have n5_ := Aside0.mk ((by rw [hg]; exact Nat.ne_of_lt (blk_lt (g := gb634) (o := .cells #[.int .i64 a0_0, .int .i64 a0_1, .int .i64 a0_2] 53 (0, 0)) (by (with_reducible repeat (first | refine blk_drewN ?_ _ | refine blk_drew ?_ | refine blk_alloc ?_ _)); exact BK634.out)) : gb634 ≠ gb635)); have n6_ := Aside0.mk ((by rw [hg]; exact Nat.ne_of_gt (blk_lt (g := gb634) (o := .cells #[.int .i64 a0_0, .int .i64 a0_1, .int .i64 a0_2] 53 (0, 0)) (by (with_reducible repeat (first | refine blk_drewN ?_ _ | refine blk_drew ?_ | refine blk_alloc ?_ _)); exact BK634.out)) : gb635 ≠ gb634)); clear BK634; clear HB; have BK634 := n0_; have HB := n1_; have BK635 := n2_; have GW635 := n3_; have GE635 := n4_; have NB634_635 := n5_; have NB635_634 := n6_; clear n0_ n1_ n2_ n3_ n4_ n5_ n6_; clear hb hbox hg; have hnb23 := NB634_635.out; have hnc23 := NB635_634.out; have hcz24_0 : w22.cell? ⟨gb634, 0, none⟩ = some (.int .i64 a0_0) := (blk_cell BK634.out 0).trans rfl; have hcz24_1 : w22.cell? ⟨gb634, 1, none⟩ = some (.int .i64 a0_1) := (blk_cell BK634.out 1).trans rfl; have hcz24_2 : w22.cell? ⟨gb634, 2, none⟩ = some (.int .i64 a0_2) := (blk_cell BK634.out 2).trans rfl; have hfz24_0 := blk_frozen BK634.out 0; have hfz24_1 := blk_frozen BK634.out 1; have hfz24_2 := blk_frozen BK634.out 2; have hcz25_0 : w22.cell? ⟨gb635, 0, none⟩ = some (.int .i64 a1_0) := (blk_cell BK635.out 0).trans rfl; have hcz25_1 : w22.cell? ⟨gb635, 1, none⟩ = some (.int .i64 a1_1) := (blk_cell BK635.out 1).trans rfl; have hcz25_2 : w22.cell? ⟨gb635, 2, none⟩ = some (.int .i64 a1_2) := (blk_cell BK635.out 2).trans rfl; have hfz25_0 := blk_frozen BK635.out 0; have hfz25_1 := blk_frozen BK635.out 1; have hfz25_2 := blk_frozen BK635.out 2))
    go_ret
    exact ⟨by first | rfl | (simp [errW_none, errW_some] <;> rfl) | (simp [*, errW_none, errW_some] <;> rfl), by repeat (first | (with_reducible first | exact HB.out | apply below_alloc | apply pw_below_drewN | apply below_drew1 | refine below_set ?_ GE634.out | refine below_set ?_ GE635.out) | exact HB.out)⟩

end Go.Proofs.Ytoafenblaioopaa.S
