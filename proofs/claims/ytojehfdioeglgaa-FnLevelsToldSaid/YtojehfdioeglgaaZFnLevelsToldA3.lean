/- What only tells how others are read has no level, all else has one of 0 to 20, and ahead of what tells it is the one at first: of all drawn letters and levels, for every code. No condition beyond the statement's own. (text 4 of 5 of this claim: functions of the program and of the reference as plain Lean functions, what a call of each comes to, and what follows.) -/
import Derived.Test.YtojehfdioeglgaaZFnLevelsToldA0
import Derived.Test.YtojehfdioeglgaaZFnLevelsToldA2
import Derived.Test.YtojehfdioeglgaaZFnLevelsToldA1
namespace Go.Proofs.Ytojehfdioeglgaa.S
open Go.RowKit Go.Proofs.YtojehfdioeglgaaW.PrintWords Go.Proofs.YtojehfdioeglgaaW.PrintLast Go.Proofs.YtojehfdioeglgaaW.PrintMore
attribute [local go_sem] max2_int min2_int max_two min_two max_three min_three max_four min_four   -- for this text's walks alone
set_option linter.unusedVariables false
set_option linter.unusedSimpArgs false
def laws_toIntS.l0 : Nat → List Int → List Int → Int → Option (List Int)
  | 0, _, _, _ => none
  | k + 1, x0, x3, x4 => if x4 < (x0.length : Int) then (if 0 ≤ x4 then (if x4 < (x3.length : Int) then (laws_toIntS.l0 k x0 (x3.set (x4 : Int).toNat (rd x0 x4)) (wrap64 (x4 + 1))) else (none)) else (none)) else (some x3)
def laws_toIntS.f (k : Nat) (l0 : List Int) : Option (List Int) := if 0 ≤ (l0.length : Int) then (if ((l0.length : Int) : Int).toNat ≤ 35184372088832 then (laws_toIntS.l0 k l0 (List.replicate ((l0.length : Int) : Int).toNat 0) 0) else (none)) else (none)
theorem laws_toIntS.mono_l : ∀ k, (∀ y0 y1 y2, LeO (laws_toIntS.l0 k y0 y1 y2) (laws_toIntS.l0 (k + 1) y0 y1 y2))
  | 0 => fun _ _ _ r h => by simp [laws_toIntS.l0] at h
  | k + 1 => by
    have ih0 := laws_toIntS.mono_l k
    · intro y0 y1 y2
      unfold laws_toIntS.l0
      repeat' first
      | (with_reducible exact ih0 _ _ _)
      | (with_reducible exact LeO.refl _)
      | (with_reducible exact LeO.none _)
      | (with_reducible refine LeO.ite ?_ ?_)
      | (with_reducible refine LeO.bind ?_ (fun _ => ?_))
      | exact ih0 _ _ _
      | exact LeO.none _
      | refine LeO.ite ?_ ?_
      | refine LeO.bind ?_ (fun _ => ?_)
theorem laws_toIntS.mono : ∀ a0 k, LeO (laws_toIntS.f k a0) (laws_toIntS.f (k + 1) a0) := by
  intro a0 k
  have ih0 := laws_toIntS.mono_l k
  unfold laws_toIntS.f
  repeat' first
      | (with_reducible exact ih0 _ _ _)
      | (with_reducible exact LeO.refl _)
      | (with_reducible exact LeO.none _)
      | (with_reducible refine LeO.ite ?_ ?_)
      | (with_reducible refine LeO.bind ?_ (fun _ => ?_))
      | exact ih0 _ _ _
      | exact LeO.none _
      | refine LeO.ite ?_ ?_
      | refine LeO.bind ?_ (fun _ => ?_)
set_option maxHeartbeats 8000000 in
set_option maxRecDepth 100000 in
theorem laws_toIntS.calls (k : Nat) (A0 : Option Addr) (c0 : Nat) (l0 : List Int) (r : List Int) (w : World) (hr0 : Kd.C (Kd.int .i64) w A0 l0.length l0) (hc0 : l0.length ≤ c0) (h : laws_toIntS.f k l0 = some r) :
    Calls Try.prog 10 #[.slice A0 l0.length c0] w fun e w' => ∃ v0_ : Value, e = .returned (v0_) ∧ Kd.R (Kd.int .i64) 3 w' w.heap.size (fun _ => True) v0_ r ∧ Below w.heap.size w w' := by
  have HR0 := Aside0.mk hr0
  have HC0 := Aside0.mk hc0
  clear hr0 hc0
  have HB := Aside0.mk (Below.refl w.heap.size w)
  have H : (if 0 ≤ (l0.length : Int) then (if ((l0.length : Int) : Int).toNat ≤ 35184372088832 then (laws_toIntS.l0 k l0 (List.replicate ((l0.length : Int) : Int).toNat 0) 0) else (none)) else (none)) = some r := h
  clear h
  by_cases c2 : 0 ≤ (l0.length : Int)
  · rw [if_pos c2] at H
    have c2b0 := eq_true c2
    have c2b1 : decide (0 ≤ (l0.length : Int)) = true := decide_eq_true c2
    clear c2
    by_cases c3 : ((l0.length : Int) : Int).toNat ≤ 35184372088832
    · rw [if_pos c3] at H
      have c3b0 := eq_true c3
      have c3b1 : decide (((l0.length : Int) : Int).toNat ≤ 35184372088832) = true := decide_eq_true c3
      clear c3
      obtain ⟨y167, hy167⟩ : ∃ y_ : List Int, y_ = (List.replicate ((l0.length : Int) : Int).toNat 0) := ⟨_, rfl⟩
      replace H : (laws_toIntS.l0 k l0 y167 0) = some r := by first | (rw [hy167]; with_reducible exact H) | (have H2_ := (Option.bind_some _ _).symm.trans H; rw [hy167]; with_reducible exact H2_) | (have H2_ := (Option.bind_some _ _).symm.trans H; with_reducible exact H2_) | with_reducible exact H | (rw [hy167]; exact H) | exact H
      have Ny167 := Aside0.mk hy167
      clear hy167
      have H' := Aside0.mk H
      clear H
      go_enter Try.func10, Try.ntmps10
      go_wp2_with (first | ((with_reducible refine gate_dst (N := 7) rfl ?_); refine Kd.R_make (Kd.int .i64) _ 3 rfl (N := 7) rfl 22 _ _ rfl (l0.length : Int) rfl rfl Try.underlying22 (.int .i64 0) 8 info3 rfl (by decide) (by omega) 0 (ok := fun _ => True) (okp := fun _ => True) rfl (fun _ hk => hk) trivial (of_decide_eq_true (by first | (with_reducible assumption) | assumption)) (Nat.le_trans (Nat.mul_le_mul_right _ (of_decide_eq_true (by first | (with_reducible assumption) | assumption) : (l0.length : Int).toNat ≤ 35184372088832)) (by omega)) (Below.refl _ _) (Nat.le_refl _) ?_; intro v168 w4 ho5 hb hg_ hnew_; clear hg_ hnew_; (first | rw [← Ny167.out] at ho5 | (simp only [Int.reduceToNat] at ho5; rw [← Ny167.out] at ho5)); have n0_ := Aside0.mk (Kd.R_lower ho5 (below_size (by repeat (first | (with_reducible first | exact HB.out | apply below_alloc | apply pw_below_drewN | apply below_drew1) | exact HB.out)))); have n1_ := Aside0.mk (below_step (by repeat (first | (with_reducible first | exact HB.out | apply below_alloc | apply pw_below_drewN | apply below_drew1) | exact HB.out)) hb); clear HB; have HO169 := n0_; have HB := n1_; clear n0_ n1_; clear hb ho5))
      go_loopg [4] k (fun kq v4 w' => ∃ (x3_1 : List Int) (x4_1 : Int), v4 = .int .i64 x4_1 ∧ Aside0 (laws_toIntS.l0 kq l0 x3_1 x4_1 = some r) ∧ Aside0 (kq ≤ k) ∧ Aside0 (Kd.R (Kd.int .i64) 3 w' w.heap.size (fun _ => True) v168 x3_1) ∧ Aside0 (Below w.heap.size w w'))
      case atStart => exact ⟨(y167), (0), (by first | rfl | (simp; done) | (simp [*]; done)), H', ⟨Nat.le_refl _⟩, ⟨by (with_reducible repeat (first | apply Kd.R_alloc | apply Kd.R_drewN | apply Kd.R_drew)); exact HO169.out⟩, ⟨by repeat (first | (with_reducible first | exact HB.out | apply below_alloc | apply pw_below_drewN | apply below_drew1) | exact HB.out)⟩⟩
      case round =>
        clear H'
        try clear c1
        try clear c2
        try clear c2b0
        try clear c2b1
        try clear p2
        try clear c3
        try clear c3b0
        try clear c3b1
        obtain ⟨x3_1, x4_1, rfl, HA, HK1, HO_3, HB⟩ := hrel
        cases gk with
        | zero => exact absurd HA.out (by simp [laws_toIntS.l0])
        | succ k1 =>
          have H := HA.out
          clear HA
          simp only [laws_toIntS.l0] at H
          by_cases c6 : x4_1 < (l0.length : Int)
          · rw [if_pos c6] at H
            have c6b0 : decide (x4_1 < (l0.length : Int)) = true := decide_eq_true c6
            clear c6
            by_cases c7 : 0 ≤ x4_1
            · rw [if_pos c7] at H
              have c7b0 : decide (0 ≤ x4_1) = true := decide_eq_true c7
              clear c7
              by_cases c8 : x4_1 < (x3_1.length : Int)
              · rw [if_pos c8] at H
                have c8b0 : decide (x4_1 < (x3_1.length : Int)) = true := decide_eq_true c8
                clear c8
                obtain ⟨y171, hy171⟩ : ∃ y_ : List Int, y_ = (x3_1.set (x4_1 : Int).toNat (rd l0 x4_1)) := ⟨_, rfl⟩
                replace H : (laws_toIntS.l0 k1 l0 y171 (wrap64 (x4_1 + 1))) = some r := by first | (rw [hy171]; with_reducible exact H) | (have H2_ := (Option.bind_some _ _).symm.trans H; rw [hy171]; with_reducible exact H2_) | (have H2_ := (Option.bind_some _ _).symm.trans H; with_reducible exact H2_) | with_reducible exact H | (rw [hy171]; exact H) | exact H
                have Ny171 := Aside0.mk hy171
                clear hy171
                have H' := Aside0.mk H
                clear H
                have p170 : 0 ≤ (x4_1 : Int) := of_decide_eq_true (by first | (with_reducible assumption) | assumption)
                have q170 : x4_1 < (l0.length : Int) := of_decide_eq_true (by first | (with_reducible assumption) | assumption)
                obtain ⟨ad170, e170, hx170_0⟩ := Kd.at_int HR0.out x4_1 p170 q170
                cases e170
                replace hx170_0 := (HB.out.cell (World.block_lt_of_cell? w _ hx170_0)).trans hx170_0
                replace p170 := eq_true p170
                replace q170 := eq_true q170
                have p9 : 0 ≤ (x4_1 : Int) := of_decide_eq_true (by first | (with_reducible assumption) | assumption)
                have q9 : (x4_1 : Int) < ((x3_1.length : Int) : Int) := of_decide_eq_true (by first | (with_reducible assumption) | assumption)
                obtain ⟨go9, co9, eo9, gb9, gl9, cl9, HG9⟩ := Kd.R_form HO_3.out (by omega)
                (first | cases eo9 | (injection eo9 with ea_ en_ ec_; (first | subst ea_ | (injection ea_ with ea_; subst ea_)); subst ec_; clear en_))
                have GB9 := Aside0.mk gb9
                have GG9 := Aside0.mk HG9
                clear gb9 gl9 HG9
                obtain ⟨hx9_0, hf9_0⟩ := Kd.R_celln 0 HO_3.out (x4_1 : Int) p9 q9
                replace p9 := eq_true p9
                replace q9 := eq_true q9
                have HP10 := Kd.R_putg HO_3.out (x4_1 : Int) (rd l0 x4_1)
                go_wp2_with (first | ((with_reducible refine gate_store (t := 3) (p := 20) rfl ?_); refine store_event (t := 3) (p := 20) (v := ?vo_w11) (w1 := (wr.setCell ⟨go9, (x4_1 : Int).toNat, none⟩ (.int .i64 (rd l0 x4_1)))) ?hg ?ho ?hn ?hr ?_; (case ho => rfl); (case hg => rfl); (case hn => rfl); (case hr => first | (go_simp; done) | (go_simp; rfl)); intro w11 hw; have hg : wr.grownBy w11 (some go9) := (by rw [hw]; exact HP10.2); have hp_ : Kd.R (Kd.int .i64) 3 w11 w.heap.size (fun _ => True) (.slice (some ⟨go9, 0, none⟩) x3_1.length co9) y171 := (by rw [hw, Ny171.out]; exact HP10.1); clear HP10; have n0_ := Aside0.mk (hp_); have n1_ := Aside0.mk ((by rw [hw]; exact below_set (HB.out) GB9.out : Below w.heap.size w w11)); clear HO_3; clear HB; have HO_3 := n0_; have HB := n1_; clear n0_ n1_; clear hg hw hp_))
                go_roundg k1
                case measure => have := HK1.out; omega
                case rel => exact ⟨(y171), (wrap64 (x4_1 + 1)), (by first | rfl | (simp; done) | (simp [*]; done)), H', ⟨by have := HK1.out; omega⟩, ⟨by (with_reducible repeat (first | apply Kd.R_alloc | apply Kd.R_drewN | apply Kd.R_drew)); exact HO_3.out⟩, ⟨by repeat (first | (with_reducible first | exact HB.out | apply below_alloc | apply pw_below_drewN | apply below_drew1) | exact HB.out)⟩⟩
              · rw [if_neg c8] at H
                exact absurd H (by simp)
            · rw [if_neg c7] at H
              exact absurd H (by simp)
          · rw [if_neg c6] at H
            have c6b0 : decide (x4_1 < (l0.length : Int)) = false := decide_eq_false c6
            clear c6
            obtain rfl := Option.some.inj H
            go_wp2
            go_ret
            exact ⟨_, by first | rfl | (simp [errW_none, errW_some] <;> rfl) | (simp [*, errW_none, errW_some] <;> rfl), by (with_reducible repeat (first | apply Kd.R_alloc | apply Kd.R_drewN | apply Kd.R_drew)); exact HO_3.out, by repeat (first | (with_reducible first | exact HB.out | apply below_alloc | apply pw_below_drewN | apply below_drew1) | exact HB.out)⟩
    · rw [if_neg c3] at H
      exact absurd H (by simp)
  · rw [if_neg c2] at H
    exact absurd H (by simp)
end Go.Proofs.Ytojehfdioeglgaa.S
namespace Go.Proofs.Ytojehfdioeglgaa.S
open Go.RowKit Go.Proofs.YtojehfdioeglgaaW.PrintWords Go.Proofs.YtojehfdioeglgaaW.PrintLast Go.Proofs.YtojehfdioeglgaaW.PrintMore
attribute [local go_sem] max2_int min2_int max_two min_two max_three min_three max_four min_four   -- for this text's walks alone
set_option linter.unusedVariables false
set_option linter.unusedSimpArgs false
def laws_eqIntS.l0 : Nat → List Int → List Int → Int → Option (Bool)
  | 0, _, _, _ => none
  | k + 1, x0, x1, x5 => if x5 < (x0.length : Int) then (if 0 ≤ x5 then (if x5 < (x1.length : Int) then (if (rd x0 x5) = (rd x1 x5) then (laws_eqIntS.l0 k x0 x1 (wrap64 (x5 + 1))) else (some false)) else (none)) else (none)) else (some true)
def laws_eqIntS.f (k : Nat) (l0 : List Int) (l1 : List Int) : Option (Bool) := if (l0.length : Int) = (l1.length : Int) then (laws_eqIntS.l0 k l0 l1 0) else (some false)
theorem laws_eqIntS.mono_l : ∀ k, (∀ y0 y1 y2, LeO (laws_eqIntS.l0 k y0 y1 y2) (laws_eqIntS.l0 (k + 1) y0 y1 y2))
  | 0 => fun _ _ _ r h => by simp [laws_eqIntS.l0] at h
  | k + 1 => by
    have ih0 := laws_eqIntS.mono_l k
    · intro y0 y1 y2
      unfold laws_eqIntS.l0
      repeat' first
      | (with_reducible exact ih0 _ _ _)
      | (with_reducible exact LeO.refl _)
      | (with_reducible exact LeO.none _)
      | (with_reducible refine LeO.ite ?_ ?_)
      | (with_reducible refine LeO.bind ?_ (fun _ => ?_))
      | exact ih0 _ _ _
      | exact LeO.none _
      | refine LeO.ite ?_ ?_
      | refine LeO.bind ?_ (fun _ => ?_)
theorem laws_eqIntS.mono : ∀ a0 a1 k, LeO (laws_eqIntS.f k a0 a1) (laws_eqIntS.f (k + 1) a0 a1) := by
  intro a0 a1 k
  have ih0 := laws_eqIntS.mono_l k
  unfold laws_eqIntS.f
  repeat' first
      | (with_reducible exact ih0 _ _ _)
      | (with_reducible exact LeO.refl _)
      | (with_reducible exact LeO.none _)
      | (with_reducible refine LeO.ite ?_ ?_)
      | (with_reducible refine LeO.bind ?_ (fun _ => ?_))
      | exact ih0 _ _ _
      | exact LeO.none _
      | refine LeO.ite ?_ ?_
      | refine LeO.bind ?_ (fun _ => ?_)
set_option maxHeartbeats 8000000 in
set_option maxRecDepth 100000 in
theorem laws_eqIntS.calls (k : Nat) (A0 : Option Addr) (c0 : Nat) (l0 : List Int) (A1 : Option Addr) (c1 : Nat) (l1 : List Int) (r : Bool) (w : World) (hr0 : Kd.C (Kd.int .i64) w A0 l0.length l0) (hc0 : l0.length ≤ c0) (hr1 : Kd.C (Kd.int .i64) w A1 l1.length l1) (hc1 : l1.length ≤ c1) (h : laws_eqIntS.f k l0 l1 = some r) :
    Calls Try.prog 12 #[.slice A0 l0.length c0, .slice A1 l1.length c1] w fun e w' => e = .returned (.bool r) ∧ Drawn0 w w' := by
  have HR0 := Aside0.mk hr0
  have HC0 := Aside0.mk hc0
  clear hr0 hc0
  have HR1 := Aside0.mk hr1
  have HC1 := Aside0.mk hc1
  clear hr1 hc1
  have H : (if (l0.length : Int) = (l1.length : Int) then (laws_eqIntS.l0 k l0 l1 0) else (some false)) = some r := h
  clear h
  by_cases c3 : (l0.length : Int) = (l1.length : Int)
  · rw [if_pos c3] at H
    have c3b0 : ((l0.length : Int) == (l1.length : Int)) = true := beq_iff_eq.mpr c3
    have c3b1 : ((l0.length : Int) != (l1.length : Int)) = false := bne_eq_false_iff_eq.mpr c3
    have c3b2 : (l0.length == l1.length) = true := by first | simpa using c3 | (simp at c3 ⊢; omega)
    clear c3
    have H' := Aside0.mk H
    clear H
    go_enter Try.func12, Try.ntmps12
    go_wp2
    repeat (go_quiet (fail); try go_wp2)
    go_loopg [5] k (fun kq v5 w' => ∃ (x5_1 : Int), v5 = .int .i64 x5_1 ∧ Aside0 (laws_eqIntS.l0 kq l0 l1 x5_1 = some r) ∧ Aside0 (kq ≤ k) ∧ Drawn0 w w')
    case atStart => exact ⟨(0), (by first | rfl | (simp; done) | (simp [*]; done)), H', ⟨Nat.le_refl _⟩, by repeat (first | exact Drawn0.refl _ | apply Drawn0.step)⟩
    case round =>
      clear H'
      try clear c1
      try clear p2
      try clear c3
      try clear c3b0
      try clear c3b1
      try clear c3b2
      obtain ⟨x5_1, rfl, HA, HK1, ⟨m1, rfl⟩⟩ := hrel
      cases gk with
      | zero => exact absurd HA.out (by simp [laws_eqIntS.l0])
      | succ k1 =>
        have H := HA.out
        clear HA
        simp only [laws_eqIntS.l0] at H
        by_cases c4 : x5_1 < (l0.length : Int)
        · rw [if_pos c4] at H
          have c4b0 : decide (x5_1 < (l0.length : Int)) = true := decide_eq_true c4
          clear c4
          by_cases c5 : 0 ≤ x5_1
          · rw [if_pos c5] at H
            have c5b0 : decide (0 ≤ x5_1) = true := decide_eq_true c5
            clear c5
            by_cases c6 : x5_1 < (l1.length : Int)
            · rw [if_pos c6] at H
              have c6b0 : decide (x5_1 < (l1.length : Int)) = true := decide_eq_true c6
              clear c6
              by_cases c7 : (rd l0 x5_1) = (rd l1 x5_1)
              · rw [if_pos c7] at H
                have c7b0 : ((rd l0 x5_1) == (rd l1 x5_1)) = true := beq_iff_eq.mpr c7
                have c7b1 : ((rd l0 x5_1) != (rd l1 x5_1)) = false := bne_eq_false_iff_eq.mpr c7
                clear c7
                have H' := Aside0.mk H
                clear H
                have p172 : 0 ≤ (x5_1 : Int) := of_decide_eq_true (by first | (with_reducible assumption) | assumption)
                have q172 : x5_1 < (l0.length : Int) := of_decide_eq_true (by first | (with_reducible assumption) | assumption)
                obtain ⟨ad172, e172, hx172_0⟩ := Kd.at_int HR0.out x5_1 p172 q172
                cases e172
                replace p172 := eq_true p172
                replace q172 := eq_true q172
                have p173 : 0 ≤ (x5_1 : Int) := of_decide_eq_true (by first | (with_reducible assumption) | assumption)
                have q173 : x5_1 < (l1.length : Int) := of_decide_eq_true (by first | (with_reducible assumption) | assumption)
                obtain ⟨ad173, e173, hx173_0⟩ := Kd.at_int HR1.out x5_1 p173 q173
                cases e173
                replace p173 := eq_true p173
                replace q173 := eq_true q173
                go_wp2
                repeat (go_quiet (fail); try go_wp2)
                go_roundg k1
                case measure => have := HK1.out; omega
                case rel => exact ⟨(wrap64 (x5_1 + 1)), (by first | rfl | (simp; done) | (simp [*]; done)), H', ⟨by have := HK1.out; omega⟩, by repeat (first | exact Drawn0.refl _ | apply Drawn0.step)⟩
              · rw [if_neg c7] at H
                have c7b0 : ((rd l0 x5_1) == (rd l1 x5_1)) = false := beq_eq_false_iff_ne.mpr c7
                have c7b1 : ((rd l0 x5_1) != (rd l1 x5_1)) = true := bne_iff_ne.mpr c7
                obtain rfl := Option.some.inj H
                have p172 : 0 ≤ (x5_1 : Int) := of_decide_eq_true (by first | (with_reducible assumption) | assumption)
                have q172 : x5_1 < (l0.length : Int) := of_decide_eq_true (by first | (with_reducible assumption) | assumption)
                obtain ⟨ad172, e172, hx172_0⟩ := Kd.at_int HR0.out x5_1 p172 q172
                cases e172
                replace p172 := eq_true p172
                replace q172 := eq_true q172
                have p173 : 0 ≤ (x5_1 : Int) := of_decide_eq_true (by first | (with_reducible assumption) | assumption)
                have q173 : x5_1 < (l1.length : Int) := of_decide_eq_true (by first | (with_reducible assumption) | assumption)
                obtain ⟨ad173, e173, hx173_0⟩ := Kd.at_int HR1.out x5_1 p173 q173
                cases e173
                replace p173 := eq_true p173
                replace q173 := eq_true q173
                go_wp2
                repeat (go_quiet (fail); try go_wp2)
                go_ret
                exact ⟨by first | rfl | (simp; done) | (simp [*]; done), by repeat (first | exact Drawn0.refl _ | apply Drawn0.step)⟩
            · rw [if_neg c6] at H
              exact absurd H (by simp)
          · rw [if_neg c5] at H
            exact absurd H (by simp)
        · rw [if_neg c4] at H
          have c4b0 : decide (x5_1 < (l0.length : Int)) = false := decide_eq_false c4
          clear c4
          obtain rfl := Option.some.inj H
          go_wp2
          repeat (go_quiet (fail); try go_wp2)
          go_ret
          exact ⟨by first | rfl | (simp; done) | (simp [*]; done), by repeat (first | exact Drawn0.refl _ | apply Drawn0.step)⟩
  · rw [if_neg c3] at H
    have c3b0 : ((l0.length : Int) == (l1.length : Int)) = false := beq_eq_false_iff_ne.mpr c3
    have c3b1 : ((l0.length : Int) != (l1.length : Int)) = true := bne_iff_ne.mpr c3
    have c3b2 : (l0.length == l1.length) = false := by first | simpa using c3 | (simp at c3 ⊢; omega)
    obtain rfl := Option.some.inj H
    go_enter Try.func12, Try.ntmps12
    go_wp2
    repeat (go_quiet (fail); try go_wp2)
    go_ret
    exact ⟨by first | rfl | (simp; done) | (simp [*]; done), by repeat (first | exact Drawn0.refl _ | apply Drawn0.step)⟩
end Go.Proofs.Ytojehfdioeglgaa.S
namespace Go.Proofs.Ytojehfdioeglgaa.S
open Go.RowKit Go.Proofs.YtojehfdioeglgaaW.PrintWords Go.Proofs.YtojehfdioeglgaaW.PrintLast Go.Proofs.YtojehfdioeglgaaW.PrintMore
attribute [local go_sem] max2_int min2_int max_two min_two max_three min_three max_four min_four   -- for this text's walks alone
set_option linter.unusedVariables false
set_option linter.unusedSimpArgs false
def laws_markIntS.l0 : Nat → List Int → Int → Int → Option (Int × List Int)
  | 0, _, _, _ => none
  | k + 1, x0, x1, x5 => if x5 < (x0.length : Int) then (if 0 ≤ x5 then (laws_markIntS.l0 k (x0.set (x5 : Int).toNat x1) (wrap64 (x1 + 1)) (wrap64 (x5 + 1))) else (none)) else (some (x1, x0))
def laws_markIntS.f (k : Nat) (l0 : List Int) (a1 : Int) : Option (Int × List Int) := laws_markIntS.l0 k l0 a1 0
theorem laws_markIntS.mono_l : ∀ k, (∀ y0 y1 y2, LeO (laws_markIntS.l0 k y0 y1 y2) (laws_markIntS.l0 (k + 1) y0 y1 y2))
  | 0 => fun _ _ _ r h => by simp [laws_markIntS.l0] at h
  | k + 1 => by
    have ih0 := laws_markIntS.mono_l k
    · intro y0 y1 y2
      unfold laws_markIntS.l0
      repeat' first
      | (with_reducible exact ih0 _ _ _)
      | (with_reducible exact LeO.refl _)
      | (with_reducible exact LeO.none _)
      | (with_reducible refine LeO.ite ?_ ?_)
      | (with_reducible refine LeO.bind ?_ (fun _ => ?_))
      | exact ih0 _ _ _
      | exact LeO.none _
      | refine LeO.ite ?_ ?_
      | refine LeO.bind ?_ (fun _ => ?_)
theorem laws_markIntS.mono : ∀ a0 a1 k, LeO (laws_markIntS.f k a0 a1) (laws_markIntS.f (k + 1) a0 a1) := by
  intro a0 a1 k
  have ih0 := laws_markIntS.mono_l k
  unfold laws_markIntS.f
  repeat' first
      | (with_reducible exact ih0 _ _ _)
      | (with_reducible exact LeO.refl _)
      | (with_reducible exact LeO.none _)
      | (with_reducible refine LeO.ite ?_ ?_)
      | (with_reducible refine LeO.bind ?_ (fun _ => ?_))
      | exact ih0 _ _ _
      | exact LeO.none _
      | refine LeO.ite ?_ ?_
      | refine LeO.bind ?_ (fun _ => ?_)
set_option maxHeartbeats 8000000 in
set_option maxRecDepth 100000 in
theorem laws_markIntS.calls (k : Nat) (P0_ : Nat → Prop) (u9000_ : Value) (l0 : List Int) (a1 : Int) (r1 : Int) (r2 : List Int) (w0 w : World) (hB : Below w0.heap.size w0 w) (ho0 : Kd.R (Kd.int .i64) 3 w w0.heap.size P0_ u9000_ l0) (h : laws_markIntS.f k l0 a1 = some (r1, r2)) :
    Calls Try.prog 13 #[u9000_, .int .i64 a1] w fun e w' => e = .returned (.int .i64 r1) ∧ Kd.R (Kd.int .i64) 3 w' w0.heap.size (fun k_ => (P0_ k_ ∨ w.heap.size ≤ k_)) u9000_ r2 ∧ Below w0.heap.size w0 w' ∧ Kept w w' (fun k_ => P0_ k_) := by
  have HO0 := Aside0.mk (show Kd.R (Kd.int .i64) 3 w w0.heap.size (fun k_ => (P0_ k_ ∨ w.heap.size ≤ k_)) u9000_ l0 from Kd.R_mono ho0 (fun k_ hk => (.inl hk)))
  have HK := Aside0.mk (Kept.refl w (fun k_ => P0_ k_))
  have HW0 := Aside0.mk hB.size
  have HB := Aside0.mk hB
  clear hB
  have H : (laws_markIntS.l0 k l0 a1 0) = some (r1, r2) := h
  clear h
  have H' := Aside0.mk H
  clear H
  go_enter Try.func13, Try.ntmps13
  go_wp2
  go_loopg [1, 5] k (fun kq v1 v5 w' => ∃ (x0_1 : List Int) (x1_1 : Int) (x5_1 : Int), v1 = .int .i64 x1_1 ∧ v5 = .int .i64 x5_1 ∧ Aside0 (laws_markIntS.l0 kq x0_1 x1_1 x5_1 = some (r1, r2)) ∧ Aside0 (kq ≤ k) ∧ Aside0 (Kd.R (Kd.int .i64) 3 w' w0.heap.size (fun k_ => (P0_ k_ ∨ w.heap.size ≤ k_)) u9000_ x0_1) ∧ Aside0 (Kept w w' (fun k_ => P0_ k_)) ∧ Aside0 (Below w0.heap.size w0 w'))
  case atStart => exact ⟨(l0), (a1), (0), (by first | rfl | (simp; done) | (simp [*]; done)), (by first | rfl | (simp; done) | (simp [*]; done)), H', ⟨Nat.le_refl _⟩, ⟨by (with_reducible repeat (first | apply Kd.R_alloc | apply Kd.R_drewN | apply Kd.R_drew)); exact HO0.out⟩, ⟨by repeat (first | (with_reducible first | exact HK.out | apply Kept.alloc | apply Kept.drewN | apply Kept.drew) | exact HK.out)⟩, ⟨by repeat (first | (with_reducible first | exact HB.out | apply below_alloc | apply pw_below_drewN | apply below_drew1) | exact HB.out)⟩⟩
  case round =>
    clear H'
    try clear c1
    try clear p2
    obtain ⟨x0_1, x1_1, x5_1, rfl, rfl, HA, HK1, HO_0, HK, HB⟩ := hrel
    cases gk with
    | zero => exact absurd HA.out (by simp [laws_markIntS.l0])
    | succ k1 =>
      have H := HA.out
      clear HA
      simp only [laws_markIntS.l0] at H
      by_cases c3 : x5_1 < (x0_1.length : Int)
      · rw [if_pos c3] at H
        have c3b0 : decide (x5_1 < (x0_1.length : Int)) = true := decide_eq_true c3
        clear c3
        by_cases c4 : 0 ≤ x5_1
        · rw [if_pos c4] at H
          have c4b0 : decide (0 ≤ x5_1) = true := decide_eq_true c4
          clear c4
          obtain ⟨y174, hy174⟩ : ∃ y_ : List Int, y_ = (x0_1.set (x5_1 : Int).toNat x1_1) := ⟨_, rfl⟩
          replace H : (laws_markIntS.l0 k1 y174 (wrap64 (x1_1 + 1)) (wrap64 (x5_1 + 1))) = some (r1, r2) := by first | (rw [hy174]; with_reducible exact H) | (have H2_ := (Option.bind_some _ _).symm.trans H; rw [hy174]; with_reducible exact H2_) | (have H2_ := (Option.bind_some _ _).symm.trans H; with_reducible exact H2_) | with_reducible exact H | (rw [hy174]; exact H) | exact H
          have Ny174 := Aside0.mk hy174
          clear hy174
          have H' := Aside0.mk H
          clear H
          obtain ⟨Ao6, co6, eo6⟩ := Kd.R_slice HO_0.out
          subst eo6
          have p5 : 0 ≤ (x5_1 : Int) := of_decide_eq_true (by first | (with_reducible assumption) | assumption)
          have q5 : (x5_1 : Int) < ((x0_1.length : Int) : Int) := of_decide_eq_true (by first | (with_reducible assumption) | assumption)
          obtain ⟨go5, co5, eo5, gb5, gl5, cl5, HG5⟩ := Kd.R_form HO_0.out (by omega)
          (first | cases eo5 | (injection eo5 with ea_ en_ ec_; (first | subst ea_ | (injection ea_ with ea_; subst ea_)); subst ec_; clear en_))
          have GB5 := Aside0.mk gb5
          have GG5 := Aside0.mk HG5
          clear gb5 gl5 HG5
          have HMgo5 := Aside0.mk (show (P0_ go5 ∨ w.heap.size ≤ go5) from (HO_0.out.1 _ rfl))
          obtain ⟨hx5_0, hf5_0⟩ := Kd.R_celln 0 HO_0.out (x5_1 : Int) p5 q5
          replace p5 := eq_true p5
          replace q5 := eq_true q5
          have HP7 := Kd.R_putg HO_0.out (x5_1 : Int) x1_1
          go_wp2_with (first | ((with_reducible refine gate_store (t := 3) (p := 15) rfl ?_); refine store_event (t := 3) (p := 15) (v := ?vo_w8) (w1 := (wr.setCell ⟨go5, (x5_1 : Int).toNat, none⟩ (.int .i64 x1_1))) ?hg ?ho ?hn ?hr ?_; (case ho => rfl); (case hg => rfl); (case hn => rfl); (case hr => first | (go_simp; done) | (go_simp; rfl)); intro w8 hw; have hg : wr.grownBy w8 (some go5) := (by rw [hw]; exact HP7.2); have hp_ : Kd.R (Kd.int .i64) 3 w8 w0.heap.size (fun k_ => (P0_ k_ ∨ w.heap.size ≤ k_)) (.slice (some ⟨go5, 0, none⟩) x0_1.length co6) y174 := (by rw [hw, Ny174.out]; exact HP7.1); clear HP7; have n0_ := Aside0.mk (hp_); have n1_ := Aside0.mk ((by rw [hw]; exact below_set (HB.out) GB5.out : Below w0.heap.size w0 w8)); have n2_ := Aside0.mk (Kept.of_grown (S := (fun k_ => P0_ k_)) hg (by repeat (first | (with_reducible first | exact HK.out | apply Kept.alloc | apply Kept.drewN | apply Kept.drew) | exact HK.out)) (fun k_ e_ => (HO_0.out.1 k_ e_))); clear HO_0; clear HB; clear HK; have HO_0 := n0_; have HB := n1_; have HK := n2_; clear n0_ n1_ n2_; clear hg hw hp_))
          go_roundg k1
          case measure => have := HK1.out; omega
          case rel => exact ⟨(y174), (wrap64 (x1_1 + 1)), (wrap64 (x5_1 + 1)), (by first | rfl | (simp; done) | (simp [*]; done)), (by first | rfl | (simp; done) | (simp [*]; done)), H', ⟨by have := HK1.out; omega⟩, ⟨by (with_reducible repeat (first | apply Kd.R_alloc | apply Kd.R_drewN | apply Kd.R_drew)); exact HO_0.out⟩, ⟨by repeat (first | (with_reducible first | exact HK.out | apply Kept.alloc | apply Kept.drewN | apply Kept.drew) | exact HK.out)⟩, ⟨by repeat (first | (with_reducible first | exact HB.out | apply below_alloc | apply pw_below_drewN | apply below_drew1) | exact HB.out)⟩⟩
        · rw [if_neg c4] at H
          exact absurd H (by simp)
      · rw [if_neg c3] at H
        have c3b0 : decide (x5_1 < (x0_1.length : Int)) = false := decide_eq_false c3
        clear c3
        simp only [Option.some.injEq, Prod.mk.injEq] at H
        obtain ⟨rfl, rfl⟩ := H
        obtain ⟨Ao9, co9, eo9⟩ := Kd.R_slice HO_0.out
        subst eo9
        go_wp2
        go_ret
        exact ⟨by first | rfl | (simp [errW_none, errW_some] <;> rfl) | (simp [*, errW_none, errW_some] <;> rfl), by (with_reducible repeat (first | apply Kd.R_alloc | apply Kd.R_drewN | apply Kd.R_drew)); exact HO_0.out, by repeat (first | (with_reducible first | exact HB.out | apply below_alloc | apply pw_below_drewN | apply below_drew1) | exact HB.out), by repeat (first | (with_reducible first | exact HK.out | apply Kept.alloc | apply Kept.drewN | apply Kept.drew) | exact HK.out)⟩
end Go.Proofs.Ytojehfdioeglgaa.S
namespace Go.Proofs.Ytojehfdioeglgaa.S
open Go.RowKit Go.Proofs.YtojehfdioeglgaaW.PrintWords Go.Proofs.YtojehfdioeglgaaW.PrintLast Go.Proofs.YtojehfdioeglgaaW.PrintMore
attribute [local go_sem] max2_int min2_int max_two min_two max_three min_three max_four min_four   -- for this text's walks alone
set_option linter.unusedVariables false
set_option linter.unusedSimpArgs false
def laws_heldIntS.l0 : Nat → List Int → Int → Int → Option (Int)
  | 0, _, _, _ => none
  | k + 1, x0, x1, x5 => if x5 < (x0.length : Int) then (if 0 ≤ x5 then (if (rd x0 x5) = x1 then (laws_heldIntS.l0 k x0 (wrap64 (x1 + 1)) (wrap64 (x5 + 1))) else (some (-1))) else (none)) else (some x1)
def laws_heldIntS.f (k : Nat) (l0 : List Int) (a1 : Int) : Option (Int) := laws_heldIntS.l0 k l0 a1 0
theorem laws_heldIntS.mono_l : ∀ k, (∀ y0 y1 y2, LeO (laws_heldIntS.l0 k y0 y1 y2) (laws_heldIntS.l0 (k + 1) y0 y1 y2))
  | 0 => fun _ _ _ r h => by simp [laws_heldIntS.l0] at h
  | k + 1 => by
    have ih0 := laws_heldIntS.mono_l k
    · intro y0 y1 y2
      unfold laws_heldIntS.l0
      repeat' first
      | (with_reducible exact ih0 _ _ _)
      | (with_reducible exact LeO.refl _)
      | (with_reducible exact LeO.none _)
      | (with_reducible refine LeO.ite ?_ ?_)
      | (with_reducible refine LeO.bind ?_ (fun _ => ?_))
      | exact ih0 _ _ _
      | exact LeO.none _
      | refine LeO.ite ?_ ?_
      | refine LeO.bind ?_ (fun _ => ?_)
theorem laws_heldIntS.mono : ∀ a0 a1 k, LeO (laws_heldIntS.f k a0 a1) (laws_heldIntS.f (k + 1) a0 a1) := by
  intro a0 a1 k
  have ih0 := laws_heldIntS.mono_l k
  unfold laws_heldIntS.f
  repeat' first
      | (with_reducible exact ih0 _ _ _)
      | (with_reducible exact LeO.refl _)
      | (with_reducible exact LeO.none _)
      | (with_reducible refine LeO.ite ?_ ?_)
      | (with_reducible refine LeO.bind ?_ (fun _ => ?_))
      | exact ih0 _ _ _
      | exact LeO.none _
      | refine LeO.ite ?_ ?_
      | refine LeO.bind ?_ (fun _ => ?_)
set_option maxHeartbeats 8000000 in
set_option maxRecDepth 100000 in
theorem laws_heldIntS.calls (k : Nat) (A0 : Option Addr) (c0 : Nat) (l0 : List Int) (a1 : Int) (r : Int) (w : World) (hr0 : Kd.C (Kd.int .i64) w A0 l0.length l0) (hc0 : l0.length ≤ c0) (h : laws_heldIntS.f k l0 a1 = some r) :
    Calls Try.prog 14 #[.slice A0 l0.length c0, .int .i64 a1] w fun e w' => e = .returned (.int .i64 r) ∧ Drawn0 w w' := by
  have HR0 := Aside0.mk hr0
  have HC0 := Aside0.mk hc0
  clear hr0 hc0
  have H : (laws_heldIntS.l0 k l0 a1 0) = some r := h
  clear h
  have H' := Aside0.mk H
  clear H
  go_enter Try.func14, Try.ntmps14
  go_wp2
  go_loopg [1, 5] k (fun kq v1 v5 w' => ∃ (x1_1 : Int) (x5_1 : Int), v1 = .int .i64 x1_1 ∧ v5 = .int .i64 x5_1 ∧ Aside0 (laws_heldIntS.l0 kq l0 x1_1 x5_1 = some r) ∧ Aside0 (kq ≤ k) ∧ Drawn0 w w')
  case atStart => exact ⟨(a1), (0), (by first | rfl | (simp; done) | (simp [*]; done)), (by first | rfl | (simp; done) | (simp [*]; done)), H', ⟨Nat.le_refl _⟩, by repeat (first | exact Drawn0.refl _ | apply Drawn0.step)⟩
  case round =>
    clear H'
    try clear c1
    try clear p2
    obtain ⟨x1_1, x5_1, rfl, rfl, HA, HK1, ⟨m1, rfl⟩⟩ := hrel
    cases gk with
    | zero => exact absurd HA.out (by simp [laws_heldIntS.l0])
    | succ k1 =>
      have H := HA.out
      clear HA
      simp only [laws_heldIntS.l0] at H
      by_cases c3 : x5_1 < (l0.length : Int)
      · rw [if_pos c3] at H
        have c3b0 : decide (x5_1 < (l0.length : Int)) = true := decide_eq_true c3
        clear c3
        by_cases c4 : 0 ≤ x5_1
        · rw [if_pos c4] at H
          have c4b0 : decide (0 ≤ x5_1) = true := decide_eq_true c4
          clear c4
          by_cases c5 : (rd l0 x5_1) = x1_1
          · rw [if_pos c5] at H
            have c5b0 : ((rd l0 x5_1) == x1_1) = true := beq_iff_eq.mpr c5
            have c5b1 : ((rd l0 x5_1) != x1_1) = false := bne_eq_false_iff_eq.mpr c5
            clear c5
            have H' := Aside0.mk H
            clear H
            have p175 : 0 ≤ (x5_1 : Int) := of_decide_eq_true (by first | (with_reducible assumption) | assumption)
            have q175 : x5_1 < (l0.length : Int) := of_decide_eq_true (by first | (with_reducible assumption) | assumption)
            obtain ⟨ad175, e175, hx175_0⟩ := Kd.at_int HR0.out x5_1 p175 q175
            cases e175
            replace p175 := eq_true p175
            replace q175 := eq_true q175
            go_wp2
            go_roundg k1
            case measure => have := HK1.out; omega
            case rel => exact ⟨(wrap64 (x1_1 + 1)), (wrap64 (x5_1 + 1)), (by first | rfl | (simp; done) | (simp [*]; done)), (by first | rfl | (simp; done) | (simp [*]; done)), H', ⟨by have := HK1.out; omega⟩, by repeat (first | exact Drawn0.refl _ | apply Drawn0.step)⟩
          · rw [if_neg c5] at H
            have c5b0 : ((rd l0 x5_1) == x1_1) = false := beq_eq_false_iff_ne.mpr c5
            have c5b1 : ((rd l0 x5_1) != x1_1) = true := bne_iff_ne.mpr c5
            obtain rfl := Option.some.inj H
            have p175 : 0 ≤ (x5_1 : Int) := of_decide_eq_true (by first | (with_reducible assumption) | assumption)
            have q175 : x5_1 < (l0.length : Int) := of_decide_eq_true (by first | (with_reducible assumption) | assumption)
            obtain ⟨ad175, e175, hx175_0⟩ := Kd.at_int HR0.out x5_1 p175 q175
            cases e175
            replace p175 := eq_true p175
            replace q175 := eq_true q175
            go_wp2
            go_ret
            exact ⟨by first | rfl | (simp; done) | (simp [*]; done), by repeat (first | exact Drawn0.refl _ | apply Drawn0.step)⟩
        · rw [if_neg c4] at H
          exact absurd H (by simp)
      · rw [if_neg c3] at H
        have c3b0 : decide (x5_1 < (l0.length : Int)) = false := decide_eq_false c3
        clear c3
        obtain rfl := Option.some.inj H
        go_wp2
        go_ret
        exact ⟨by first | rfl | (simp; done) | (simp [*]; done), by repeat (first | exact Drawn0.refl _ | apply Drawn0.step)⟩
end Go.Proofs.Ytojehfdioeglgaa.S
/- What the laws' own helpers answer: a copy, equality, a row written with 1, 2, 3 .., and whether it still holds that. -/
namespace Go.Proofs.Ytojehfdioeglgaa.Pure
open Go.RowKit Go.Proofs.Ytojehfdioeglgaa.S Go.Proofs.YtojehfdioeglgaaW.PrintWords Go.Proofs.YtojehfdioeglgaaW.PrintLast
theorem w64 {x : Int} (h0 : -9223372036854775808 ≤ x) (h1 : x ≤ 9223372036854775807) : wrap64 x = x := by
  unfold wrap64; omega
theorem rd_nat (l : List Int) (i : Nat) : rd l (i : Int) = l.getD i 0 := by simp [rd]
theorem rd_get {l : List Int} {i : Nat} (h : i < l.length) : rd l (i : Int) = l[i] := by simp [rd, List.getD_eq_getElem?_getD, h]
theorem copy_l (l : List Int) (hn : l.length ≤ 1099511627776) : ∀ (d k i : Nat), l.length - i = d → i ≤ l.length → d < k →
    laws_toIntS.l0 k l (l.take i ++ List.replicate (l.length - i) 0) (i : Int) = some l
  | 0, k, i, hd, hi, hk => by
    obtain ⟨k, rfl⟩ : ∃ m, k = m + 1 := ⟨k - 1, by omega⟩
    have e : i = l.length := by omega
    subst e
    rw [laws_toIntS.l0, if_neg (by omega)]
    simp
  | d + 1, k, i, hd, hi, hk => by
    obtain ⟨k, rfl⟩ : ∃ m, k = m + 1 := ⟨k - 1, by omega⟩
    have hlt : i < l.length := by omega
    rw [laws_toIntS.l0, if_pos (by omega), if_pos (by omega), if_pos (by simp; omega), w64 (by omega) (by omega)]
    have e : (l.take i ++ List.replicate (l.length - i) 0).set (i : Int).toNat (rd l i) = l.take (i + 1) ++ List.replicate (l.length - (i + 1)) 0 := by
      rw [Int.toNat_natCast, rd_get hlt, List.set_append_right _ _ (by simp; omega)]
      have h1 : i - (l.take i).length = 0 := by simp; omega
      rw [h1, show l.length - i = (l.length - (i + 1)) + 1 by omega, List.replicate_succ, List.set_cons_zero, List.take_succ_eq_append_getElem hlt, List.append_assoc]
      rfl
    rw [e]
    exact copy_l l hn d k (i + 1) (by omega) (by omega) (by omega)
theorem copy_p {l : List Int} {k : Nat} (hn : l.length ≤ 1099511627776) (hk : l.length < k) : laws_toIntS.f k l = some l := by
  unfold laws_toIntS.f
  rw [if_pos (by omega), if_pos (by omega)]
  simpa using copy_l l hn l.length k 0 (by omega) (by omega) hk
theorem eq_l (a b : List Int) (hab : a.length = b.length) (hn : a.length ≤ 1099511627776) : ∀ (d k i : Nat), a.length - i = d → i ≤ a.length → d < k →
    laws_eqIntS.l0 k a b (i : Int) = some (decide (a.drop i = b.drop i))
  | 0, k, i, hd, hi, hk => by
    obtain ⟨k, rfl⟩ : ∃ m, k = m + 1 := ⟨k - 1, by omega⟩
    have e : i = a.length := by omega
    subst e
    rw [laws_eqIntS.l0, if_neg (by omega), List.drop_length, hab, List.drop_length]
    simp
  | d + 1, k, i, hd, hi, hk => by
    obtain ⟨k, rfl⟩ : ∃ m, k = m + 1 := ⟨k - 1, by omega⟩
    have hlt : i < a.length := by omega
    have hlb : i < b.length := by omega
    rw [laws_eqIntS.l0, if_pos (by omega), if_pos (by omega), if_pos (by omega), w64 (by omega) (by omega), rd_get hlt, rd_get hlb, List.drop_eq_getElem_cons hlt, List.drop_eq_getElem_cons hlb]
    have := eq_l a b hab hn d k (i + 1) (by omega) (by omega) (by omega)
    rw [show ((i : Int) + 1) = ((i + 1 : Nat) : Int) by omega, this]
    by_cases h : a[i] = b[i]
    · rw [if_pos h, h]
      simp only [List.cons.injEq, true_and]
    · rw [if_neg h]
      simp only [List.cons.injEq, h, false_and, decide_false]
theorem eq_p {a b : List Int} {k : Nat} (hn : a.length ≤ 1099511627776) (hk : a.length < k) : laws_eqIntS.f k a b = some (decide (a = b)) := by
  unfold laws_eqIntS.f
  by_cases hab : a.length = b.length
  · rw [if_pos (by omega)]
    simpa using eq_l a b hab hn a.length k 0 (by omega) (by omega) hk
  · rw [if_neg (by omega)]
    simp only [Option.some.injEq]
    exact (decide_eq_false (fun h => hab (by rw [h]))).symm
/-- a, a + 1, .. : n of them. -/
def iota (a : Int) : Nat → List Int
  | 0 => []
  | n + 1 => a :: iota (a + 1) n
theorem iota_length : ∀ (n : Nat) (a : Int), (iota a n).length = n
  | 0, _ => rfl
  | n + 1, a => by simp [iota, iota_length n]
theorem mark_l : ∀ (d k i : Nat) (l : List Int) (a : Int), l.length ≤ 1099511627776 → -1099511627776 ≤ a → a ≤ 1099511627776 * 4 → a + d ≤ 1099511627776 * 4 → l.length - i = d → i ≤ l.length → d < k →
    laws_markIntS.l0 k l a (i : Int) = some (a + d, l.take i ++ iota a d)
  | 0, k, i, l, a, hn, h0, h1, h2, hd, hi, hk => by
    obtain ⟨k, rfl⟩ : ∃ m, k = m + 1 := ⟨k - 1, by omega⟩
    have e : i = l.length := by omega
    subst e
    rw [laws_markIntS.l0, if_neg (by omega)]
    simp [iota]
  | d + 1, k, i, l, a, hn, h0, h1, h2, hd, hi, hk => by
    obtain ⟨k, rfl⟩ : ∃ m, k = m + 1 := ⟨k - 1, by omega⟩
    have hlt : i < l.length := by omega
    rw [laws_markIntS.l0, if_pos (by omega), if_pos (by omega), w64 (x := (i : Int) + 1) (by omega) (by omega), w64 (by omega) (by omega), Int.toNat_natCast]
    have := mark_l d k (i + 1) (l.set i a) (a + 1) (by simpa using hn) (by omega) (by omega) (by omega) (by simp; omega) (by simp; omega) (by omega)
    rw [show ((i : Int) + 1) = ((i + 1 : Nat) : Int) by omega, this]
    simp only [Option.some.injEq, Prod.mk.injEq, iota]
    refine ⟨by omega, ?_⟩
    rw [List.take_succ_eq_append_getElem (by simpa using hlt)]
    simp [List.take_set_of_le]
theorem mark_p {l : List Int} {a : Int} {k : Nat} (hn : l.length ≤ 1099511627776) (h0 : -1099511627776 ≤ a) (h1 : a ≤ 1099511627776) (hk : l.length < k) : laws_markIntS.f k l a = some (a + l.length, iota a l.length) := by
  unfold laws_markIntS.f
  simpa using mark_l l.length k 0 l a hn h0 (by omega) (by omega) (by omega) (by omega) hk
theorem held_l : ∀ (d k i : Nat) (l : List Int) (a : Int), l.length ≤ 1099511627776 → -1099511627776 ≤ a → a + d ≤ 1099511627776 * 4 → l.length - i = d → i ≤ l.length → d < k → l.drop i = iota a d →
    laws_heldIntS.l0 k l a (i : Int) = some (a + d)
  | 0, k, i, l, a, hn, h0, h2, hd, hi, hk, he => by
    obtain ⟨k, rfl⟩ : ∃ m, k = m + 1 := ⟨k - 1, by omega⟩
    rw [laws_heldIntS.l0, if_neg (by omega)]
    simp
  | d + 1, k, i, l, a, hn, h0, h2, hd, hi, hk, he => by
    obtain ⟨k, rfl⟩ : ∃ m, k = m + 1 := ⟨k - 1, by omega⟩
    have hlt : i < l.length := by omega
    rw [List.drop_eq_getElem_cons hlt, iota] at he
    obtain ⟨e1, e2⟩ := List.cons.inj he
    rw [laws_heldIntS.l0, if_pos (by omega), if_pos (by omega), rd_get hlt, if_pos e1, w64 (x := (i : Int) + 1) (by omega) (by omega), w64 (by omega) (by omega)]
    have := held_l d k (i + 1) l (a + 1) hn (by omega) (by omega) (by omega) (by omega) (by omega) e2
    rw [show ((i : Int) + 1) = ((i + 1 : Nat) : Int) by omega, this]
    congr 1; omega
theorem held_p {n : Nat} {a : Int} {k : Nat} (hn : n ≤ 1099511627776) (h0 : -1099511627776 ≤ a) (h1 : a ≤ 1099511627776) (hk : n < k) : laws_heldIntS.f k (iota a n) a = some (a + n) := by
  unfold laws_heldIntS.f
  have hl := iota_length n a
  simpa using held_l n k 0 (iota a n) a (by omega) h0 (by omega) (by omega) (by omega) hk rfl
end Go.Proofs.Ytojehfdioeglgaa.Pure
/- Letters that are ok, by both texts. -/
namespace Go.Proofs.Ytojehfdioeglgaa.Pure
open Go.RowKit Go.Proofs.Ytojehfdioeglgaa.S Go.Proofs.YtojehfdioeglgaaW.PrintWords Go.Proofs.YtojehfdioeglgaaW.PrintLast
theorem l1In_p (a b c : Int) : spec_l1In.f a b c = some (decide (b ≤ a) && decide (a ≤ c)) := by
  unfold spec_l1In.f
  by_cases h : b ≤ a <;> simp [h]
def sizeV (a : Int) : Int := if 0 ≤ a ∧ a ≤ 127 then 1 else if 128 ≤ a ∧ a ≤ 2047 then 2 else if 55296 ≤ a ∧ a ≤ 57343 then 0 else if 2048 ≤ a ∧ a ≤ 65535 then 3 else if 65536 ≤ a ∧ a ≤ 1114111 then 4 else 0
theorem size_f (a : Int) : spec_l1Size.f a = some (sizeV a) := by
  simp only [spec_l1Size.f, l1In_p, Option.bind_some, sizeV]
  grind
theorem size_let (a : Int) : sizeV a = 0 ↔ isLetV a = false := by
  simp only [isLetV, sizeV]
  grind
theorem size_p (a : Int) : ∃ s, spec_l1Size.f a = some s ∧ (s = 0 ↔ isLetV a = false) := ⟨_, size_f a, size_let a⟩
theorem ok_l (l : List Int) (hn : l.length ≤ 1099511627776) : ∀ (d k i : Nat), l.length - i = d → i ≤ l.length → d < k →
    spec_l1Ok.l0 k l (i : Int) = some ((l.drop i).all isLetV && decide (l.length ≤ 80))
  | 0, k, i, hd, hi, hk => by
    obtain ⟨k, rfl⟩ : ∃ m, k = m + 1 := ⟨k - 1, by omega⟩
    have e : i = l.length := by omega
    subst e
    rw [spec_l1Ok.l0, if_neg (by omega), List.drop_length]
    simp only [List.all_nil, Bool.true_and, Option.some.injEq, decide_eq_decide]
    omega
  | d + 1, k, i, hd, hi, hk => by
    obtain ⟨k, rfl⟩ : ∃ m, k = m + 1 := ⟨k - 1, by omega⟩
    have hlt : i < l.length := by omega
    obtain ⟨s, hs, hz⟩ := size_p l[i]
    rw [spec_l1Ok.l0, if_pos (by omega), if_pos (by omega), w64 (by omega) (by omega), rd_get hlt, hs, Option.bind_some, List.drop_eq_getElem_cons hlt, List.all_cons]
    have := ok_l l hn d k (i + 1) (by omega) (by omega) (by omega)
    rw [show ((i : Int) + 1) = ((i + 1 : Nat) : Int) by omega, this]
    by_cases h : s = 0
    · rw [if_pos h, hz.1 h]; simp
    · have : isLetV l[i] = true := by
        cases e : isLetV l[i]
        · exact absurd (hz.2 e) h
        · rfl
      rw [if_neg h, this, Bool.true_and]
theorem ok_p {l : List Int} {k : Nat} (hn : l.length ≤ 1099511627776) (hk : l.length < k) : spec_l1Ok.f k l = some (okV l) := by
  unfold spec_l1Ok.f
  have := ok_l l hn l.length k 0 (by omega) (by omega) hk
  rw [show ((0 : Nat) : Int) = 0 from rfl] at this
  rw [this, List.drop_zero, okV, Bool.and_comm]
theorem ok_len {l : List Int} (h : okV l = true) : l.length ≤ 80 := by
  simp [okV] at h; exact h.1
theorem ok_let {l : List Int} (h : okV l = true) {x : Int} (hx : x ∈ l) : isLetV x = true := by
  simp [okV] at h; exact h.2 x hx
theorem let_wf {x : Int} (h : isLetV x = true) : (Lit.int .i64 x).wf = true := by
  simp [isLetV] at h
  exact WalkArith.wf_i64 (by omega)
end Go.Proofs.Ytojehfdioeglgaa.Pure
/- The levels and classes that are told, by both texts. -/
namespace Go.Proofs.Ytojehfdioeglgaa.Pure
open Go.RowKit Go.Proofs.Ytojehfdioeglgaa.S Go.Proofs.YtojehfdioeglgaaW.PrintWords Go.Proofs.YtojehfdioeglgaaW.PrintLast
def clsV (rs : List Int) : List Int := rs.map bidiV
theorem clsV_len (rs : List Int) : (clsV rs).length = rs.length := List.length_map ..
theorem clsV_get {rs : List Int} {i : Nat} (h : i < rs.length) : (clsV rs).getD i 0 = bidiV (rs.getD i 0) := by
  simp [clsV, List.getD_eq_getElem?_getD, h]
theorem clsO_p : ∀ rs : List Int, clsO rs = some (clsV rs)
  | [] => rfl
  | x :: r => by
    rw [clsO, impl_bidi_p, Option.bind_some, clsO_p r, Option.bind_some]
    rfl
def cv (e : S87) : S74 := ⟨e.f0, e.f1, e.f2⟩
/-- The reference's stack is the program's, the other way round. -/
def RelT (s : WkS) (t : TeS) : Prop := s.st = (t.st.map cv).reverse ∧ s.lost = t.lost ∧ s.sk = t.sk
theorem st_cons {s : WkS} {t : TeS} {e : S87} {r : List S87} (h : RelT s t) (hst : t.st = e :: r) : s.st = (r.map cv).reverse ++ [cv e] := by
  rw [h.1, hst, List.map_cons, List.reverse_cons]
theorem getD_last (a : List S74) (x : S74) : (a ++ [x]).getD a.length z74 = x := by
  rw [List.getD_eq_getElem?_getD, List.getElem?_append_right (Nat.le_refl _)]
  simp
theorem rel_top {s : WkS} {t : TeS} {e : S87} {r : List S87} (h : RelT s t) (hst : t.st = e :: r) : s.top = cv e := by
  unfold WkS.top
  rw [st_cons h hst, show ((r.map cv).reverse ++ [cv e]).length - 1 = ((r.map cv).reverse).length by simp, getD_last]
theorem up_eq {l : Int} (h0 : 0 ≤ l) (h1 : l ≤ 1000) (r : Bool) : upV l r = upT l r := by
  have w1 : wrap64 (l + 1) = l + 1 := w64 (by omega) (by omega)
  have w2 : wrap64 (l + 2) = l + 2 := w64 (by omega) (by omega)
  have t1 : Int.tmod l 2 = l % 2 := Int.tmod_eq_emod_of_nonneg h0
  unfold upV spec_l3Up.f upT
  simp only [w1, w2, t1]
  have : l % 2 = 0 ∨ l % 2 = 1 := by omega
  cases r <;> rcases this with h | h
  · have h' : (l + 1) % 2 = 1 := by omega
    simp [h, h']; omega
  · have h' : (l + 1) % 2 = 0 := by omega
    simp [h, h']
  · have h' : (l + 1) % 2 = 1 := by omega
    simp [h, h']
  · have h' : (l + 1) % 2 = 0 := by omega
    simp [h, h']; omega
theorem rel_push {s : WkS} {t : TeS} {j : Nat} (h : RelT s t) (hi : InvT j t) (r : Bool) (d : Int) (a : Bool) : RelT (pushS r d a s) (pushT r d a t) := by
  obtain ⟨e, q, hst, _, he0, he1⟩ := hi.cons
  have ht := rel_top h hst
  have hu : upV s.top.f0 r = upT (topT t) r := by
    rw [ht, show topT t = e.f0 by unfold topT; rw [hst], show (cv e).f0 = e.f0 from rfl, up_eq he0 (by omega)]
  obtain ⟨h1, h2, h3⟩ := h
  unfold pushS pushT
  rw [hu, h2, h3]
  split
  · have h1' : ∀ b : Bool, b = a → RelT { s with st := s.st ++ [⟨upT (topT t) r, d, b⟩], lost := t.lost, sk := t.sk } { t with st := ⟨upT (topT t) r, d, a⟩ :: t.st } := fun b hb => by
      subst hb
      exact ⟨by simp only; rw [h1, List.map_cons, List.reverse_cons]; rfl, rfl, rfl⟩
    cases a with
    | true => rw [if_pos rfl]; exact ⟨(h1' true rfl).1, (by first | rfl | exact h2), (by first | rfl | exact h3)⟩
    | false => rw [if_neg (by decide)]; exact ⟨(h1' false rfl).1, (by first | rfl | exact h2), (by first | rfl | exact h3)⟩
  · split
    · exact ⟨h1, (by first | rfl | exact h2), (by first | rfl | exact h3)⟩
    · split
      · exact ⟨h1, (by first | rfl | exact h2), (by first | rfl | exact h3)⟩
      · exact ⟨h1, (by first | rfl | exact h2), (by first | rfl | exact h3)⟩
theorem rel_pop {s : WkS} {t : TeS} {j : Nat} (h : RelT s t) (hi : InvT j t) : RelT (dropsS s) (popT t) := by
  obtain ⟨e, q, hst, _, he0, he1⟩ := hi.cons
  have ht := rel_top h hst
  have hs := st_cons h hst
  have h' := h
  obtain ⟨h1, h2, h3⟩ := h
  unfold dropsS popT
  rw [h2, h3]
  split
  · exact h'
  · split
    · exact ⟨h1, (by first | rfl | exact h2), (by first | rfl | exact h3)⟩
    · rw [ht, hst]
      have hf : (cv e).f2 = e.f2 := rfl
      rw [hf]
      cases q with
      | nil =>
        rw [if_neg (by rw [hs]; simp)]
        exact h'
      | cons e2 r =>
        simp only
        by_cases h0 : e.f2 = false
        · rw [if_pos ⟨h0, by rw [hs]; simp⟩, if_pos h0]
          refine ⟨?_, (by first | rfl | exact h2), (by first | rfl | exact h3)⟩
          simp only
          rw [hs, show (((e2 :: r).map cv).reverse ++ [cv e]).length - 1 = (((e2 :: r).map cv).reverse).length by simp, List.take_left]
        · rw [if_neg (fun h => h0 h.1), if_neg h0]
          exact h'
theorem popA_app (x : S74) (a : List S74) : ∀ n, n ≤ a.length → popA (a ++ [x]) n = popA a n
  | 0, _ => rfl
  | n + 1, h => by
    rw [popA, popA, popA_app x a n (by omega), List.take_append_of_le_length (by omega), List.getD_eq_getElem?_getD, List.getD_eq_getElem?_getD, List.getElem?_append_left (by omega)]
theorem popA_rev : ∀ l : List S87, popA (l.map cv).reverse l.length = ((popAl l).map cv).reverse
  | [] => rfl
  | e :: r => by
    have hlen : (r.map cv).reverse.length = r.length := by simp
    rw [List.map_cons, List.reverse_cons, List.length_cons, popA, popAl, popA_app _ _ _ (by omega), popA_rev r]
    have hg : ((r.map cv).reverse ++ [cv e]).getD r.length z74 = cv e := by
      have := getD_last (r.map cv).reverse (cv e)
      rwa [hlen] at this
    rw [hg, show (cv e).f2 = e.f2 from rfl]
    by_cases h : e.f2 = true
    · rw [if_pos h, if_pos h]
      conv => lhs; rw [← hlen, List.take_left]
    · rw [if_neg h, if_neg h]
theorem cntA_any : ∀ l : List S87, cntA (l.map cv).reverse = 0 ↔ l.any (·.f2) = false
  | [] => by simp [cntA]
  | e :: r => by
    have ih := cntA_any r
    rw [List.map_cons, List.reverse_cons, cntA_snoc, List.any_cons, Bool.or_eq_false_iff, show (cv e).f2 = e.f2 from rfl]
    cases e.f2 with
    | true => simp
    | false => simpa using ih
theorem rel_close {s : WkS} {t : TeS} {n j i : Nat} (h : RelT s t) (hi : InvT j t) (hw : InvW n i s) : RelT (endsS s) (closeT t) := by
  have h' := h
  obtain ⟨h1, h2, h3⟩ := h
  have hal : s.al = 0 ↔ t.st.any (·.f2) = false := by
    rw [← cntA_any, ← h1, hw.2.2.2.2.2.2.1]
    omega
  unfold endsS closeT
  rw [h2]
  split
  · exact ⟨h1, (by first | rfl | exact h2), (by first | rfl | exact h3)⟩
  · by_cases ha : s.al = 0
    · rw [if_pos ha, if_neg (by rw [hal.mp ha]; decide)]
      exact h'
    · have hb : t.st.any (·.f2) = true := by
        cases e : t.st.any (·.f2) with
        | true => rfl
        | false => exact absurd (hal.mpr e) ha
      rw [if_neg ha, if_pos hb]
      refine ⟨?_, (by first | rfl | exact h2), rfl⟩
      simp only
      rw [h1, show ((t.st.map cv).reverse).length = t.st.length by simp, popA_rev]
theorem set_mid (L R : List Int) (x y : Int) : (L ++ x :: R).set L.length y = L ++ y :: R := by
  rw [List.set_append_right _ _ (Nat.le_refl _), Nat.sub_self, List.set_cons_zero]
theorem dropsS_lens (s : WkS) : (dropsS s).lv = s.lv ∧ (dropsS s).cl = s.cl := by
  unfold dropsS
  repeat' split
  all_goals exact ⟨rfl, rfl⟩
/-- What the two lists of the reference's teller hold at a letter. -/
def AtL (s : WkS) (L C R : List Int) (i : Nat) (x y : Int) : Prop := s.lv = L ++ x :: R ∧ s.cl = C ++ y :: R ∧ L.length = i ∧ C.length = i
theorem here_p {s : WkS} {t : TeS} {e : S87} {r : List S87} {L C R : List Int} {i : Nat} {x y : Int} (h : RelT s t) (hst : t.st = e :: r) (ha : AtL s L C R i x y) (c : Int) : RelT (hereS i c s) t ∧ AtL (hereS i c s) L C R i e.f0 (if e.f1 = 0 then c else e.f1) := by
  obtain ⟨a1, a2, rfl, a4⟩ := ha
  refine ⟨h, ?_, ?_, rfl, a4⟩
  · show s.lv.set L.length s.top.f0 = _
    rw [a1, rel_top h hst, set_mid]
    rfl
  · show s.cl.set L.length (if s.top.f1 = 0 then c else s.top.f1) = _
    rw [a2, rel_top h hst, ← a4, set_mid]
    rfl
theorem AtL.to {s s' : WkS} {L C R : List Int} {i : Nat} {x y : Int} (h : AtL s L C R i x y) (hl : s'.lv = s.lv ∧ s'.cl = s.cl) : AtL s' L C R i x y := by
  obtain ⟨a1, a2, a3, a4⟩ := h
  exact ⟨by rw [hl.1, a1], by rw [hl.2, a2], a3, a4⟩
theorem letter_rel {k n i0 : Nat} {rs cls : List Int} {mt : Int → Option Int} {i : Nat} {s : WkS} {t : TeS} {L C R : List Int} (h : RelT s t) (hi : InvT i t) (hw : InvW n i0 s) (ha : AtL s L C R i (-1) 0) (hc : spec_RuneBidi.f k (rs.getD i 0) = some (cls.getD i 0))
    (hf : cls.getD i 0 = 21 → ∃ m b, spec_l3Mate.f k rs i = some m ∧ spec_l3Base.f k rs ((i : Int) + 1) m = some b ∧ (b == 1) = (sideF cls mt (endP cls mt i) (cls.length + 1) (i + 1) == 1)) :
    ∃ s', letterF k rs i s = some s' ∧ RelT s' (tellS cls mt i t) ∧ AtL s' L C R i (tellL (cls.getD i 0) t) (tellC (cls.getD i 0) t) := by
  obtain ⟨e, r, hst, _⟩ := hi.cons
  have hte : topE t = e := by unfold topE; rw [hst]
  unfold letterF tellS tellL tellC
  rw [hc, Option.bind_some]
  generalize cls.getD i 0 = c at hf
  by_cases k15 : c = 15
  · subst k15
    rw [if_pos rfl]
    exact ⟨_, rfl, rel_push h hi _ _ _, ha.to (pushS_lens _ _ _ _)⟩
  rw [if_neg k15]
  by_cases k14 : c = 14
  · subst k14
    rw [if_pos rfl]
    exact ⟨_, rfl, rel_push h hi _ _ _, ha.to (pushS_lens _ _ _ _)⟩
  rw [if_neg k14]
  by_cases k18 : c = 18
  · subst k18
    rw [if_pos rfl]
    exact ⟨_, rfl, rel_push h hi _ _ _, ha.to (pushS_lens _ _ _ _)⟩
  rw [if_neg k18]
  by_cases k17 : c = 17
  · subst k17
    rw [if_pos rfl]
    exact ⟨_, rfl, rel_push h hi _ _ _, ha.to (pushS_lens _ _ _ _)⟩
  rw [if_neg k17]
  by_cases k16 : c = 16
  · subst k16
    rw [if_pos rfl]
    exact ⟨_, rfl, rel_pop h hi, ha.to (dropsS_lens _)⟩
  rw [if_neg k16]
  by_cases k10 : c = 10
  · subst k10
    rw [if_pos rfl]
    exact ⟨_, rfl, h, ha⟩
  have hno : noLv c = false := by
    unfold noLv
    simp [k14, k15, k17, k18, k16, k10]
  rw [if_neg k10, if_neg k14, if_neg k15, if_neg k17, if_neg k18, if_neg k16, if_neg k10, hno]
  simp only [Bool.false_eq_true, if_false]
  by_cases k20 : c = 20
  · subst k20
    obtain ⟨p1, p2⟩ := here_p h hst ha 20
    rw [if_pos rfl]
    refine ⟨_, rfl, ?_, ?_⟩
    · exact rel_push p1 hi _ _ _
    · simp only [show ¬ ((20 : Int) = 22) by decide, if_false, hte]
      exact p2.to (pushS_lens _ _ _ _)
  rw [if_neg k20]
  by_cases k19 : c = 19
  · subst k19
    obtain ⟨p1, p2⟩ := here_p h hst ha 19
    rw [if_pos rfl]
    refine ⟨_, rfl, ?_, ?_⟩
    · exact rel_push p1 hi _ _ _
    · simp only [show ¬ ((19 : Int) = 22) by decide, if_false, hte]
      exact p2.to (pushS_lens _ _ _ _)
  rw [if_neg k19]
  by_cases k21 : c = 21
  · subst k21
    obtain ⟨p1, p2⟩ := here_p h hst ha 21
    obtain ⟨m, b, f1, f2, f3⟩ := hf rfl
    rw [if_pos rfl, f1, Option.bind_some, f2, Option.bind_some, f3]
    refine ⟨_, rfl, ?_, ?_⟩
    · exact rel_push p1 hi _ _ _
    · simp only [show ¬ ((21 : Int) = 22) by decide, if_false, hte]
      exact p2.to (pushS_lens _ _ _ _)
  rw [if_neg k21]
  by_cases k22 : c = 22
  · subst k22
    have hcl := rel_close h hi hw
    obtain ⟨e2, r2, hst2, _⟩ := (inv_closeT hi).cons
    have hte2 : topE (closeT t) = e2 := by unfold topE; rw [hst2]
    obtain ⟨p1, p2⟩ := here_p hcl hst2 (ha.to (endsS_lens _)) 22
    rw [if_pos rfl]
    refine ⟨_, rfl, p1, ?_⟩
    simp only [if_true, hte2]
    exact p2
  · obtain ⟨p1, p2⟩ := here_p h hst ha c
    rw [if_neg k22]
    refine ⟨_, rfl, ?_, ?_⟩
    · rw [if_neg k22, if_neg k19, if_neg k20, if_neg k21]
      exact p1
    · rw [if_neg k22, hte]
      exact p2
theorem opens_p (c : Int) : spec_l3Opens.f c = some (opensB c) := by
  unfold spec_l3Opens.f
  rw [l1In_b]
  unfold opensB
  congr 1
  by_cases h1 : c = 19
  · subst h1; rfl
  · by_cases h2 : c = 20
    · subst h2; rfl
    · by_cases h3 : c = 21
      · subst h3; rfl
      · rw [beq_eq_false_iff_ne.mpr h1, beq_eq_false_iff_ne.mpr h2, beq_eq_false_iff_ne.mpr h3]
        simp
        omega
theorem mate_l {rs : List Int} (hn : rs.length ≤ 400) : ∀ (g k i : Nat) (d : Int), rs.length - i = g → i ≤ rs.length → (0 < d ∨ d = 0 ∧ opensB (bidiV (rs.getD i 0)) = true) → d ≤ i → 2 * g + 20 ≤ k → spec_l3Mate.l0 k rs d (i : Int) = some ((scanM (clsV rs) g i d : Nat) : Int)
  | 0, k, i, d, hg, hi, h0, h1, hk => by
    obtain ⟨k, rfl⟩ : ∃ m, k = m + 1 := ⟨k - 1, by omega⟩
    rw [spec_l3Mate.l0, if_neg (by omega), scanM, clsV_len]
  | g + 1, k, i, d, hg, hi, h0, h1, hk => by
    obtain ⟨k, rfl⟩ : ∃ m, k = m + 2 := ⟨k - 2, by omega⟩
    have hlt : i < rs.length := by omega
    have ih := fun d' a b => mate_l hn g k (i + 1) d' (by omega) (by omega) (.inl a) b (by omega)
    rw [spec_l3Mate.l0, if_pos (by omega), if_pos (by omega), spec_bidi_k (by omega), Option.bind_some, opens_p, Option.bind_some, rd_nat, scanM, clsV_get hlt]
    generalize bidiV (rs.getD i 0) = c at h0
    have e1 : wrap64 ((i : Int) + 1) = ((i + 1 : Nat) : Int) := by rw [w64 (by omega) (by omega)]; omega
    unfold stepD
    cases ho : opensB c with
    | true =>
      have hn22 := opens_not22 ho
      rw [if_pos rfl, spec_l3Mate.j1, if_neg hn22, if_pos rfl, if_neg hn22, w64 (x := d + 1) (by omega) (by omega), e1, Int.sub_zero, if_neg (by omega), if_neg (by omega), ih (d + 1) (by omega) (by omega)]
    | false =>
      have hd0 : 0 < d := by
        rcases h0 with h | ⟨_, h⟩
        · exact h
        · rw [ho] at h; cases h
      simp only [Bool.false_eq_true, if_false]
      rw [spec_l3Mate.j1, e1]
      by_cases h22 : c = 22
      · rw [if_pos h22, if_pos h22, w64 (x := d - 1) (by omega) (by omega)]
        by_cases hd1 : d - 1 = 0
        · rw [if_pos hd1, if_pos hd1]
        · rw [if_neg hd1, if_neg hd1, ih (d - 1) (by omega) (by omega)]
      · rw [if_neg h22, if_neg h22, Int.sub_zero, if_neg (by omega), if_neg (by omega), ih d hd0 (by omega)]
theorem mate_m {rs : List Int} (hn : rs.length ≤ 400) {i k : Nat} (hi : i < rs.length) (ho : opensB (bidiV (rs.getD i 0)) = true) (hk : 2 * rs.length + 20 ≤ k) : spec_l3Mate.f k rs (i : Int) = some ((endP (clsV rs) (mtC (clsV rs)) i : Nat) : Int) := by
  unfold spec_l3Mate.f
  rw [mate_l hn (rs.length - i) k i 0 rfl (by omega) (.inr ⟨rfl, ho⟩) (by omega) (by omega), ← mt_scan (by rw [clsV_len]; exact hi) (by rw [clsV_get hi]; exact ho), clsV_len]
theorem endP_gt {cls : List Int} {i : Nat} (hi : i < cls.length) : i < endP cls (mtC cls) i ∧ endP cls (mtC cls) i ≤ cls.length := by
  unfold endP
  cases e : mtC cls i with
  | none => exact ⟨hi, Nat.le_refl _⟩
  | some m =>
    obtain ⟨p, m', e1, e2, e3, e4, _⟩ := mt_inv e
    subst e2
    obtain rfl : p = i := by omega
    simp only [Int.toNat_natCast]
    omega
theorem sideF_end {cls : List Int} {mt : Int → Option Int} {tg g i : Nat} (h : tg ≤ i) : sideF cls mt tg g i = 0 := by
  cases g with
  | zero => rfl
  | succ g => rw [sideF, if_neg (by omega)]
theorem base_l {rs : List Int} (hn : rs.length ≤ 400) (tg : Nat) (ht : tg ≤ rs.length) : ∀ (g k i : Nat), rs.length + 1 - i ≤ g → 2 * (rs.length - i) + 2 * rs.length + 30 ≤ k → spec_l3Base.l0 k rs (tg : Int) (i : Int) = some (sideF (clsV rs) (mtC (clsV rs)) tg g i)
  | 0, k, i, hg, hk => by
    obtain ⟨k, rfl⟩ : ∃ m, k = m + 1 := ⟨k - 1, by omega⟩
    rw [spec_l3Base.l0, if_neg (by omega)]
    rfl
  | g + 1, k, i, hg, hk => by
    obtain ⟨k, rfl⟩ : ∃ m, k = m + 2 := ⟨k - 2, by omega⟩
    rw [spec_l3Base.l0, sideF]
    by_cases hlt : i < tg
    · have e1 : wrap64 ((i : Int) + 1) = ((i + 1 : Nat) : Int) := by rw [w64 (by omega) (by omega)]; omega
      rw [if_pos (by omega), if_pos hlt, if_pos (by omega), if_pos (by omega), spec_bidi_k (by omega), Option.bind_some, rd_nat, clsV_get (by omega)]
      have hm : opensB (bidiV (rs.getD i 0)) = true → spec_l3Mate.f k rs (i : Int) = some ((endP (clsV rs) (mtC (clsV rs)) i : Nat) : Int) := fun ho => mate_m hn (by omega) ho (by omega)
      generalize bidiV (rs.getD i 0) = c at hm
      by_cases h1 : c = 1
      · rw [if_pos h1, if_pos h1]
      rw [if_neg h1, if_neg h1]
      by_cases h2 : c = 2
      · subst h2
        rw [if_pos rfl, if_pos (.inl rfl), spec_l3Base.j1, if_pos (by decide)]
      by_cases h3 : c = 3
      · subst h3
        rw [if_neg (by decide), if_pos (.inr rfl), spec_l3Base.j1, if_pos (by decide)]
      rw [if_neg h2, if_neg (by omega), spec_l3Base.j1, if_neg (by simpa using h3), opens_p, Option.bind_some]
      cases ho : opensB c with
      | true =>
        have hg2 := endP_gt (cls := clsV rs) (i := i) (by rw [clsV_len]; omega)
        rw [clsV_len] at hg2
        rw [if_pos rfl, if_pos rfl, hm ho, Option.bind_some, w64 (by omega) (by omega), show ((endP (clsV rs) (mtC (clsV rs)) i : Nat) : Int) + 1 = ((endP (clsV rs) (mtC (clsV rs)) i + 1 : Nat) : Int) by omega, base_l hn tg ht g k _ (by omega) (by omega)]
        unfold endP
        cases e : mtC (clsV rs) i with
        | none => simp only; rw [clsV_len, sideF_end (by omega)]
        | some m => rfl
      | false =>
        rw [if_neg (by decide), if_neg (by decide), e1, base_l hn tg ht g k (i + 1) (by omega) (by omega)]
    · rw [if_neg (by omega), if_neg hlt]
theorem base_m {rs : List Int} (hn : rs.length ≤ 400) {tg i k : Nat} (ht : tg ≤ rs.length) (hk : 4 * rs.length + 30 ≤ k) : spec_l3Base.f k rs ((i : Int) + 1) (tg : Int) = some (sideF (clsV rs) (mtC (clsV rs)) tg ((clsV rs).length + 1) (i + 1)) := by
  unfold spec_l3Base.f
  rw [show (i : Int) + 1 = ((i + 1 : Nat) : Int) by omega, base_l hn tg ht (rs.length + 1) k (i + 1) (by omega) (by omega), clsV_len]
theorem walk_told {k : Nat} {rs : List Int} {base : Int} (hn : rs.length ≤ 400) (h0 : 0 ≤ base) (h1 : base ≤ 100) (hk : 4 * rs.length + 30 ≤ k) : ∀ j, j ≤ rs.length → ∃ s, walkF k rs base j = some s ∧ RelT s (toldS (clsV rs) (mtC (clsV rs)) base j) ∧
    s.lv = toldL (clsV rs) (mtC (clsV rs)) base j ++ List.replicate (rs.length - j) 0 ∧ s.cl = toldC (clsV rs) (mtC (clsV rs)) base j ++ List.replicate (rs.length - j) 0
  | 0, _ => ⟨walkS rs.length base, rfl, ⟨rfl, rfl, rfl⟩, rfl, rfl⟩
  | j + 1, hj => by
    obtain ⟨s, q1, q2, q3, q4⟩ := walk_told hn h0 h1 hk j (by omega)
    have hL := toldL_len (clsV rs) (mtC (clsV rs)) base j
    have hC := toldC_len (clsV rs) (mtC (clsV rs)) base j
    have hi := inv_told (clsV rs) (mtC (clsV rs)) base h0 h1 j
    have hw := inv_walk j s q1
    rw [show rs.length - j = (rs.length - (j + 1)) + 1 by omega, List.replicate_succ] at q3 q4
    have hat : AtL { s with lv := s.lv.set j (-1) } (toldL (clsV rs) (mtC (clsV rs)) base j) (toldC (clsV rs) (mtC (clsV rs)) base j) (List.replicate (rs.length - (j + 1)) 0) j (-1) 0 := by
      refine ⟨?_, q4, hL, hC⟩
      have := set_mid (toldL (clsV rs) (mtC (clsV rs)) base j) (List.replicate (rs.length - (j + 1)) 0) 0 (-1)
      rw [hL, ← q3] at this
      exact this
    have hw' : InvW rs.length (2 * j) { s with lv := s.lv.set j (-1) } := by
      obtain ⟨a, b⟩ := hw
      exact ⟨by simpa using a, b⟩
    obtain ⟨s', p1, p2, p3⟩ := letter_rel (k := k) (rs := rs) (cls := clsV rs) (mt := mtC (clsV rs)) (s := { s with lv := s.lv.set j (-1) }) (t := toldS (clsV rs) (mtC (clsV rs)) base j) q2 hi hw' hat (by rw [clsV_get (by omega), spec_bidi_k (by omega)]) (fun h21 => by
      have ho : opensB (bidiV (rs.getD j 0)) = true := by rw [← clsV_get (by omega), h21]; rfl
      have hg2 := endP_gt (cls := clsV rs) (i := j) (by rw [clsV_len]; omega)
      rw [clsV_len] at hg2
      exact ⟨_, _, mate_m hn (by omega) ho (by omega), base_m hn hg2.2 (by omega), rfl⟩)
    refine ⟨s', by rw [walkF, q1, Option.bind_some, p1], p2, ?_, ?_⟩
    · rw [p3.1, toldL_succ, List.append_assoc]; rfl
    · rw [p3.2.1, toldC_succ, List.append_assoc]; rfl
theorem l3Ok_p {l : List Int} {b : Int} {k : Nat} (hn : l.length ≤ 1099511627776) (hk : l.length < k) : spec_l3Ok.f k l b = some (okV l && baseB b) := by
  unfold spec_l3Ok.f
  rw [ok_p hn hk, Option.bind_some]
  cases okV l with
  | false => rfl
  | true =>
    rw [if_pos rfl, l1In_b, Option.bind_some, Bool.true_and]
    congr 1
    unfold baseB
    by_cases h1 : b = 0
    · subst h1; rfl
    · by_cases h2 : b = 1
      · subst h2; rfl
      · simp [h1, h2]; omega
/-- What LevelsTold answers. -/
def toldV (l : List Int) (b : Int) : List Int × List Int := if okV l = true ∧ baseB b = true then toldLC (clsV l) b else ([], [])
theorem implTold_p (l : List Int) (b : Int) : impl_LevelsTold.f l b = some (toldV l b) := by
  unfold impl_LevelsTold.f toldV
  split
  · rw [clsO_p, Option.bind_some]
  · rfl
theorem specTold_p {l : List Int} {b : Int} {k : Nat} (hn : l.length ≤ 1099511627776) (hk : l.length < k) (hk2 : 2000 ≤ k) : spec_LevelsTold.f k l b = some (toldV l b) := by
  unfold spec_LevelsTold.f toldV
  rw [l3Ok_p hn hk, Option.bind_some]
  by_cases hok : okV l = true
  · by_cases hb : baseB b = true
    · have h80 := ok_len hok
      have hb01 : 0 ≤ b ∧ b ≤ 100 := by
        unfold baseB at hb
        rw [Bool.or_eq_true, decide_eq_true_eq, decide_eq_true_eq] at hb
        omega
      obtain ⟨s, q1, _, q3, q4⟩ := walk_told (k := k) (rs := l) (base := b) (by omega) hb01.1 hb01.2 (by omega) l.length (Nat.le_refl _)
      rw [hok, hb, if_pos (by decide), if_pos (by omega), if_pos ⟨rfl, rfl⟩, q1, Option.bind_some, q3, q4, Nat.sub_self]
      simp only [List.replicate_zero, List.append_nil]
      unfold toldLC
      rw [clsV_len]
      unfold mtC
      rw [clsV_len]
    · rw [if_neg (by simp [hb]), if_neg (fun h => hb h.2)]
  · rw [if_neg (by simp [hok]), if_neg (fun h => hok h.1)]
theorem toldV_len (l : List Int) (b : Int) : (toldV l b).1.length ≤ l.length ∧ (toldV l b).2.length ≤ l.length := by
  unfold toldV
  split
  · unfold toldLC
    rw [toldL_len, toldC_len, clsV_len]
    exact ⟨Nat.le_refl _, Nat.le_refl _⟩
  · simp
end Go.Proofs.Ytojehfdioeglgaa.Pure
/- What levels are told. -/
namespace Go.Proofs.Ytojehfdioeglgaa.Pure
open Go.RowKit Go.Proofs.Ytojehfdioeglgaa.S Go.Proofs.YtojehfdioeglgaaW.PrintWords Go.Proofs.YtojehfdioeglgaaW.PrintLast
/-- No level of the stack is above 20. -/
def Low (t : TeS) : Prop := ∀ e ∈ t.st, 0 ≤ e.f0 ∧ e.f0 ≤ 20
theorem low_push {t : TeS} (h : Low t) (r : Bool) (d : Int) (a : Bool) : Low (pushT r d a t) := by
  have ht : 0 ≤ topT t := by
    unfold topT
    cases e : t.st with
    | nil => exact Int.le_refl _
    | cons x y => exact (h x (by rw [e]; simp)).1
  have hu : 0 ≤ upT (topT t) r := by
    unfold upT
    split <;> omega
  unfold pushT
  split
  · rename_i hc
    intro x hx
    rcases List.mem_cons.mp hx with rfl | hx
    · exact ⟨hu, hc.1⟩
    · exact h x hx
  · split
    · exact h
    · split <;> exact h
theorem low_pop {t : TeS} (h : Low t) : Low (popT t) := by
  unfold popT
  split
  · exact h
  · split
    · exact h
    · split
      · rename_i e e2 r hs
        split
        · exact fun x hx => h x (by rw [hs]; exact List.mem_cons_of_mem _ hx)
        · exact h
      · exact h
theorem low_close {t : TeS} (h : Low t) : Low (closeT t) := by
  unfold closeT
  split
  · exact h
  · split
    · exact fun x hx => h x (popAl_mem _ x hx)
    · exact h
theorem low_tell {t : TeS} (cls : List Int) (mt : Int → Option Int) (k : Nat) (h : Low t) : Low (tellS cls mt k t) := by
  unfold tellS
  repeat' split
  all_goals first | exact low_push h _ _ _ | exact low_pop h | exact low_close h | exact h
theorem low_told (cls : List Int) (mt : Int → Option Int) {base : Int} (h0 : 0 ≤ base) (h1 : base ≤ 20) : ∀ j, Low (toldS cls mt base j)
  | 0 => fun e he => by rw [toldS, List.mem_singleton] at he; subst he; exact ⟨h0, h1⟩
  | j + 1 => low_tell cls mt j (low_told cls mt h0 h1 j)
theorem low_top {t : TeS} (h : Low t) : 0 ≤ (topE t).f0 ∧ (topE t).f0 ≤ 20 := by
  unfold topE
  cases e : t.st with
  | nil => exact ⟨by decide, by decide⟩
  | cons x y => exact h x (by rw [e]; simp)
theorem tellL_no {c : Int} (h : noLv c = true) (t : TeS) : tellL c t = -1 := by
  unfold tellL
  rw [if_pos h]
theorem tellL_low {c : Int} (h : noLv c = false) {t : TeS} (hl : Low t) : 0 ≤ tellL c t ∧ tellL c t ≤ 20 := by
  unfold tellL
  rw [h, if_neg (by decide)]
  split
  · exact low_top (low_close hl)
  · exact low_top hl
def init (base : Int) : TeS := ⟨[⟨base, 0, false⟩], 0, 0⟩
theorem tellS_init {cls : List Int} {mt : Int → Option Int} {k : Nat} {base : Int} (h : cls.getD k 0 < 14) : tellS cls mt k (init base) = init base := by
  unfold tellS
  rw [if_neg (by omega), if_neg (by omega), if_neg (by omega), if_neg (by omega), if_neg (by omega)]
  split
  · rfl
  · rw [if_neg (by omega), if_neg (by omega), if_neg (by omega), if_neg (by omega)]
theorem tellL_init {c : Int} (h : noLv c = false) (base : Int) : tellL c (init base) = base := by
  unfold tellL
  rw [h, if_neg (by decide)]
  split <;> rfl
theorem toldL_get (cls : List Int) (mt : Int → Option Int) (base : Int) {n i : Nat} (h : i < n) : (toldL cls mt base n).getD i 0 = tellL (cls.getD i 0) (toldS cls mt base i) := by
  unfold toldL
  simp [List.getD_eq_getElem?_getD, h]
theorem toldC_get (cls : List Int) (mt : Int → Option Int) (base : Int) {n i : Nat} (h : i < n) : (toldC cls mt base n).getD i 0 = tellC (cls.getD i 0) (toldS cls mt base i) := by
  unfold toldC
  simp [List.getD_eq_getElem?_getD, h]
end Go.Proofs.Ytojehfdioeglgaa.Pure
/- What the reference's drawing answers always: something, and of bounded length. -/
namespace Go.Proofs.Ytojehfdioeglgaa.Pure
open Go.RowKit Go.Proofs.Ytojehfdioeglgaa.S Go.Proofs.YtojehfdioeglgaaW.PrintWords Go.Proofs.YtojehfdioeglgaaW.PrintLast
theorem xor_k {x y : Int} (hx : 0 ≤ x) (hx' : x < 4611686018427387904) (hy : 0 ≤ y) (hy' : y < 4611686018427387904) : 0 ≤ Go.bits .xor .i64 x y := by
  obtain ⟨a, rfl⟩ : ∃ a : Nat, x = (a : Int) := ⟨x.toNat, by omega⟩
  obtain ⟨b, rfl⟩ : ∃ b : Nat, y = (b : Int) := ⟨y.toNat, by omega⟩
  have e : (BitVec.ofInt 64 (a : Int) ^^^ BitVec.ofInt 64 (b : Int)).toNat < 2 ^ 62 := by
    rw [BitVec.toNat_xor, BitVec.ofInt_natCast, BitVec.ofInt_natCast, BitVec.toNat_ofNat, BitVec.toNat_ofNat, Nat.mod_eq_of_lt (by omega), Nat.mod_eq_of_lt (by omega)]
    exact Nat.xor_lt_two_pow (by omega) (by omega)
  show 0 ≤ IntKind.wrap .i64 ((BitVec.ofInt 64 (a : Int) ^^^ BitVec.ofInt 64 (b : Int)).toNat : Int)
  generalize (BitVec.ofInt 64 (a : Int) ^^^ BitVec.ofInt 64 (b : Int)).toNat = n at e
  rw [IntWalk.i64_in _ (by omega)]
  omega
def DS (s : List Int) : Prop := s.length ≤ 2000 ∧ ∀ x ∈ s, 0 ≤ x ∧ x ≤ 255
theorem rd_byte {s : List Int} (h : DS s) (i : Int) : 0 ≤ rd s i ∧ rd s i ≤ 255 := by
  unfold rd
  by_cases hi : i.toNat < s.length
  · have := h.2 s[i.toNat] (List.getElem_mem hi)
    simpa [List.getD_eq_getElem?_getD, hi] using this
  · simp [List.getD_eq_getElem?_getD, hi]
set_option maxHeartbeats 8000000 in
theorem pick_k {s : List Int} (hs : DS s) {p n : Int} {k : Nat} (h0 : 0 ≤ p) (h1 : p ≤ 1000000) (hn : 1 ≤ n) (hn' : n ≤ 1000000) (hk : 1 ≤ k) : ∃ v, spec_l1Rd_pick.f k s p n = some (v, p + 1) ∧ 0 ≤ v ∧ v < n := by
  obtain ⟨k, rfl⟩ : ∃ m, k = m + 1 := ⟨k - 1, by omega⟩
  have hl := hs.1
  unfold spec_l1Rd_pick.f
  rw [if_neg (by omega), w64 (by omega) (by omega), spec_l1Rd_pick.j0]
  by_cases hz : s.length = 0
  · rw [if_pos (by simp [hz])]
    exact ⟨0, rfl, by omega, by omega⟩
  · rw [if_neg (by simpa using hz), w64 (x := p + 1 - 1) (by omega) (by omega), show p + 1 - 1 = p by omega]
    by_cases hp : p < (s.length : Int)
    · have hb := rd_byte hs p
      rw [if_pos hp, if_pos h0, if_neg (by omega), w64 (by omega) (by omega)]
      refine ⟨_, rfl, Int.tmod_nonneg _ hb.1, Int.tmod_lt_of_pos _ (by omega)⟩
    · have hd := Int.tdiv_eq_ediv_of_nonneg (b := (s.length : Int)) h0
      have hd0 : 0 ≤ p / (s.length : Int) := Int.ediv_nonneg h0 (by omega)
      have hd1 : p / (s.length : Int) ≤ p := Int.ediv_le_self _ h0
      have e1 := Int.tmod_nonneg (s.length : Int) h0
      have e2 := Int.tmod_lt_of_pos p (show 0 < (s.length : Int) by omega)
      have e3 := Int.tmod_nonneg (s.length : Int) (show 0 ≤ p * 7 + 3 by omega)
      have e4 := Int.tmod_lt_of_pos (p * 7 + 3) (show 0 < (s.length : Int) by omega)
      rw [hd, w64 (x := p * 7) (by omega) (by omega), w64 (x := p * 7 + 3) (by omega) (by omega), w64 (x := p * 29) (by omega) (by omega)]
      generalize p / (s.length : Int) = dv at hd0 hd1
      generalize Int.tmod p (s.length : Int) = i1 at e1 e2
      generalize Int.tmod (p * 7 + 3) (s.length : Int) = i2 at e3 e4
      have b1 := rd_byte hs i1
      have b2 := rd_byte hs i2
      generalize rd s i1 = c1 at b1
      generalize rd s i2 = c2 at b2
      rw [if_neg hp, if_neg (by omega), if_pos e1, if_pos e2, if_pos e3, if_pos e4, if_neg (by omega), w64 (x := dv) (by omega) (by omega), w64 (x := c1) (by omega) (by omega), w64 (x := c2) (by omega) (by omega), w64 (x := c1 * 131) (by omega) (by omega), w64 (x := c2 * 1117) (by omega) (by omega),
        w64 (x := dv * 53) (by omega) (by omega), w64 (x := c1 * 131 + c2 * 1117) (by omega) (by omega), w64 (x := c1 * 131 + c2 * 1117 + p * 29) (by omega) (by omega), w64 (x := c1 * 131 + c2 * 1117 + p * 29 + dv * 53) (by omega) (by omega)]
      have hh : 0 ≤ c1 * 131 + c2 * 1117 + p * 29 + dv * 53 ∧ c1 * 131 + c2 * 1117 + p * 29 + dv * 53 ≤ 1099511627776 := by omega
      generalize c1 * 131 + c2 * 1117 + p * 29 + dv * 53 = hv at hh
      rw [Int.tdiv_eq_ediv_of_nonneg hh.1, w64 (x := hv / 64) (by omega) (by omega)]
      exact ⟨_, rfl, Int.tmod_nonneg _ (xor_k hh.1 (by omega) (by omega) (by omega)), Int.tmod_lt_of_pos _ (by omega)⟩
theorem one_k {s L : List Int} (hs : DS s) {p : Int} {k : Nat} (h0 : 0 ≤ p) (h1 : p ≤ 1000000) (hn : 1 ≤ L.length) (hn' : L.length ≤ 100) (hk : 1 ≤ k) : ∃ v, spec_l1Rd_one.f k s p L = some (v, p + 1) := by
  obtain ⟨v, hv, v0, v1⟩ := pick_k hs (p := p) (n := (L.length : Int)) h0 h1 (by omega) (by omega) hk
  refine ⟨rd L v, ?_⟩
  unfold spec_l1Rd_one.f
  rw [hv, Option.bind_some, if_pos v0, if_pos v1]
def Ok1 (o : Option (Int × Int)) (q : Int) : Prop := ∃ v p', o = some (v, p') ∧ q ≤ p' ∧ p' ≤ q + 2
theorem one_b {s L : List Int} (hs : DS s) {p q : Int} {k : Nat} (h0 : 0 ≤ p) (h1 : p ≤ 1000000) (hq : q ≤ p) (hq' : p ≤ q + 1) (hn : 1 ≤ L.length ∧ L.length ≤ 100) (hk : 1 ≤ k) :
    Ok1 ((spec_l1Rd_one.f k s p L).bind fun (bt : Int × Int) => (some (bt.1, bt.2))) q := by
  obtain ⟨v, hv⟩ := one_k hs (L := L) h0 h1 hn.1 hn.2 hk
  exact ⟨v, p + 1, by rw [hv]; rfl, by omega, by omega⟩
theorem ok_ite {c : Prop} [Decidable c] {a b : Option (Int × Int)} {q : Int} (h1 : Ok1 a q) (h2 : Ok1 b q) : Ok1 (if c then a else b) q := by
  split <;> assumption
set_option maxHeartbeats 8000000 in
theorem rune_k {s : List Int} (hs : DS s) {p : Int} {k : Nat} (h0 : 0 ≤ p) (h1 : p ≤ 900000) (hk : 4 ≤ k) : Ok1 (spec_l13Rune.f k s p) p := by
  obtain ⟨k, rfl⟩ : ∃ m, k = m + 4 := ⟨k - 4, by omega⟩
  obtain ⟨n, hv, v0, v1⟩ := pick_k hs (p := p) (n := 16) (k := k + 4) h0 (by omega) (by omega) (by omega) (by omega)
  unfold spec_l13Rune.f
  rw [hv, Option.bind_some]
  simp only [spec_l13Rune.j0, spec_l13Rune.j1, spec_l13Rune.j2]
  have leaf : Ok1 (some (32, p + 1)) p := ⟨_, _, rfl, by omega, by omega⟩
  repeat' first
    | exact leaf
    | exact one_b hs (by omega) (by omega) (by omega) (by omega) (by decide) (by omega)
    | refine ok_ite ?_ ?_
theorem runes1_k {s : List Int} (hs : DS s) : ∀ (d k : Nat) (x : List Int) (p : Int), 80 - x.length = d → 0 ≤ p → p + d ≤ 900000 → x.length ≤ 200 → d + 4 < k →
    ∃ y p', spec_l13Runes.l1 k x s p = some (y, p') ∧ p ≤ p' ∧ p' ≤ p + d ∧ y.length ≤ 200
  | 0, k, x, p, hd, h0, h1, hx, hk => by
    obtain ⟨k, rfl⟩ : ∃ m, k = m + 1 := ⟨k - 1, by omega⟩
    rw [spec_l13Runes.l1, if_neg (by omega)]
    exact ⟨_, _, rfl, by omega, by omega, hx⟩
  | d + 1, k, x, p, hd, h0, h1, hx, hk => by
    obtain ⟨k, rfl⟩ : ∃ m, k = m + 1 := ⟨k - 1, by omega⟩
    obtain ⟨v, hv⟩ := one_k hs (L := [8235, 8238, 8295, 1488, 97]) (p := p) (k := k) h0 (by omega) (by decide) (by decide) (by omega)
    rw [spec_l13Runes.l1, if_pos (by omega), hv, Option.bind_some, if_pos (by omega)]
    obtain ⟨y, p', e, e1, e2, e3⟩ := runes1_k hs d k (x ++ [v]) (p + 1) (by simp; omega) (by omega) (by omega) (by simp; omega) (by omega)
    exact ⟨y, p', e, by omega, by omega, e3⟩
theorem runes0_k {s : List Int} (hs : DS s) : ∀ (d k : Nat) (x : List Int) (p : Int), 0 ≤ p → p + 2 * d ≤ 800000 → x.length + d ≤ 100 → d + 90 < k →
    ∃ y p', spec_l13Runes.l0 k x (d : Int) s p = some (y, p') ∧ p ≤ p' ∧ p' ≤ p + 2 * d + 90 ∧ y.length ≤ 200
  | 0, k, x, p, h0, h1, hx, hk => by
    obtain ⟨k, rfl⟩ : ∃ m, k = m + 1 := ⟨k - 1, by omega⟩
    obtain ⟨n, hv, v0, v1⟩ := pick_k hs (p := p) (n := 24) (k := k) h0 (by omega) (by omega) (by omega) (by omega)
    rw [spec_l13Runes.l0, if_neg (by omega), hv, Option.bind_some]
    by_cases hn : n = 0
    · rw [if_pos hn]
      obtain ⟨y, p', e, e1, e2, e3⟩ := runes1_k hs (80 - x.length) k x (p + 1) rfl (by omega) (by omega) (by omega) (by omega)
      exact ⟨y, p', e, by omega, by omega, e3⟩
    · rw [if_neg hn]
      exact ⟨_, _, rfl, by omega, by omega, by omega⟩
  | d + 1, k, x, p, h0, h1, hx, hk => by
    obtain ⟨k, rfl⟩ : ∃ m, k = m + 1 := ⟨k - 1, by omega⟩
    obtain ⟨v, q, hv, hq, hq'⟩ := rune_k hs (p := p) (k := k) h0 (by omega) (by omega)
    rw [spec_l13Runes.l0, if_pos (by omega), hv, Option.bind_some, if_pos (by omega), w64 (by omega) (by omega), show ((d + 1 : Nat) : Int) - 1 = (d : Int) by omega]
    obtain ⟨y, p', e, e1, e2, e3⟩ := runes0_k hs d k (x ++ [v]) q (by omega) (by omega) (by simp; omega) (by omega)
    exact ⟨y, p', e, by omega, by omega, e3⟩
theorem runes_k {s : List Int} (hs : DS s) {p : Int} {k : Nat} (h0 : 0 ≤ p) (h1 : p ≤ 700000) (hk : 200 ≤ k) : ∃ y p', spec_l13Runes.f k s p = some (y, p') ∧ p ≤ p' ∧ p' ≤ p + 200 ∧ y.length ≤ 200 := by
  obtain ⟨n, hv, v0, v1⟩ := pick_k hs (p := p) (n := 24) (k := k) h0 (by omega) (by omega) (by omega) (by omega)
  unfold spec_l13Runes.f
  rw [hv, Option.bind_some]
  obtain ⟨m, rfl⟩ : ∃ m : Nat, n = (m : Int) := ⟨n.toNat, by omega⟩
  obtain ⟨y, p', e, e1, e2, e3⟩ := runes0_k hs m k [] (p + 1) (by omega) (by omega) (by simp; omega) (by omega)
  exact ⟨y, p', e, by omega, by omega, e3⟩
theorem any0_k {s : List Int} : ∀ (d k : Nat) (x : List Int) (p : Int), 81 - x.length = d → x.length ≤ 300 → d < k → ∃ y, spec_l13Any.l0 k x s p = some (y, p) ∧ y.length ≤ 300
  | 0, k, x, p, hd, hx, hk => by
    obtain ⟨k, rfl⟩ : ∃ m, k = m + 1 := ⟨k - 1, by omega⟩
    rw [spec_l13Any.l0, if_neg (by omega)]
    exact ⟨_, rfl, hx⟩
  | d + 1, k, x, p, hd, hx, hk => by
    obtain ⟨k, rfl⟩ : ∃ m, k = m + 1 := ⟨k - 1, by omega⟩
    rw [spec_l13Any.l0, if_pos (by omega), if_pos (by omega)]
    exact any0_k d k (x ++ [97]) p (by simp; omega) (by simp; omega) (by omega)
theorem any_k {s : List Int} (hs : DS s) {p : Int} {k : Nat} (h0 : 0 ≤ p) (h1 : p ≤ 600000) (hk : 300 ≤ k) : ∃ y p', spec_l13Any.f k s p = some (y, p') ∧ p ≤ p' ∧ p' ≤ p + 300 ∧ y.length ≤ 300 := by
  obtain ⟨y, q, hr, q0, q1, hy⟩ := runes_k hs (p := p) (k := k) h0 (by omega) (by omega)
  obtain ⟨n, hv, v0, v1⟩ := pick_k hs (p := q) (n := 24) (k := k) (by omega) (by omega) (by omega) (by omega) (by omega)
  unfold spec_l13Any.f
  rw [hr, Option.bind_some, hv, Option.bind_some]
  by_cases hn : n = 0
  · obtain ⟨v, hv2⟩ := one_k hs (L := [-1, 55296, 57343, 1114112]) (p := q + 1) (k := k) (by omega) (by omega) (by decide) (by decide) (by omega)
    rw [if_pos hn, hv2, Option.bind_some, if_pos (by simp only; omega)]
    exact ⟨_, _, rfl, by omega, by omega, by simp; omega⟩
  · rw [if_neg hn]
    by_cases hn1 : n = 1
    · rw [if_pos hn1]
      obtain ⟨z, e, hz⟩ := any0_k (s := s) (81 - y.length) k y (q + 1) rfl (by omega) (by omega)
      exact ⟨z, q + 1, e, by omega, by omega, hz⟩
    · rw [if_neg hn1]
      exact ⟨_, _, rfl, by omega, by omega, by simp; omega⟩
theorem open_k {l : List Int} (hl : ∀ x ∈ l, (Lit.int .u8 x).wf = true) : ∃ s, spec_l1Open.f l = some (s, 0) ∧ DS s := by
  have hb : ∀ x ∈ l, 0 ≤ x ∧ x ≤ 255 := by
    intro x hx
    have := hl x hx
    simp [Lit.wf, IntKind.min, IntKind.max, IntKind.bits, IntKind.signed] at this
    omega
  unfold spec_l1Open.f
  by_cases h : (l.length : Int) > 2000
  · rw [if_pos h, if_pos (by omega)]
    exact ⟨_, rfl, by simp; omega, fun x hx => hb x (List.mem_of_mem_take hx)⟩
  · rw [if_neg h]
    exact ⟨_, rfl, by omega, hb⟩
end Go.Proofs.Ytojehfdioeglgaa.Pure
/- Two rows that are one are told to be the same. -/
namespace Go.Proofs.Ytojehfdioeglgaa.Pure
open Go.RowKit Go.Proofs.Ytojehfdioeglgaa.S Go.Proofs.YtojehfdioeglgaaW.PrintWords Go.Proofs.YtojehfdioeglgaaW.PrintLast
theorem wcInts_rl (a : List Int) (hn : a.length ≤ 1099511627776) : ∀ (d k i : Nat), a.length - i = d → i ≤ a.length → d < k → laws_wcInts.l0 k a a (i : Int) = some true
  | 0, k, i, hd, hi, hk => by
    obtain ⟨k, rfl⟩ : ∃ m, k = m + 1 := ⟨k - 1, by omega⟩
    rw [laws_wcInts.l0, if_neg (by omega)]
  | d + 1, k, i, hd, hi, hk => by
    obtain ⟨k, rfl⟩ : ∃ m, k = m + 1 := ⟨k - 1, by omega⟩
    have ih := wcInts_rl a hn d k (i + 1) (by omega) (by omega) (by omega)
    rw [laws_wcInts.l0, if_pos (by omega), if_pos (by omega), if_pos (by omega), if_pos rfl, w64 (by omega) (by omega), show ((i : Int) + 1) = ((i + 1 : Nat) : Int) by omega, ih]
theorem wcInts_r {a : List Int} {k : Nat} (hn : a.length ≤ 1099511627776) (hk : a.length < k) : laws_wcInts.f k a a = some true := by
  unfold laws_wcInts.f
  rw [if_pos rfl]
  have := wcInts_rl a hn a.length k 0 (by omega) (by omega) hk
  rw [show ((0 : Nat) : Int) = 0 from rfl] at this
  exact this
end Go.Proofs.Ytojehfdioeglgaa.Pure
/- What only tells how others are read has no level, all else has one of 0 to 20, and ahead of what tells it is the one at first: of all drawn letters and levels, for every code. No condition beyond the statement's own. -/
namespace Go.Proofs.Ytojehfdioeglgaa.Pure
open Go.RowKit Go.Proofs.Ytojehfdioeglgaa.S Go.Proofs.YtojehfdioeglgaaW.PrintWords Go.Proofs.YtojehfdioeglgaaW.PrintLast
theorem drawTold_k {l : List Int} (hl : ∀ x ∈ l, (Lit.int .u8 x).wf = true) {k : Nat} (hk : 1000 ≤ k) : ∃ t b, spec_DrawLevelsTold.f k l = some (t, b) ∧ t.length ≤ 300 := by
  obtain ⟨s, hs, hD⟩ := open_k hl
  obtain ⟨y, p', hy, y0, y1, y2⟩ := any_k hD (p := 0) (k := k) (by omega) (by omega) (by omega)
  obtain ⟨g, hg, g0, g1⟩ := pick_k hD (p := p') (n := 18) (k := k) (by omega) (by omega) (by omega) (by omega) (by omega)
  unfold spec_DrawLevelsTold.f spec_l13Base.f
  rw [hs, Option.bind_some, hy, Option.bind_some, Option.bind_some, hg, Option.bind_some, w64 (x := g * 6) (by omega) (by omega)]
  have e : Int.tdiv (g * 6) 18 = g * 6 / 18 := Int.tdiv_eq_ediv_of_nonneg (by omega)
  rw [e, w64 (by omega) (by omega), if_pos (by omega), if_pos (by simp; omega)]
  exact ⟨_, _, rfl, y2⟩
theorem wcIn_p (a b c : Int) : laws_wcIn.f a b c = some (decide (b ≤ a) && decide (a ≤ c)) := by
  unfold laws_wcIn.f
  by_cases h : b ≤ a <;> simp [h]
theorem noLv_iff (c : Int) : noLv c = (decide (c = 10) || (decide (14 ≤ c) && decide (c ≤ 18))) := by
  unfold noLv
  by_cases h : c = 10
  · subst h; rfl
  · by_cases h1 : 14 ≤ c ∧ c ≤ 18
    · have : c = 14 ∨ c = 15 ∨ c = 16 ∨ c = 17 ∨ c = 18 := by omega
      rcases this with rfl | rfl | rfl | rfl | rfl <;> rfl
    · have a1 : c ≠ 14 := by omega
      have a2 : c ≠ 15 := by omega
      have a3 : c ≠ 16 := by omega
      have a4 : c ≠ 17 := by omega
      have a5 : c ≠ 18 := by omega
      have : (decide (14 ≤ c) && decide (c ≤ 18)) = false := by
        rw [Bool.and_eq_false_iff, decide_eq_false_iff_not, decide_eq_false_iff_not]
        omega
      simp [this, h, a1, a2, a3, a4, a5]
theorem lawTold_l {t : List Int} {b : Int} (ht : t.length ≤ 80) (hb : b = 0 ∨ b = 1) {L C : List Int} (hL : L = toldL (clsV t) (mtC (clsV t)) b t.length) (hC : C.length = t.length) : ∀ (d k i : Nat) (told : Bool), t.length - i = d → i ≤ t.length → d + 30 < k → (told = false → toldS (clsV t) (mtC (clsV t)) b i = init b) → laws_FnLevelsTold.l0 k t b L C told (i : Int) = some true
  | 0, k, i, told, hd, hi, hk, _ => by
    obtain ⟨k, rfl⟩ : ∃ m, k = m + 1 := ⟨k - 1, by omega⟩
    have hl : L.length = t.length := by rw [hL, toldL_len]
    rw [laws_FnLevelsTold.l0, if_neg (by omega), if_pos (by omega), hC]
    simp
  | d + 1, k, i, told, hd, hi, hk, hT => by
    obtain ⟨k, rfl⟩ : ∃ m, k = m + 1 := ⟨k - 1, by omega⟩
    have hl : L.length = t.length := by rw [hL, toldL_len]
    have ih := fun told' => lawTold_l ht hb hL hC d k (i + 1) told' (by omega) (by omega) (by omega)
    have hlow := low_told (clsV t) (mtC (clsV t)) (base := b) (by omega) (by omega) i
    have e1 : wrap64 ((i : Int) + 1) = ((i + 1 : Nat) : Int) := by rw [w64 (by omega) (by omega)]; omega
    rw [laws_FnLevelsTold.l0, if_pos (by omega), if_pos (by omega), spec_bidi_k (by omega), Option.bind_some, rd_nat, rd_nat, ← clsV_get (by omega : i < t.length), e1, show L.getD i 0 = tellL ((clsV t).getD i 0) (toldS (clsV t) (mtC (clsV t)) b i) by rw [hL, toldL_get _ _ _ (by omega)]]
    have hnext : ∀ c, (clsV t).getD i 0 = c → c < 14 → toldS (clsV t) (mtC (clsV t)) b i = init b → toldS (clsV t) (mtC (clsV t)) b (i + 1) = init b := fun c hc h14 h => by
      rw [toldS, h, tellS_init (by rw [hc]; exact h14)]
    have hno := noLv_iff ((clsV t).getD i 0)
    generalize (clsV t).getD i 0 = c at hnext hno
    generalize toldS (clsV t) (mtC (clsV t)) b i = s at hlow hT hnext
    have hfin : ∀ told', (told' = false → told = false ∧ c < 14) → laws_FnLevelsTold.l0 k t b L C told' ((i + 1 : Nat) : Int) = some true := fun told' h => ih told' (fun h2 => hnext c rfl (h h2).2 (hT (h h2).1))
    have i1 := hfin true (fun h => by cases h)
    have i2 : told = false → laws_FnLevelsTold.l0 k t b L C (decide (c ≥ 14)) ((i + 1 : Nat) : Int) = some true := fun h => hfin _ (fun h2 => ⟨h, by simpa using h2⟩)
    cases hn : noLv c with
    | true =>
      have hv := tellL_no hn s
      rw [hv]
      rw [hn] at hno
      by_cases h10 : c = 10
      · rw [if_pos h10, if_pos (by omega), if_neg (by decide), if_neg (by decide)]
        cases told with
        | true => rw [if_pos rfl, i1]
        | false => rw [if_neg (by decide), if_neg (by decide), i2 rfl]
      · rw [if_neg h10, wcIn_p, Option.bind_some, if_pos (by omega)]
        have hin : (decide (14 ≤ c) && decide (c ≤ 18)) = true := by
          rw [decide_eq_false h10, Bool.false_or] at hno
          exact hno.symm
        rw [hin, if_neg (by decide), if_neg (by decide)]
        cases told with
        | true => rw [if_pos rfl, i1]
        | false => rw [if_neg (by decide), if_neg (by decide), i2 rfl]
    | false =>
      obtain ⟨v0, v1⟩ := tellL_low hn hlow
      have hb2 : told = false → tellL c s = b := fun h => by rw [hT h, tellL_init hn]
      rw [hn] at hno
      have h10 : c ≠ 10 := fun h => by rw [decide_eq_true h, Bool.true_or] at hno; cases hno
      rw [if_neg h10, wcIn_p, Option.bind_some, if_pos (by omega)]
      have hin : (decide (14 ≤ c) && decide (c ≤ 18)) = false := by
        rw [decide_eq_false h10, Bool.false_or] at hno
        exact hno.symm
      rw [hin, if_neg (by rw [decide_eq_false (by omega)]; decide), if_neg (by omega)]
      cases told with
      | true => rw [if_pos rfl, i1]
      | false => rw [if_neg (by decide), if_pos (by omega), if_pos (hb2 rfl), i2 rfl]
theorem FnLevelsTold : laws_FnLevelsTold.Pure := by
  intro l _ _ hl
  refine ⟨10001, ?_⟩
  unfold laws_FnLevelsTold.f
  by_cases h : (l.length : Int) > 1048576
  · rw [if_pos h]
  · obtain ⟨t, b, ht, htl⟩ := drawTold_k hl (k := 10001) (by omega)
    have hwl := toldV_len t b
    rw [if_neg h, ht, Option.bind_some]
    simp only
    rw [implTold_p, Option.bind_some, specTold_p (by omega) (by omega) (by omega), Option.bind_some, wcInts_r (by omega) (by omega), Option.bind_some, if_pos rfl, wcInts_r (by omega) (by omega), Option.bind_some, if_pos rfl, laws_FnLevelsTold.j0]
    by_cases h0 : (toldV t b).1.length = 0
    · rw [if_pos (by simp [h0]), wcInts_r (by omega) (by omega), Option.bind_some, if_pos rfl, wcInts_r (by omega) (by omega), Option.bind_some]
    · rw [if_neg (by simpa using h0)]
      unfold toldV at h0 ⊢
      by_cases hok : okV t = true ∧ baseB b = true
      · rw [if_pos hok]
        have h80 := ok_len hok.1
        have hb01 : b = 0 ∨ b = 1 := by
          have := hok.2
          unfold baseB at this
          rwa [Bool.or_eq_true, decide_eq_true_eq, decide_eq_true_eq] at this
        refine lawTold_l h80 hb01 ?_ ?_ t.length 10000 0 false (by omega) (by omega) (by omega) (fun _ => rfl)
        · show toldL _ _ _ _ = _
          rw [clsV_len]
          unfold mtC
          rw [clsV_len]
        · show (toldC _ _ _ _).length = _
          rw [toldC_len, clsV_len]
      · rw [if_neg hok] at h0; simp at h0
end Go.Proofs.Ytojehfdioeglgaa.Pure
