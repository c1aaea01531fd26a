/- The program's WordCount answers as the reference's, for every list of whole numbers; it writes into no argument. No condition beyond the statement's own. (text 2 of 3 of this claim: functions of the program and of the reference as plain Lean functions, what a call of each comes to, and what follows.) -/
import Derived.Test.YtoafenblaioopaaZFnExactWordCountA0
namespace Go.Proofs.Ytoafenblaioopaa.S
open Go.RowKit Go.Proofs.YtoafenblaioopaaW.PrintWords Go.Proofs.YtoafenblaioopaaW.PrintLast Go.Proofs.YtoafenblaioopaaW.PrintMore
attribute [local go_sem] max2_int min2_int max_two min_two max_three min_three max_four min_four   -- for this text's walks alone
set_option linter.unusedVariables false
set_option linter.unusedSimpArgs false

/-! ### impl_joining_joins: function 111 -/
def impl_joining_joins.j0 : Nat → Int → Int → Bool → Option (Bool)
  | 0, _, _, _ => none
  | k + 1, x0, x1, x8 => if x8 = true then (if x0 = 1 then (some (x1 == 10)) else (some false)) else ((impl_RuneBidi.f x1).bind fun t336 => (if t336 = 9 then (some true) else (if x1 = 8205 then (some true) else ((impl_isRegional.f x1).bind fun t337 => (if t337 = true then (some (x0 == 3)) else (some false))))))
def impl_joining_joins.f (k : Nat) (a0 : Int) (a1 : Int) : Option (Bool) := if a0 = 0 then (some false) else (if a0 = 2 then (impl_joining_joins.j0 k a0 a1 true) else (impl_joining_joins.j0 k a0 a1 (a1 == 10)))
theorem impl_joining_joins.mono_l : ∀ k, (∀ y0 y1 y2, LeO (impl_joining_joins.j0 k y0 y1 y2) (impl_joining_joins.j0 (k + 1) y0 y1 y2))
  | 0 => fun _ _ _ r h => by simp [impl_joining_joins.j0] at h
  | k + 1 => by
    have ih0 := impl_joining_joins.mono_l k
    · intro y0 y1 y2
      unfold impl_joining_joins.j0
      repeat' first
      | (with_reducible exact ih0 _ _ _)
      | (with_reducible exact LeO.refl _)
      | (with_reducible exact LeO.none _)
      | (with_reducible refine LeO.ite ?_ ?_)
      | (with_reducible refine LeO.bind ?_ (fun _ => ?_))
      | exact ih0 _ _ _
      | exact LeO.none _
      | refine LeO.ite ?_ ?_
      | refine LeO.bind ?_ (fun _ => ?_)
theorem impl_joining_joins.mono : ∀ a0 a1 k, LeO (impl_joining_joins.f k a0 a1) (impl_joining_joins.f (k + 1) a0 a1) := by
  intro a0 a1 k
  have ih0 := impl_joining_joins.mono_l k
  unfold impl_joining_joins.f
  repeat' first
      | (with_reducible exact ih0 _ _ _)
      | (with_reducible exact LeO.refl _)
      | (with_reducible exact LeO.none _)
      | (with_reducible refine LeO.ite ?_ ?_)
      | (with_reducible refine LeO.bind ?_ (fun _ => ?_))
      | exact ih0 _ _ _
      | exact LeO.none _
      | refine LeO.ite ?_ ?_
      | refine LeO.bind ?_ (fun _ => ?_)
set_option maxHeartbeats 8000000 in
set_option maxRecDepth 100000 in
theorem impl_joining_joins.calls (k : Nat) (a0 : Int) (a1 : Int) (r : Bool) (w : World) (h : impl_joining_joins.f k a0 a1 = some r) :
    Calls Try.prog 111 #[.int .i64 a0, .int .i64 a1] w fun e w' => e = .returned (.bool r) ∧ Below w.heap.size w w' := by
  have HB := Aside0.mk (Below.refl w.heap.size w)
  have H : (if a0 = 0 then (some false) else (if a0 = 2 then (impl_joining_joins.j0 k a0 a1 true) else (impl_joining_joins.j0 k a0 a1 (a1 == 10)))) = some r := h
  clear h
  by_cases c3 : a0 = 0
  · rw [if_pos c3] at H
    have c3b0 : (a0 == 0) = true := beq_iff_eq.mpr c3
    have c3b1 : (a0 != 0) = false := bne_eq_false_iff_eq.mpr c3
    clear c3
    obtain rfl := Option.some.inj H
    go_enter Try.func111, Try.ntmps111
    go_wp2
    go_ret
    exact ⟨by first | rfl | (simp [errW_none, errW_some] <;> rfl) | (simp [*, errW_none, errW_some] <;> rfl), by repeat (first | (with_reducible first | exact HB.out | apply below_alloc | apply pw_below_drewN | apply below_drew1) | exact HB.out)⟩
  · rw [if_neg c3] at H
    have c3b0 : (a0 == 0) = false := beq_eq_false_iff_ne.mpr c3
    have c3b1 : (a0 != 0) = true := bne_iff_ne.mpr c3
    have HC4 := Aside0.mk H
    clear H
    go_enter Try.func111, Try.ntmps111
    go_upto_region 3 with (fail)
    go_cut [8] (fun v8 wc => ∃ (kq : Nat) (x8_3 : Bool), v8 = .bool x8_3 ∧ Aside0 (impl_joining_joins.j0 kq a0 a1 x8_3 = some r) ∧ Aside0 (kq ≤ k) ∧ Aside0 (Below w.heap.size w wc))
    case first =>
      have H := HC4.out
      clear HC4
      by_cases c5 : a0 = 2
      · rw [if_pos c5] at H
        have c5b0 : (a0 == 2) = true := beq_iff_eq.mpr c5
        have c5b1 : (a0 != 2) = false := bne_eq_false_iff_eq.mpr c5
        clear c5
        (first | rw [c5b0] | (simp only [i64_w, i32_w]; rw [c5b0]) | skip)
        have H' := Aside0.mk H
        clear H
        go_wp2
        go_meet
        case rel => exact ⟨_, (true), (by first | rfl | (simp; done) | (simp [*]; done)), H', ⟨by first | omega | exact Nat.le_refl _⟩, ⟨by repeat (first | (with_reducible first | exact HB.out | apply below_alloc | apply pw_below_drewN | apply below_drew1) | exact HB.out)⟩⟩
      · rw [if_neg c5] at H
        have c5b0 : (a0 == 2) = false := beq_eq_false_iff_ne.mpr c5
        have c5b1 : (a0 != 2) = true := bne_iff_ne.mpr c5
        (first | rw [c5b0] | (simp only [i64_w, i32_w]; rw [c5b0]) | skip)
        have H' := Aside0.mk H
        clear H
        go_wp2
        go_meet
        case rel => exact ⟨_, ((a1 == 10)), (by first | rfl | (simp; done) | (simp [*]; done)), H', ⟨by first | omega | exact Nat.le_refl _⟩, ⟨by repeat (first | (with_reducible first | exact HB.out | apply below_alloc | apply pw_below_drewN | apply below_drew1) | exact HB.out)⟩⟩
    case rest =>
      clear HC4
      try clear c1
      try clear p2
      try clear c3
      try clear c3b0
      try clear c3b1
      try clear c5
      try clear c5b0
      try clear c5b1
      obtain ⟨kq, x8_3, rfl, HA, HJ3, HB⟩ := hcut
      cases kq with
      | zero => exact absurd HA.out (by simp [impl_joining_joins.j0])
      | succ kj3 =>
        have H := HA.out
        clear HA
        simp only [impl_joining_joins.j0] at H
        by_cases c6 : x8_3 = true
        · subst c6
          have H1 : (if a0 = 1 then (some (a1 == 10)) else (some false)) = some r := by rw [if_pos rfl] at H; exact H
          clear H
          have H := H1
          clear H1
          by_cases c7 : a0 = 1
          · rw [if_pos c7] at H
            have c7b0 : (a0 == 1) = true := beq_iff_eq.mpr c7
            have c7b1 : (a0 != 1) = false := bne_eq_false_iff_eq.mpr c7
            clear c7
            obtain rfl := Option.some.inj H
            go_wp2
            go_ret
            exact ⟨by first | rfl | (simp [errW_none, errW_some] <;> rfl) | (simp [*, errW_none, errW_some] <;> rfl), by repeat (first | (with_reducible first | exact HB.out | apply below_alloc | apply pw_below_drewN | apply below_drew1) | exact HB.out)⟩
          · rw [if_neg c7] at H
            have c7b0 : (a0 == 1) = false := beq_eq_false_iff_ne.mpr c7
            have c7b1 : (a0 != 1) = true := bne_iff_ne.mpr c7
            obtain rfl := Option.some.inj H
            go_wp2
            go_ret
            exact ⟨by first | rfl | (simp [errW_none, errW_some] <;> rfl) | (simp [*, errW_none, errW_some] <;> rfl), by repeat (first | (with_reducible first | exact HB.out | apply below_alloc | apply pw_below_drewN | apply below_drew1) | exact HB.out)⟩
        · replace c6 := Bool.eq_false_iff.mpr c6
          subst c6
          have H1 : ((impl_RuneBidi.f a1).bind fun t336 => (if t336 = 9 then (some true) else (if a1 = 8205 then (some true) else ((impl_isRegional.f a1).bind fun t337 => (if t337 = true then (some (a0 == 3)) else (some false)))))) = some r := by rw [if_neg (show ¬ (false = true) by decide)] at H; exact H
          clear H
          have H := H1
          clear H1
          replace H := Option.bind_eq_some_iff.mp H
          obtain ⟨t336, A80, H⟩ := H
          replace H : (if t336 = 9 then (some true) else (if a1 = 8205 then (some true) else ((impl_isRegional.f a1).bind fun t337 => (if t337 = true then (some (a0 == 3)) else (some false))))) = some r := H
          have A8 := Aside0.mk A80
          clear A80
          by_cases c9 : t336 = 9
          · rw [if_pos c9] at H
            have c9b0 : (t336 == 9) = true := beq_iff_eq.mpr c9
            have c9b1 : (t336 != 9) = false := bne_eq_false_iff_eq.mpr c9
            clear c9
            obtain rfl := Option.some.inj H
            go_wp2_with (first | ((with_reducible refine gate_callee (f := 98) rfl ?_); refine goesL_ (some 23) rfl rfl Try.func98 (by kernel_rfl) rfl #[.int .i64 a1] rfl (by (try simp only [List.map_toArray, List.map_cons, List.map_nil]); first | done | rfl | (simp only [List.length_drop, List.length_take]; rfl)) ?_; (with_reducible refine (impl_RuneBidi.calls a1 t336 _ A8.out).mono ?_); rintro e w10 ⟨rfl, hb⟩; refine ⟨_, rfl, ?_⟩; have n0_ := Aside0.mk (below_step (by repeat (first | (with_reducible first | exact HB.out | apply below_alloc | apply pw_below_drewN | apply below_drew1) | exact HB.out)) hb); clear HB; have HB := n0_; clear n0_; (try clear hb); (try clear hb2); (try clear hk); (try clear hi)))
            go_ret
            exact ⟨by first | rfl | (simp [errW_none, errW_some] <;> rfl) | (simp [*, errW_none, errW_some] <;> rfl), by repeat (first | (with_reducible first | exact HB.out | apply below_alloc | apply pw_below_drewN | apply below_drew1) | exact HB.out)⟩
          · rw [if_neg c9] at H
            have c9b0 : (t336 == 9) = false := beq_eq_false_iff_ne.mpr c9
            have c9b1 : (t336 != 9) = true := bne_iff_ne.mpr c9
            by_cases c11 : a1 = 8205
            · rw [if_pos c11] at H
              have c11b0 : (a1 == 8205) = true := beq_iff_eq.mpr c11
              have c11b1 : (a1 != 8205) = false := bne_eq_false_iff_eq.mpr c11
              clear c11
              obtain rfl := Option.some.inj H
              go_wp2_with (first | ((with_reducible refine gate_callee (f := 98) rfl ?_); refine goesL_ (some 23) rfl rfl Try.func98 (by kernel_rfl) rfl #[.int .i64 a1] rfl (by (try simp only [List.map_toArray, List.map_cons, List.map_nil]); first | done | rfl | (simp only [List.length_drop, List.length_take]; rfl)) ?_; (with_reducible refine (impl_RuneBidi.calls a1 t336 _ A8.out).mono ?_); rintro e w12 ⟨rfl, hb⟩; refine ⟨_, rfl, ?_⟩; have n0_ := Aside0.mk (below_step (by repeat (first | (with_reducible first | exact HB.out | apply below_alloc | apply pw_below_drewN | apply below_drew1) | exact HB.out)) hb); clear HB; have HB := n0_; clear n0_; (try clear hb); (try clear hb2); (try clear hk); (try clear hi)))
              go_ret
              exact ⟨by first | rfl | (simp [errW_none, errW_some] <;> rfl) | (simp [*, errW_none, errW_some] <;> rfl), by repeat (first | (with_reducible first | exact HB.out | apply below_alloc | apply pw_below_drewN | apply below_drew1) | exact HB.out)⟩
            · rw [if_neg c11] at H
              have c11b0 : (a1 == 8205) = false := beq_eq_false_iff_ne.mpr c11
              have c11b1 : (a1 != 8205) = true := bne_iff_ne.mpr c11
              replace H := Option.bind_eq_some_iff.mp H
              obtain ⟨t337, A130, H⟩ := H
              replace H : (if t337 = true then (some (a0 == 3)) else (some false)) = some r := H
              have A13 := Aside0.mk A130
              clear A130
              by_cases c14 : t337 = true
              · subst c14
                have H1 : (some (a0 == 3)) = some r := by rw [if_pos rfl] at H; exact H
                clear H
                have H := H1
                clear H1
                obtain rfl := Option.some.inj H
                go_wp2_with (first | ((with_reducible refine gate_callee (f := 98) rfl ?_); refine goesL_ (some 23) rfl rfl Try.func98 (by kernel_rfl) rfl #[.int .i64 a1] rfl (by (try simp only [List.map_toArray, List.map_cons, List.map_nil]); first | done | rfl | (simp only [List.length_drop, List.length_take]; rfl)) ?_; (with_reducible refine (impl_RuneBidi.calls a1 t336 _ A8.out).mono ?_); rintro e w15 ⟨rfl, hb⟩; refine ⟨_, rfl, ?_⟩; have n0_ := Aside0.mk (below_step (by repeat (first | (with_reducible first | exact HB.out | apply below_alloc | apply pw_below_drewN | apply below_drew1) | exact HB.out)) hb); clear HB; have HB := n0_; clear n0_; (try clear hb); (try clear hb2); (try clear hk); (try clear hi)) | ((with_reducible refine gate_callee (f := 115) rfl ?_); refine goesL_ (some 30) rfl rfl Try.func115 (by kernel_rfl) rfl #[.int .i64 a1] rfl (by (try simp only [List.map_toArray, List.map_cons, List.map_nil]); first | done | rfl | (simp only [List.length_drop, List.length_take]; rfl)) ?_; (with_reducible refine (impl_isRegional.calls a1 true _ A13.out).mono ?_); rintro e w' ⟨rfl, ⟨nd, rfl⟩⟩; refine ⟨_, rfl, ?_⟩))
                go_ret
                exact ⟨by first | rfl | (simp [errW_none, errW_some] <;> rfl) | (simp [*, errW_none, errW_some] <;> rfl), by repeat (first | (with_reducible first | exact HB.out | apply below_alloc | apply pw_below_drewN | apply below_drew1) | exact HB.out)⟩
              · replace c14 := Bool.eq_false_iff.mpr c14
                subst c14
                have H1 : (some false) = some r := by rw [if_neg (show ¬ (false = true) by decide)] at H; exact H
                clear H
                have H := H1
                clear H1
                obtain rfl := Option.some.inj H
                go_wp2_with (first | ((with_reducible refine gate_callee (f := 98) rfl ?_); refine goesL_ (some 23) rfl rfl Try.func98 (by kernel_rfl) rfl #[.int .i64 a1] rfl (by (try simp only [List.map_toArray, List.map_cons, List.map_nil]); first | done | rfl | (simp only [List.length_drop, List.length_take]; rfl)) ?_; (with_reducible refine (impl_RuneBidi.calls a1 t336 _ A8.out).mono ?_); rintro e w16 ⟨rfl, hb⟩; refine ⟨_, rfl, ?_⟩; have n0_ := Aside0.mk (below_step (by repeat (first | (with_reducible first | exact HB.out | apply below_alloc | apply pw_below_drewN | apply below_drew1) | exact HB.out)) hb); clear HB; have HB := n0_; clear n0_; (try clear hb); (try clear hb2); (try clear hk); (try clear hi)) | ((with_reducible refine gate_callee (f := 115) rfl ?_); refine goesL_ (some 30) rfl rfl Try.func115 (by kernel_rfl) rfl #[.int .i64 a1] rfl (by (try simp only [List.map_toArray, List.map_cons, List.map_nil]); first | done | rfl | (simp only [List.length_drop, List.length_take]; rfl)) ?_; (with_reducible refine (impl_isRegional.calls a1 false _ A13.out).mono ?_); rintro e w' ⟨rfl, ⟨nd, rfl⟩⟩; refine ⟨_, rfl, ?_⟩))
                go_ret
                exact ⟨by first | rfl | (simp [errW_none, errW_some] <;> rfl) | (simp [*, errW_none, errW_some] <;> rfl), by repeat (first | (with_reducible first | exact HB.out | apply below_alloc | apply pw_below_drewN | apply below_drew1) | exact HB.out)⟩

end Go.Proofs.Ytoafenblaioopaa.S

namespace Go.Proofs.Ytoafenblaioopaa.S
open Go.RowKit Go.Proofs.YtoafenblaioopaaW.PrintWords Go.Proofs.YtoafenblaioopaaW.PrintLast Go.Proofs.YtoafenblaioopaaW.PrintMore
attribute [local go_sem] max2_int min2_int max_two min_two max_three min_three max_four min_four   -- for this text's walks alone
set_option linter.unusedVariables false
set_option linter.unusedSimpArgs false

/-! ### impl_joining_next: function 112 -/
def impl_joining_next.j0 : Nat → Int → Bool → Option (Int)
  | 0, _, _ => none
  | k + 1, x1, x11 => if x11 = true then (some 4) else ((impl_isRegional.f x1).bind fun t339 => (if t339 = true then (some 3) else (some 5)))
def impl_joining_next.f (k : Nat) (a0 : Int) (a1 : Int) : Option (Int) := if a1 = 13 then (some 1) else (if a1 = 10 then (some 2) else ((impl_isRegional.f a1).bind fun t338 => (if t338 = true then (impl_joining_next.j0 k a1 (a0 == 3)) else (impl_joining_next.j0 k a1 false))))
theorem impl_joining_next.mono_l : ∀ k, (∀ y0 y1, LeO (impl_joining_next.j0 k y0 y1) (impl_joining_next.j0 (k + 1) y0 y1))
  | 0 => fun _ _ r h => by simp [impl_joining_next.j0] at h
  | k + 1 => by
    have ih0 := impl_joining_next.mono_l k
    · intro y0 y1
      unfold impl_joining_next.j0
      repeat' first
      | (with_reducible exact ih0 _ _)
      | (with_reducible exact LeO.refl _)
      | (with_reducible exact LeO.none _)
      | (with_reducible refine LeO.ite ?_ ?_)
      | (with_reducible refine LeO.bind ?_ (fun _ => ?_))
      | exact ih0 _ _
      | exact LeO.none _
      | refine LeO.ite ?_ ?_
      | refine LeO.bind ?_ (fun _ => ?_)
theorem impl_joining_next.mono : ∀ a0 a1 k, LeO (impl_joining_next.f k a0 a1) (impl_joining_next.f (k + 1) a0 a1) := by
  intro a0 a1 k
  have ih0 := impl_joining_next.mono_l k
  unfold impl_joining_next.f
  repeat' first
      | (with_reducible exact ih0 _ _)
      | (with_reducible exact LeO.refl _)
      | (with_reducible exact LeO.none _)
      | (with_reducible refine LeO.ite ?_ ?_)
      | (with_reducible refine LeO.bind ?_ (fun _ => ?_))
      | exact ih0 _ _
      | exact LeO.none _
      | refine LeO.ite ?_ ?_
      | refine LeO.bind ?_ (fun _ => ?_)
set_option maxHeartbeats 8000000 in
set_option maxRecDepth 100000 in
theorem impl_joining_next.calls (k : Nat) (a0 : Int) (a1 : Int) (r : Int) (w : World) (h : impl_joining_next.f k a0 a1 = some r) :
    Calls Try.prog 112 #[.int .i64 a0, .int .i64 a1] w fun e w' => e = .returned (.int .i64 r) ∧ Drawn0 w w' := by
  have H : (if a1 = 13 then (some 1) else (if a1 = 10 then (some 2) else ((impl_isRegional.f a1).bind fun t338 => (if t338 = true then (impl_joining_next.j0 k a1 (a0 == 3)) else (impl_joining_next.j0 k a1 false))))) = some r := h
  clear h
  by_cases c3 : a1 = 13
  · rw [if_pos c3] at H
    have c3b0 : (a1 == 13) = true := beq_iff_eq.mpr c3
    have c3b1 : (a1 != 13) = false := bne_eq_false_iff_eq.mpr c3
    clear c3
    obtain rfl := Option.some.inj H
    go_enter Try.func112, Try.ntmps112
    go_wp2
    go_ret
    exact ⟨by first | rfl | (simp; done) | (simp [*]; done), by repeat (first | exact Drawn0.refl _ | apply Drawn0.step)⟩
  · rw [if_neg c3] at H
    have c3b0 : (a1 == 13) = false := beq_eq_false_iff_ne.mpr c3
    have c3b1 : (a1 != 13) = true := bne_iff_ne.mpr c3
    by_cases c4 : a1 = 10
    · rw [if_pos c4] at H
      have c4b0 : (a1 == 10) = true := beq_iff_eq.mpr c4
      have c4b1 : (a1 != 10) = false := bne_eq_false_iff_eq.mpr c4
      clear c4
      obtain rfl := Option.some.inj H
      go_enter Try.func112, Try.ntmps112
      go_wp2
      go_ret
      exact ⟨by first | rfl | (simp; done) | (simp [*]; done), by repeat (first | exact Drawn0.refl _ | apply Drawn0.step)⟩
    · rw [if_neg c4] at H
      have c4b0 : (a1 == 10) = false := beq_eq_false_iff_ne.mpr c4
      have c4b1 : (a1 != 10) = true := bne_iff_ne.mpr c4
      have HC5 := Aside0.mk H
      clear H
      go_enter Try.func112, Try.ntmps112
      go_upto_region 5 with (fail)
      go_cut [11] (fun v11 wc => ∃ (kq : Nat) (x11_4 : Bool), v11 = .bool x11_4 ∧ Aside0 (impl_joining_next.j0 kq a1 x11_4 = some r) ∧ Aside0 (kq ≤ k) ∧ Drawn0 w wc)
      case first =>
        have H := HC5.out
        clear HC5
        replace H := Option.bind_eq_some_iff.mp H
        obtain ⟨t338, A60, H⟩ := H
        replace H : (if t338 = true then (impl_joining_next.j0 k a1 (a0 == 3)) else (impl_joining_next.j0 k a1 false)) = some r := H
        have A6 := Aside0.mk A60
        clear A60
        by_cases c7 : t338 = true
        · subst c7
          have H1 : (impl_joining_next.j0 k a1 (a0 == 3)) = some r := by rw [if_pos rfl] at H; exact H
          clear H
          have H := H1
          clear H1
          have H' := Aside0.mk H
          clear H
          go_wp2_with (first | ((with_reducible refine gate_callee (f := 115) rfl ?_); refine goesL_ (some 13) rfl rfl Try.func115 (by kernel_rfl) rfl #[.int .i64 a1] rfl (by (try simp only [List.map_toArray, List.map_cons, List.map_nil]); first | done | rfl | (simp only [List.length_drop, List.length_take]; rfl)) ?_; (with_reducible refine (impl_isRegional.calls a1 true _ A6.out).mono ?_); rintro e w' ⟨rfl, ⟨nd, rfl⟩⟩; refine ⟨_, rfl, ?_⟩))
          go_meet
          case rel => exact ⟨_, ((a0 == 3)), (by first | rfl | (simp; done) | (simp [*]; done)), H', ⟨by first | omega | exact Nat.le_refl _⟩, by repeat (first | exact Drawn0.refl _ | apply Drawn0.step)⟩
        · replace c7 := Bool.eq_false_iff.mpr c7
          subst c7
          have H1 : (impl_joining_next.j0 k a1 false) = some r := by rw [if_neg (show ¬ (false = true) by decide)] at H; exact H
          clear H
          have H := H1
          clear H1
          have H' := Aside0.mk H
          clear H
          go_wp2_with (first | ((with_reducible refine gate_callee (f := 115) rfl ?_); refine goesL_ (some 13) rfl rfl Try.func115 (by kernel_rfl) rfl #[.int .i64 a1] rfl (by (try simp only [List.map_toArray, List.map_cons, List.map_nil]); first | done | rfl | (simp only [List.length_drop, List.length_take]; rfl)) ?_; (with_reducible refine (impl_isRegional.calls a1 false _ A6.out).mono ?_); rintro e w' ⟨rfl, ⟨nd, rfl⟩⟩; refine ⟨_, rfl, ?_⟩))
          go_meet
          case rel => exact ⟨_, (false), (by first | rfl | (simp; done) | (simp [*]; done)), H', ⟨by first | omega | exact Nat.le_refl _⟩, by repeat (first | exact Drawn0.refl _ | apply Drawn0.step)⟩
      case rest =>
        clear HC5
        try clear c1
        try clear p2
        try clear c3
        try clear c3b0
        try clear c3b1
        try clear c4
        try clear c4b0
        try clear c4b1
        try clear c7
        obtain ⟨kq, x11_4, rfl, HA, HJ4, ⟨mc4, rfl⟩⟩ := hcut
        cases kq with
        | zero => exact absurd HA.out (by simp [impl_joining_next.j0])
        | succ kj4 =>
          have H := HA.out
          clear HA
          simp only [impl_joining_next.j0] at H
          by_cases c8 : x11_4 = true
          · subst c8
            have H1 : (some 4) = some r := by rw [if_pos rfl] at H; exact H
            clear H
            have H := H1
            clear H1
            obtain rfl := Option.some.inj H
            go_wp2
            go_ret
            exact ⟨by first | rfl | (simp; done) | (simp [*]; done), by repeat (first | exact Drawn0.refl _ | apply Drawn0.step)⟩
          · replace c8 := Bool.eq_false_iff.mpr c8
            subst c8
            have H1 : ((impl_isRegional.f a1).bind fun t339 => (if t339 = true then (some 3) else (some 5))) = some r := by rw [if_neg (show ¬ (false = true) by decide)] at H; exact H
            clear H
            have H := H1
            clear H1
            replace H := Option.bind_eq_some_iff.mp H
            obtain ⟨t339, A90, H⟩ := H
            replace H : (if t339 = true then (some 3) else (some 5)) = some r := H
            have A9 := Aside0.mk A90
            clear A90
            by_cases c10 : t339 = true
            · subst c10
              have H1 : (some 3) = some r := by rw [if_pos rfl] at H; exact H
              clear H
              have H := H1
              clear H1
              obtain rfl := Option.some.inj H
              go_wp2_with (first | ((with_reducible refine gate_callee (f := 115) rfl ?_); refine goesL_ (some 20) rfl rfl Try.func115 (by kernel_rfl) rfl #[.int .i64 a1] rfl (by (try simp only [List.map_toArray, List.map_cons, List.map_nil]); first | done | rfl | (simp only [List.length_drop, List.length_take]; rfl)) ?_; (with_reducible refine (impl_isRegional.calls a1 true _ A9.out).mono ?_); rintro e w' ⟨rfl, ⟨nd, rfl⟩⟩; refine ⟨_, rfl, ?_⟩))
              go_ret
              exact ⟨by first | rfl | (simp; done) | (simp [*]; done), by repeat (first | exact Drawn0.refl _ | apply Drawn0.step)⟩
            · replace c10 := Bool.eq_false_iff.mpr c10
              subst c10
              have H1 : (some 5) = some r := by rw [if_neg (show ¬ (false = true) by decide)] at H; exact H
              clear H
              have H := H1
              clear H1
              obtain rfl := Option.some.inj H
              go_wp2_with (first | ((with_reducible refine gate_callee (f := 115) rfl ?_); refine goesL_ (some 20) rfl rfl Try.func115 (by kernel_rfl) rfl #[.int .i64 a1] rfl (by (try simp only [List.map_toArray, List.map_cons, List.map_nil]); first | done | rfl | (simp only [List.length_drop, List.length_take]; rfl)) ?_; (with_reducible refine (impl_isRegional.calls a1 false _ A9.out).mono ?_); rintro e w' ⟨rfl, ⟨nd, rfl⟩⟩; refine ⟨_, rfl, ?_⟩))
              go_ret
              exact ⟨by first | rfl | (simp; done) | (simp [*]; done), by repeat (first | exact Drawn0.refl _ | apply Drawn0.step)⟩

end Go.Proofs.Ytoafenblaioopaa.S

namespace Go.Proofs.Ytoafenblaioopaa.S
open Go.RowKit Go.Proofs.YtoafenblaioopaaW.PrintWords Go.Proofs.YtoafenblaioopaaW.PrintLast Go.Proofs.YtoafenblaioopaaW.PrintMore
attribute [local go_sem] max2_int min2_int max_two min_two max_three min_three max_four min_four   -- for this text's walks alone
set_option linter.unusedVariables false
set_option linter.unusedSimpArgs false

/-! ### impl_joined: function 104 -/
def impl_joined.l0 : Nat → List Bool → Int → List Int → Int → Int → Option (List Bool)
  | 0, _, _, _, _, _ => none
  | k + 1, x3, x4, x7, x8, x9 => if x9 < x8 then (if 0 ≤ x9 then (if x9 < (x7.length : Int) then ((impl_joining_joins.f k x4 (rd x7 x9)).bind fun t341 => (if x3.length < 140737488355328 then ((impl_joining_next.f k x4 (rd x7 x9)).bind fun t345 => (impl_joined.l0 k (x3 ++ [t341]) t345 x7 x8 (wrap64 (x9 + 1)))) else (none))) else (none)) else (none)) else (some x3)
def impl_joined.f (k : Nat) (l0 : List Int) : Option (List Bool) := impl_joined.l0 k ([] : List Bool) 0 l0 (l0.length : Int) 0
theorem impl_joined.mono_l : ∀ k, (∀ y0 y1 y2 y3 y4, LeO (impl_joined.l0 k y0 y1 y2 y3 y4) (impl_joined.l0 (k + 1) y0 y1 y2 y3 y4))
  | 0 => fun _ _ _ _ _ r h => by simp [impl_joined.l0] at h
  | k + 1 => by
    have ih0 := impl_joined.mono_l k
    · intro y0 y1 y2 y3 y4
      unfold impl_joined.l0
      repeat' first
      | (with_reducible exact ih0 _ _ _ _ _)
      | (with_reducible exact impl_joining_joins.mono _ _ _)
      | (with_reducible exact impl_joining_next.mono _ _ _)
      | (with_reducible exact LeO.refl _)
      | (with_reducible exact LeO.none _)
      | (with_reducible refine LeO.ite ?_ ?_)
      | (with_reducible refine LeO.bind ?_ (fun _ => ?_))
      | exact ih0 _ _ _ _ _
      | exact impl_joining_joins.mono _ _ _
      | exact impl_joining_next.mono _ _ _
      | exact LeO.none _
      | refine LeO.ite ?_ ?_
      | refine LeO.bind ?_ (fun _ => ?_)
theorem impl_joined.mono : ∀ a0 k, LeO (impl_joined.f k a0) (impl_joined.f (k + 1) a0) := by
  intro a0 k
  have ih0 := impl_joined.mono_l k
  unfold impl_joined.f
  repeat' first
      | (with_reducible exact ih0 _ _ _ _ _)
      | (with_reducible exact impl_joining_joins.mono _ _ _)
      | (with_reducible exact impl_joining_next.mono _ _ _)
      | (with_reducible exact LeO.refl _)
      | (with_reducible exact LeO.none _)
      | (with_reducible refine LeO.ite ?_ ?_)
      | (with_reducible refine LeO.bind ?_ (fun _ => ?_))
      | exact ih0 _ _ _ _ _
      | exact impl_joining_joins.mono _ _ _
      | exact impl_joining_next.mono _ _ _
      | exact LeO.none _
      | refine LeO.ite ?_ ?_
      | refine LeO.bind ?_ (fun _ => ?_)
set_option maxHeartbeats 8000000 in
set_option maxRecDepth 100000 in
theorem impl_joined.calls (k : Nat) (A0 : Option Addr) (c0 : Nat) (l0 : List Int) (r : List Bool) (w : World) (hr0 : Kd.C (Kd.int .i64) w A0 l0.length l0) (hc0 : l0.length ≤ c0) (h : impl_joined.f k l0 = some r) :
    Calls Try.prog 104 #[.slice A0 l0.length c0] w fun e w' => ∃ v0_ : Value, e = .returned (v0_) ∧ Kd.R Kd.bool 4 w' w.heap.size (fun _ => True) v0_ r ∧ Below w.heap.size w w' := by
  have HR0 := Aside0.mk hr0
  have HC0 := Aside0.mk hc0
  clear hr0 hc0
  have HB := Aside0.mk (Below.refl w.heap.size w)
  have H : (impl_joined.l0 k ([] : List Bool) 0 l0 (l0.length : Int) 0) = some r := h
  clear h
  have H' := Aside0.mk H
  clear H
  go_enter Try.func104, Try.ntmps104
  go_wp2
  go_loopg [3, 4, 9] k (fun kq v3 v4 v9 w' => ∃ (x3_1 : List Bool) (x4_1 : Int) (x9_1 : Int), v4 = .int .i64 x4_1 ∧ v9 = .int .i64 x9_1 ∧ Aside0 (impl_joined.l0 kq x3_1 x4_1 l0 (l0.length : Int) x9_1 = some r) ∧ Aside0 (kq ≤ k) ∧ Aside0 (Kd.R Kd.bool 4 w' w.heap.size (fun _ => True) v3 x3_1) ∧ Aside0 (Below w.heap.size w w'))
  case atStart => exact ⟨(([] : List Bool)), (0), (0), (by first | rfl | (simp; done) | (simp [*]; done)), (by first | rfl | (simp; done) | (simp [*]; done)), H', ⟨Nat.le_refl _⟩, ⟨by first | exact Kd.R_nil _ _ _ _ _ | exact Kd.N_nil _ _ _ _ _ | exact Kd.V_nil _ _ _ _ _ | exact Kd.Q_nil _ _ _ _ _ | exact Kd.S_nil _ _ _ _ _⟩, ⟨by repeat (first | (with_reducible first | exact HB.out | apply below_alloc | apply pw_below_drewN | apply below_drew1) | exact HB.out)⟩⟩
  case round =>
    clear H'
    try clear c1
    obtain ⟨x3_1, x4_1, x9_1, rfl, rfl, HA, HK1, HO_3, HB⟩ := hrel
    cases gk with
    | zero => exact absurd HA.out (by simp [impl_joined.l0])
    | succ k1 =>
      have H := HA.out
      clear HA
      simp only [impl_joined.l0] at H
      by_cases c2 : x9_1 < (l0.length : Int)
      · rw [if_pos c2] at H
        have c2b0 : decide (x9_1 < (l0.length : Int)) = true := decide_eq_true c2
        clear c2
        by_cases c3 : 0 ≤ x9_1
        · rw [if_pos c3] at H
          have c3b0 : decide (0 ≤ x9_1) = true := decide_eq_true c3
          clear c3
          by_cases c4 : x9_1 < (l0.length : Int)
          · rw [if_pos c4] at H
            have c4b0 : decide (x9_1 < (l0.length : Int)) = true := decide_eq_true c4
            clear c4
            replace H := Option.bind_eq_some_iff.mp H
            obtain ⟨t341, A50, H⟩ := H
            replace H : (if x3_1.length < 140737488355328 then ((impl_joining_next.f k1 x4_1 (rd l0 x9_1)).bind fun t345 => (impl_joined.l0 k1 (x3_1 ++ [t341]) t345 l0 (l0.length : Int) (wrap64 (x9_1 + 1)))) else (none)) = some r := H
            have A5 := Aside0.mk A50
            clear A50
            by_cases c6 : x3_1.length < 140737488355328
            · rw [if_pos c6] at H
              have LMc6 := Aside0.mk c6
              clear c6
              obtain ⟨y342, hy342⟩ : ∃ y_ : List Bool, y_ = (x3_1 ++ [t341]) := ⟨_, rfl⟩
              replace H : ((impl_joining_next.f k1 x4_1 (rd l0 x9_1)).bind fun t345 => (impl_joined.l0 k1 y342 t345 l0 (l0.length : Int) (wrap64 (x9_1 + 1)))) = some r := by first | (rw [hy342]; with_reducible exact H) | (have H2_ := (Option.bind_some _ _).symm.trans H; rw [hy342]; with_reducible exact H2_) | (have H2_ := (Option.bind_some _ _).symm.trans H; with_reducible exact H2_) | with_reducible exact H | (rw [hy342]; exact H) | exact H
              have Ny342 := Aside0.mk hy342
              clear hy342
              replace H := Option.bind_eq_some_iff.mp H
              obtain ⟨t345, A70, H⟩ := H
              replace H : (impl_joined.l0 k1 y342 t345 l0 (l0.length : Int) (wrap64 (x9_1 + 1))) = some r := H
              have A7 := Aside0.mk A70
              clear A70
              have H' := Aside0.mk H
              clear H
              have p340 : 0 ≤ (x9_1 : Int) := of_decide_eq_true (by first | (with_reducible assumption) | assumption)
              have q340 : x9_1 < (l0.length : Int) := of_decide_eq_true (by first | (with_reducible assumption) | assumption)
              obtain ⟨ad340, e340, hx340_0⟩ := Kd.at_int HR0.out x9_1 p340 q340
              cases e340
              replace hx340_0 := (HB.out.cell (World.block_lt_of_cell? w _ hx340_0)).trans hx340_0
              replace p340 := eq_true p340
              replace q340 := eq_true q340
              go_wp2_with (first | ((with_reducible refine gate_callee (f := 111) rfl ?_); refine goesL_ (some 16) rfl rfl Try.func111 (by kernel_rfl) rfl #[.int .i64 x4_1, .int .i64 (rd l0 x9_1)] rfl (by (try simp only [List.map_toArray, List.map_cons, List.map_nil]); first | done | rfl | (simp only [List.length_drop, List.length_take]; rfl)) ?_; (with_reducible refine (impl_joining_joins.calls k1 x4_1 (rd l0 x9_1) t341 _ A5.out).mono ?_); rintro e w8 ⟨rfl, hb⟩; refine ⟨_, rfl, ?_⟩; have n0_ := Aside0.mk (Kd.R_below (by (with_reducible repeat (first | apply Kd.R_alloc | apply Kd.R_drewN | apply Kd.R_drew)); exact HO_3.out) hb); have n1_ := Aside0.mk (below_step (by repeat (first | (with_reducible first | exact HB.out | apply below_alloc | apply pw_below_drewN | apply below_drew1) | exact HB.out)) hb); clear HO_3; clear HB; have HO_3 := n0_; have HB := n1_; clear n0_ n1_; (try clear hb); (try clear hb2); (try clear hk); (try clear hi)) | ((with_reducible refine gate_builtin (b := .append) (xs := #[.tmp 13, .tmp 17]) rfl ?_); at_builtin; refine Kd.R_append Kd.bool (w0 := w) w.heap.size rfl (.tmp 13) (.tmp 17) 94 4 (.bool false) 1 rfl Try.underlying94 info4 rfl (by decide) (by omega) u3 x3_1 t341 [.bool t341] (fun _ => True) (fun _ => False) rfl rfl ?aP (fun _ hk => hk.elim) ?aF ?aO ?aB ?aS ?aL ?_; (case aP => exact rfl); (case aB => exact (by repeat (first | (with_reducible first | exact HB.out | apply below_alloc | apply pw_below_drewN | apply below_drew1) | exact HB.out))); (case aF => exact (fun _ _ => trivial)); (case aO => exact (by (with_reducible repeat (first | apply Kd.R_alloc | apply Kd.R_drewN | apply Kd.R_drew)); exact HO_3.out)); (case aS => exact (below_size (by repeat (first | (with_reducible first | exact HB.out | apply below_alloc | apply pw_below_drewN | apply below_drew1) | exact HB.out)))); (case aL => have := LMc6.out; omega); intro v343 w9 ho hb hg hat; rw [← Ny342.out] at ho; have n0_ := Aside0.mk (hb); have n1_ := Aside0.mk (ho); clear HB; clear HO_3; have HB := n0_; have HO344 := n1_; clear n0_ n1_; clear ho hb hg hat) | ((with_reducible refine gate_callee (f := 112) rfl ?_); refine goesL_ (some 21) rfl rfl Try.func112 (by kernel_rfl) rfl #[.int .i64 x4_1, .int .i64 (rd l0 x9_1)] rfl (by (try simp only [List.map_toArray, List.map_cons, List.map_nil]); first | done | rfl | (simp only [List.length_drop, List.length_take]; rfl)) ?_; (with_reducible refine (impl_joining_next.calls k1 x4_1 (rd l0 x9_1) t345 _ A7.out).mono ?_); rintro e w' ⟨rfl, ⟨nd, rfl⟩⟩; refine ⟨_, rfl, ?_⟩))
              go_roundg k1
              case measure => have := HK1.out; omega
              case rel => exact ⟨(y342), (t345), (wrap64 (x9_1 + 1)), (by first | rfl | (simp; done) | (simp [*]; done)), (by first | rfl | (simp; done) | (simp [*]; done)), H', ⟨by have := HK1.out; omega⟩, ⟨by (with_reducible repeat (first | apply Kd.R_alloc | apply Kd.R_drewN | apply Kd.R_drew)); exact HO344.out⟩, ⟨by repeat (first | (with_reducible first | exact HB.out | apply below_alloc | apply pw_below_drewN | apply below_drew1) | exact HB.out)⟩⟩
            · rw [if_neg c6] at H
              exact absurd H (by simp)
          · rw [if_neg c4] at H
            exact absurd H (by simp)
        · rw [if_neg c3] at H
          exact absurd H (by simp)
      · rw [if_neg c2] at H
        have c2b0 : decide (x9_1 < (l0.length : Int)) = false := decide_eq_false c2
        clear c2
        obtain rfl := Option.some.inj H
        go_wp2
        go_ret
        exact ⟨_, by first | rfl | (simp [errW_none, errW_some] <;> rfl) | (simp [*, errW_none, errW_some] <;> rfl), by (with_reducible repeat (first | apply Kd.R_alloc | apply Kd.R_drewN | apply Kd.R_drew)); exact HO_3.out, by repeat (first | (with_reducible first | exact HB.out | apply below_alloc | apply pw_below_drewN | apply below_drew1) | exact HB.out)⟩

end Go.Proofs.Ytoafenblaioopaa.S

namespace Go.Proofs.Ytoafenblaioopaa.S
open Go.RowKit Go.Proofs.YtoafenblaioopaaW.PrintWords Go.Proofs.YtoafenblaioopaaW.PrintLast Go.Proofs.YtoafenblaioopaaW.PrintMore
attribute [local go_sem] max2_int min2_int max_two min_two max_three min_three max_four min_four   -- for this text's walks alone
set_option linter.unusedVariables false
set_option linter.unusedSimpArgs false

/-! ### impl_starts: function 95 -/
def impl_starts.l0 : Nat → List Int → List Bool → Int → Int → Option (List Int)
  | 0, _, _, _, _ => none
  | k + 1, x3, x7, x8, x9 => if x9 < x8 then (if 0 ≤ x9 then (if x9 < (x7.length : Int) then (if rdOf false x7 x9 = true then (impl_starts.l0 k x3 x7 x8 (wrap64 (x9 + 1))) else (if x3.length < 17592186044416 then (impl_starts.l0 k (x3 ++ [x9]) x7 x8 (wrap64 (x9 + 1))) else (none))) else (none)) else (none)) else (some x3)
def impl_starts.f (k : Nat) (l0 : List Int) : Option (List Int) := (impl_joined.f k l0).bind fun t346 => (impl_starts.l0 k ([] : List Int) t346 (t346.length : Int) 0)
theorem impl_starts.mono_l : ∀ k, (∀ y0 y1 y2 y3, LeO (impl_starts.l0 k y0 y1 y2 y3) (impl_starts.l0 (k + 1) y0 y1 y2 y3))
  | 0 => fun _ _ _ _ r h => by simp [impl_starts.l0] at h
  | k + 1 => by
    have ih0 := impl_starts.mono_l k
    · intro y0 y1 y2 y3
      unfold impl_starts.l0
      repeat' first
      | (with_reducible exact ih0 _ _ _ _)
      | (with_reducible exact impl_joined.mono _ _)
      | (with_reducible exact LeO.refl _)
      | (with_reducible exact LeO.none _)
      | (with_reducible refine LeO.ite ?_ ?_)
      | (with_reducible refine LeO.bind ?_ (fun _ => ?_))
      | exact ih0 _ _ _ _
      | exact impl_joined.mono _ _
      | exact LeO.none _
      | refine LeO.ite ?_ ?_
      | refine LeO.bind ?_ (fun _ => ?_)
theorem impl_starts.mono : ∀ a0 k, LeO (impl_starts.f k a0) (impl_starts.f (k + 1) a0) := by
  intro a0 k
  have ih0 := impl_starts.mono_l k
  unfold impl_starts.f
  repeat' first
      | (with_reducible exact ih0 _ _ _ _)
      | (with_reducible exact impl_joined.mono _ _)
      | (with_reducible exact LeO.refl _)
      | (with_reducible exact LeO.none _)
      | (with_reducible refine LeO.ite ?_ ?_)
      | (with_reducible refine LeO.bind ?_ (fun _ => ?_))
      | exact ih0 _ _ _ _
      | exact impl_joined.mono _ _
      | exact LeO.none _
      | refine LeO.ite ?_ ?_
      | refine LeO.bind ?_ (fun _ => ?_)
set_option maxHeartbeats 8000000 in
set_option maxRecDepth 100000 in
theorem impl_starts.calls (k : Nat) (A0 : Option Addr) (c0 : Nat) (l0 : List Int) (r : List Int) (w : World) (hr0 : Kd.C (Kd.int .i64) w A0 l0.length l0) (hc0 : l0.length ≤ c0) (h : impl_starts.f k l0 = some r) :
    Calls Try.prog 95 #[.slice A0 l0.length c0] w fun e w' => ∃ v0_ : Value, e = .returned (v0_) ∧ Kd.R (Kd.int .i64) 3 w' w.heap.size (fun _ => True) v0_ r ∧ Below w.heap.size w w' := by
  have HR0 := Aside0.mk hr0
  have HC0 := Aside0.mk hc0
  clear hr0 hc0
  have HB := Aside0.mk (Below.refl w.heap.size w)
  have H : ((impl_joined.f k l0).bind fun t346 => (impl_starts.l0 k ([] : List Int) t346 (t346.length : Int) 0)) = some r := h
  clear h
  replace H := Option.bind_eq_some_iff.mp H
  obtain ⟨t346, A20, H⟩ := H
  replace H : (impl_starts.l0 k ([] : List Int) t346 (t346.length : Int) 0) = some r := H
  have A2 := Aside0.mk A20
  clear A20
  have H' := Aside0.mk H
  clear H
  go_enter Try.func95, Try.ntmps95
  go_wp2_with (first | ((with_reducible refine gate_callee (f := 104) rfl ?_); refine goesL_ (some 7) rfl rfl Try.func104 (by kernel_rfl) rfl #[.slice A0 l0.length c0] rfl (by (try simp only [List.map_toArray, List.map_cons, List.map_nil]); first | done | rfl | (simp only [List.length_drop, List.length_take]; rfl)) ?_; (with_reducible refine (impl_joined.calls k _ _ l0 t346 _ ?side1 ?side2 A2.out).mono ?_); (case side1 => repeat (first | exact HR0.out | (with_reducible refine Kd.C_alloc ?_ _) | (with_reducible refine Kd.C_drewN ?_ _) | (with_reducible refine Kd.C_drew ?_))); (case side2 => exact HC0.out); rintro e w3 ⟨v347, rfl, ho0, hb⟩; refine ⟨_, rfl, ?_⟩; have n0_ := Aside0.mk (Kd.R_lower ho0 (below_size (by repeat (first | (with_reducible first | exact HB.out | apply below_alloc | apply pw_below_drewN | apply below_drew1) | exact HB.out)))); have n1_ := Aside0.mk (below_step (by repeat (first | (with_reducible first | exact HB.out | apply below_alloc | apply pw_below_drewN | apply below_drew1) | exact HB.out)) hb); clear HB; have HO348 := n0_; have HB := n1_; clear n0_ n1_; (try clear hb); (try clear hb2); (try clear hk); (try clear hi); (try clear ho0); obtain ⟨Ao4, co4, eo4⟩ := Kd.R_slice HO348.out; subst eo4))
  go_loopg [3, 9] k (fun kq v3 v9 w' => ∃ (x3_1 : List Int) (x9_1 : Int), v9 = .int .i64 x9_1 ∧ Aside0 (impl_starts.l0 kq x3_1 t346 (t346.length : Int) x9_1 = some r) ∧ Aside0 (kq ≤ k) ∧ Aside0 (Kd.R (Kd.int .i64) 3 w' w.heap.size (fun _ => True) v3 x3_1) ∧ Aside0 (Kd.R Kd.bool 4 w' w.heap.size (fun _ => True) (.slice Ao4 t346.length co4) t346) ∧ Aside0 (Below w.heap.size w w'))
  case atStart => exact ⟨(([] : List Int)), (0), (by first | rfl | (simp; done) | (simp [*]; done)), H', ⟨Nat.le_refl _⟩, ⟨by first | exact Kd.R_nil _ _ _ _ _ | exact Kd.N_nil _ _ _ _ _ | exact Kd.V_nil _ _ _ _ _ | exact Kd.Q_nil _ _ _ _ _ | exact Kd.S_nil _ _ _ _ _⟩, ⟨by (with_reducible repeat (first | apply Kd.R_alloc | apply Kd.R_drewN | apply Kd.R_drew)); exact HO348.out⟩, ⟨by repeat (first | (with_reducible first | exact HB.out | apply below_alloc | apply pw_below_drewN | apply below_drew1) | exact HB.out)⟩⟩
  case round =>
    clear H'
    try clear c1
    try clear p2
    obtain ⟨x3_1, x9_1, rfl, HA, HK1, HO_3, HO_7, HB⟩ := hrel
    cases gk with
    | zero => exact absurd HA.out (by simp [impl_starts.l0])
    | succ k1 =>
      have H := HA.out
      clear HA
      simp only [impl_starts.l0] at H
      by_cases c5 : x9_1 < (t346.length : Int)
      · rw [if_pos c5] at H
        have c5b0 : decide (x9_1 < (t346.length : Int)) = true := decide_eq_true c5
        clear c5
        by_cases c6 : 0 ≤ x9_1
        · rw [if_pos c6] at H
          have c6b0 : decide (0 ≤ x9_1) = true := decide_eq_true c6
          clear c6
          by_cases c7 : x9_1 < (t346.length : Int)
          · rw [if_pos c7] at H
            have c7b0 : decide (x9_1 < (t346.length : Int)) = true := decide_eq_true c7
            clear c7
            obtain ⟨bq8, hbq8⟩ : ∃ b_ : Bool, b_ = (rdOf false t346 x9_1) := ⟨_, rfl⟩
            replace H : (if bq8 = true then (impl_starts.l0 k1 x3_1 t346 (t346.length : Int) (wrap64 (x9_1 + 1))) else (if x3_1.length < 17592186044416 then (impl_starts.l0 k1 (x3_1 ++ [x9_1]) t346 (t346.length : Int) (wrap64 (x9_1 + 1))) else (none))) = some r := by rw [← hbq8] at H; exact H
            have Nbq8 := Aside0.mk hbq8
            clear hbq8
            by_cases c9 : bq8 = true
            · subst c9
              have H1 : (impl_starts.l0 k1 x3_1 t346 (t346.length : Int) (wrap64 (x9_1 + 1))) = some r := by rw [if_pos rfl] at H; exact H
              clear H
              have H := H1
              clear H1
              have H' := Aside0.mk H
              clear H
              have p349 : 0 ≤ (x9_1 : Int) := of_decide_eq_true (by first | (with_reducible assumption) | assumption)
              have q349 : x9_1 < (t346.length : Int) := of_decide_eq_true (by first | (with_reducible assumption) | assumption)
              obtain ⟨ad349, e349, hx349_0⟩ := Kd.at_bool (Kd.R_reads' HO_7.out).2.2 x9_1 p349 q349
              (try rw [← Nbq8.out] at hx349_0)
              cases e349
              replace p349 := eq_true p349
              replace q349 := eq_true q349
              go_wp2
              go_roundg k1
              case measure => have := HK1.out; omega
              case rel => exact ⟨(x3_1), (wrap64 (x9_1 + 1)), (by first | rfl | (simp; done) | (simp [*]; done)), H', ⟨by have := HK1.out; omega⟩, ⟨by (with_reducible repeat (first | apply Kd.R_alloc | apply Kd.R_drewN | apply Kd.R_drew)); exact HO_3.out⟩, ⟨by (with_reducible repeat (first | apply Kd.R_alloc | apply Kd.R_drewN | apply Kd.R_drew)); exact HO_7.out⟩, ⟨by repeat (first | (with_reducible first | exact HB.out | apply below_alloc | apply pw_below_drewN | apply below_drew1) | exact HB.out)⟩⟩
            · replace c9 := Bool.eq_false_iff.mpr c9
              subst c9
              have H1 : (if x3_1.length < 17592186044416 then (impl_starts.l0 k1 (x3_1 ++ [x9_1]) t346 (t346.length : Int) (wrap64 (x9_1 + 1))) else (none)) = some r := by rw [if_neg (show ¬ (false = true) by decide)] at H; exact H
              clear H
              have H := H1
              clear H1
              by_cases c10 : x3_1.length < 17592186044416
              · rw [if_pos c10] at H
                have LMc10 := Aside0.mk c10
                clear c10
                obtain ⟨y350, hy350⟩ : ∃ y_ : List Int, y_ = (x3_1 ++ [x9_1]) := ⟨_, rfl⟩
                replace H : (impl_starts.l0 k1 y350 t346 (t346.length : Int) (wrap64 (x9_1 + 1))) = some r := by first | (rw [hy350]; with_reducible exact H) | (have H2_ := (Option.bind_some _ _).symm.trans H; rw [hy350]; with_reducible exact H2_) | (have H2_ := (Option.bind_some _ _).symm.trans H; with_reducible exact H2_) | with_reducible exact H | (rw [hy350]; exact H) | exact H
                have Ny350 := Aside0.mk hy350
                clear hy350
                have H' := Aside0.mk H
                clear H
                have p349 : 0 ≤ (x9_1 : Int) := of_decide_eq_true (by first | (with_reducible assumption) | assumption)
                have q349 : x9_1 < (t346.length : Int) := of_decide_eq_true (by first | (with_reducible assumption) | assumption)
                obtain ⟨ad349, e349, hx349_0⟩ := Kd.at_bool (Kd.R_reads' HO_7.out).2.2 x9_1 p349 q349
                (try rw [← Nbq8.out] at hx349_0)
                cases e349
                replace p349 := eq_true p349
                replace q349 := eq_true q349
                go_wp2_with (first | ((with_reducible refine gate_builtin (b := .append) (xs := #[.tmp 16, .tmp 18]) rfl ?_); at_builtin; refine Kd.R_append (Kd.int .i64) (w0 := w) w.heap.size rfl (.tmp 16) (.tmp 18) 36 3 (.int .i64 0) 8 rfl Try.underlying36 info3 rfl (by decide) (by omega) u3 x3_1 x9_1 [.int .i64 x9_1] (fun _ => True) (fun _ => False) rfl rfl ?aP (fun _ hk => hk.elim) ?aF ?aO ?aB ?aS ?aL ?_; (case aP => exact rfl); (case aB => exact (by repeat (first | (with_reducible first | exact HB.out | apply below_alloc | apply pw_below_drewN | apply below_drew1) | exact HB.out))); (case aF => exact (fun _ _ => trivial)); (case aO => exact (by (with_reducible repeat (first | apply Kd.R_alloc | apply Kd.R_drewN | apply Kd.R_drew)); exact HO_3.out)); (case aS => exact (below_size (by repeat (first | (with_reducible first | exact HB.out | apply below_alloc | apply pw_below_drewN | apply below_drew1) | exact HB.out)))); (case aL => have := LMc10.out; omega); intro v351 w11 ho hb hg hat; rw [← Ny350.out] at ho; have n0_ := Aside0.mk (Kd.R_over' (by (with_reducible repeat (first | apply Kd.R_alloc | apply Kd.R_drewN | apply Kd.R_drew)); exact HO_7.out) (Kd.R_typed (by (with_reducible repeat (first | apply Kd.R_alloc | apply Kd.R_drewN | apply Kd.R_drew)); exact HO_3.out)) (by decide) hg); have n1_ := Aside0.mk (hb); have n2_ := Aside0.mk (ho); clear HO_7; clear HB; clear HO_3; have HO_7 := n0_; have HB := n1_; have HO352 := n2_; clear n0_ n1_ n2_; clear ho hb hg hat))
                go_roundg k1
                case measure => have := HK1.out; omega
                case rel => exact ⟨(y350), (wrap64 (x9_1 + 1)), (by first | rfl | (simp; done) | (simp [*]; done)), H', ⟨by have := HK1.out; omega⟩, ⟨by (with_reducible repeat (first | apply Kd.R_alloc | apply Kd.R_drewN | apply Kd.R_drew)); exact HO352.out⟩, ⟨by (with_reducible repeat (first | apply Kd.R_alloc | apply Kd.R_drewN | apply Kd.R_drew)); exact HO_7.out⟩, ⟨by repeat (first | (with_reducible first | exact HB.out | apply below_alloc | apply pw_below_drewN | apply below_drew1) | exact HB.out)⟩⟩
              · rw [if_neg c10] at H
                exact absurd H (by simp)
          · rw [if_neg c7] at H
            exact absurd H (by simp)
        · rw [if_neg c6] at H
          exact absurd H (by simp)
      · rw [if_neg c5] at H
        have c5b0 : decide (x9_1 < (t346.length : Int)) = false := decide_eq_false c5
        clear c5
        obtain rfl := Option.some.inj H
        go_wp2
        go_ret
        exact ⟨_, by first | rfl | (simp [errW_none, errW_some] <;> rfl) | (simp [*, errW_none, errW_some] <;> rfl), by (with_reducible repeat (first | apply Kd.R_alloc | apply Kd.R_drewN | apply Kd.R_drew)); exact HO_3.out, by repeat (first | (with_reducible first | exact HB.out | apply below_alloc | apply pw_below_drewN | apply below_drew1) | exact HB.out)⟩

end Go.Proofs.Ytoafenblaioopaa.S

namespace Go.Proofs.Ytoafenblaioopaa.S
open Go.RowKit Go.Proofs.YtoafenblaioopaaW.PrintWords Go.Proofs.YtoafenblaioopaaW.PrintLast Go.Proofs.YtoafenblaioopaaW.PrintMore
attribute [local go_sem] max2_int min2_int max_two min_two max_three min_three max_four min_four   -- for this text's walks alone
set_option linter.unusedVariables false
set_option linter.unusedSimpArgs false

/-! ### impl_wordStarts: function 63 -/
def impl_wordStarts.l0 : Nat → List Int → List Int → Bool → List Int → Int → Int → Option (List Int)
  | 0, _, _, _, _, _, _ => none
  | k + 1, x0, x3, x4, x9, x10, x11 => if x11 < x10 then (if 0 ≤ x11 then (if x11 < (x9.length : Int) then (if 0 ≤ (rd x9 x11) then (if (rd x9 x11) < (x0.length : Int) then ((impl_ofWord.f k (rd x0 (rd x9 x11))).bind fun t358 => (if x11 = 0 then (if x3.length < 17592186044416 then (impl_wordStarts.l0 k x0 (x3 ++ [rd x9 x11]) t358 x9 x10 (wrap64 (x11 + 1))) else (none)) else (if (t358 != x4) = true then (if x3.length < 17592186044416 then (impl_wordStarts.l0 k x0 (x3 ++ [rd x9 x11]) t358 x9 x10 (wrap64 (x11 + 1))) else (none)) else (impl_wordStarts.l0 k x0 x3 t358 x9 x10 (wrap64 (x11 + 1)))))) else (none)) else (none)) else (none)) else (none)) else (some x3)
def impl_wordStarts.f (k : Nat) (l0 : List Int) : Option (List Int) := (impl_starts.f k l0).bind fun t353 => (impl_wordStarts.l0 k l0 ([] : List Int) false t353 (t353.length : Int) 0)
theorem impl_wordStarts.mono_l : ∀ k, (∀ y0 y1 y2 y3 y4 y5, LeO (impl_wordStarts.l0 k y0 y1 y2 y3 y4 y5) (impl_wordStarts.l0 (k + 1) y0 y1 y2 y3 y4 y5))
  | 0 => fun _ _ _ _ _ _ r h => by simp [impl_wordStarts.l0] at h
  | k + 1 => by
    have ih0 := impl_wordStarts.mono_l k
    · intro y0 y1 y2 y3 y4 y5
      unfold impl_wordStarts.l0
      repeat' first
      | (with_reducible exact ih0 _ _ _ _ _ _)
      | (with_reducible exact impl_ofWord.mono _ _)
      | (with_reducible exact impl_starts.mono _ _)
      | (with_reducible exact LeO.refl _)
      | (with_reducible exact LeO.none _)
      | (with_reducible refine LeO.ite ?_ ?_)
      | (with_reducible refine LeO.bind ?_ (fun _ => ?_))
      | exact ih0 _ _ _ _ _ _
      | exact impl_ofWord.mono _ _
      | exact impl_starts.mono _ _
      | exact LeO.none _
      | refine LeO.ite ?_ ?_
      | refine LeO.bind ?_ (fun _ => ?_)
theorem impl_wordStarts.mono : ∀ a0 k, LeO (impl_wordStarts.f k a0) (impl_wordStarts.f (k + 1) a0) := by
  intro a0 k
  have ih0 := impl_wordStarts.mono_l k
  unfold impl_wordStarts.f
  repeat' first
      | (with_reducible exact ih0 _ _ _ _ _ _)
      | (with_reducible exact impl_ofWord.mono _ _)
      | (with_reducible exact impl_starts.mono _ _)
      | (with_reducible exact LeO.refl _)
      | (with_reducible exact LeO.none _)
      | (with_reducible refine LeO.ite ?_ ?_)
      | (with_reducible refine LeO.bind ?_ (fun _ => ?_))
      | exact ih0 _ _ _ _ _ _
      | exact impl_ofWord.mono _ _
      | exact impl_starts.mono _ _
      | exact LeO.none _
      | refine LeO.ite ?_ ?_
      | refine LeO.bind ?_ (fun _ => ?_)
set_option maxHeartbeats 8000000 in
set_option maxRecDepth 100000 in
theorem impl_wordStarts.calls (k : Nat) (A0 : Option Addr) (c0 : Nat) (l0 : List Int) (r : List Int) (w : World) (hr0 : Kd.C (Kd.int .i64) w A0 l0.length l0) (hc0 : l0.length ≤ c0) (h : impl_wordStarts.f k l0 = some r) :
    Calls Try.prog 63 #[.slice A0 l0.length c0] w fun e w' => ∃ v0_ : Value, e = .returned (v0_) ∧ Kd.R (Kd.int .i64) 3 w' w.heap.size (fun _ => True) v0_ r ∧ Below w.heap.size w w' := by
  have HR0 := Aside0.mk hr0
  have HC0 := Aside0.mk hc0
  clear hr0 hc0
  have HB := Aside0.mk (Below.refl w.heap.size w)
  have H : ((impl_starts.f k l0).bind fun t353 => (impl_wordStarts.l0 k l0 ([] : List Int) false t353 (t353.length : Int) 0)) = some r := h
  clear h
  replace H := Option.bind_eq_some_iff.mp H
  obtain ⟨t353, A20, H⟩ := H
  replace H : (impl_wordStarts.l0 k l0 ([] : List Int) false t353 (t353.length : Int) 0) = some r := H
  have A2 := Aside0.mk A20
  clear A20
  have H' := Aside0.mk H
  clear H
  go_enter Try.func63, Try.ntmps63
  go_wp2_with (first | ((with_reducible refine gate_callee (f := 95) rfl ?_); refine goesL_ (some 9) rfl rfl Try.func95 (by kernel_rfl) rfl #[.slice A0 l0.length c0] rfl (by (try simp only [List.map_toArray, List.map_cons, List.map_nil]); first | done | rfl | (simp only [List.length_drop, List.length_take]; rfl)) ?_; (with_reducible refine (impl_starts.calls k _ _ l0 t353 _ ?side1 ?side2 A2.out).mono ?_); (case side1 => repeat (first | exact HR0.out | (with_reducible refine Kd.C_alloc ?_ _) | (with_reducible refine Kd.C_drewN ?_ _) | (with_reducible refine Kd.C_drew ?_))); (case side2 => exact HC0.out); rintro e w3 ⟨v354, rfl, ho0, hb⟩; refine ⟨_, rfl, ?_⟩; have n0_ := Aside0.mk (Kd.R_lower ho0 (below_size (by repeat (first | (with_reducible first | exact HB.out | apply below_alloc | apply pw_below_drewN | apply below_drew1) | exact HB.out)))); have n1_ := Aside0.mk (below_step (by repeat (first | (with_reducible first | exact HB.out | apply below_alloc | apply pw_below_drewN | apply below_drew1) | exact HB.out)) hb); clear HB; have HO355 := n0_; have HB := n1_; clear n0_ n1_; (try clear hb); (try clear hb2); (try clear hk); (try clear hi); (try clear ho0); obtain ⟨Ao4, co4, eo4⟩ := Kd.R_slice HO355.out; subst eo4))
  go_loopg [3, 4, 11] k (fun kq v3 v4 v11 w' => ∃ (x3_1 : List Int) (x4_1 : Bool) (x11_1 : Int), v4 = .bool x4_1 ∧ v11 = .int .i64 x11_1 ∧ Aside0 (impl_wordStarts.l0 kq l0 x3_1 x4_1 t353 (t353.length : Int) x11_1 = some r) ∧ Aside0 (kq ≤ k) ∧ Aside0 (Kd.R (Kd.int .i64) 3 w' w.heap.size (fun k_ => some k_ ≠ ((.slice Ao4 t353.length co4) : Value).ownBlock) v3 x3_1) ∧ Aside0 (Kd.R (Kd.int .i64) 3 w' w.heap.size (fun k_ => some k_ ≠ (v3 : Value).ownBlock) (.slice Ao4 t353.length co4) t353) ∧ Aside0 (Below w.heap.size w w'))
  case atStart => exact ⟨(([] : List Int)), (false), (0), (by first | rfl | (simp; done) | (simp [*]; done)), (by first | rfl | (simp; done) | (simp [*]; done)), H', ⟨Nat.le_refl _⟩, ⟨by first | exact Kd.R_nil _ _ _ _ _ | exact Kd.N_nil _ _ _ _ _ | exact Kd.V_nil _ _ _ _ _ | exact Kd.Q_nil _ _ _ _ _ | exact Kd.S_nil _ _ _ _ _⟩, ⟨by (with_reducible repeat (first | apply Kd.R_alloc | apply Kd.R_drewN | apply Kd.R_drew)); exact Kd.R_mono HO355.out (fun _ hk => (by simp [Value.ownBlock]))⟩, ⟨by repeat (first | (with_reducible first | exact HB.out | apply below_alloc | apply pw_below_drewN | apply below_drew1) | exact HB.out)⟩⟩
  case round =>
    clear H'
    try clear p2
    obtain ⟨x3_1, x4_1, x11_1, rfl, rfl, HA, HK1, HO_3, HO_9, HB⟩ := hrel
    cases gk with
    | zero => exact absurd HA.out (by simp [impl_wordStarts.l0])
    | succ k1 =>
      have H := HA.out
      clear HA
      simp only [impl_wordStarts.l0] at H
      by_cases c5 : x11_1 < (t353.length : Int)
      · rw [if_pos c5] at H
        have c5b0 : decide (x11_1 < (t353.length : Int)) = true := decide_eq_true c5
        clear c5
        by_cases c6 : 0 ≤ x11_1
        · rw [if_pos c6] at H
          have c6b0 : decide (0 ≤ x11_1) = true := decide_eq_true c6
          clear c6
          by_cases c7 : x11_1 < (t353.length : Int)
          · rw [if_pos c7] at H
            have c7b0 : decide (x11_1 < (t353.length : Int)) = true := decide_eq_true c7
            clear c7
            by_cases c8 : 0 ≤ (rd t353 x11_1)
            · rw [if_pos c8] at H
              have c8b0 : decide (0 ≤ (rd t353 x11_1)) = true := decide_eq_true c8
              clear c8
              by_cases c9 : (rd t353 x11_1) < (l0.length : Int)
              · rw [if_pos c9] at H
                have c9b0 : decide ((rd t353 x11_1) < (l0.length : Int)) = true := decide_eq_true c9
                clear c9
                replace H := Option.bind_eq_some_iff.mp H
                obtain ⟨t358, A100, H⟩ := H
                replace H : (if x11_1 = 0 then (if x3_1.length < 17592186044416 then (impl_wordStarts.l0 k1 l0 (x3_1 ++ [rd t353 x11_1]) t358 t353 (t353.length : Int) (wrap64 (x11_1 + 1))) else (none)) else (if (t358 != x4_1) = true then (if x3_1.length < 17592186044416 then (impl_wordStarts.l0 k1 l0 (x3_1 ++ [rd t353 x11_1]) t358 t353 (t353.length : Int) (wrap64 (x11_1 + 1))) else (none)) else (impl_wordStarts.l0 k1 l0 x3_1 t358 t353 (t353.length : Int) (wrap64 (x11_1 + 1))))) = some r := H
                have A10 := Aside0.mk A100
                clear A100
                by_cases c11 : x11_1 = 0
                · rw [if_pos c11] at H
                  have c11b0 : (x11_1 == 0) = true := beq_iff_eq.mpr c11
                  have c11b1 : (x11_1 != 0) = false := bne_eq_false_iff_eq.mpr c11
                  clear c11
                  by_cases c12 : x3_1.length < 17592186044416
                  · rw [if_pos c12] at H
                    have LMc12 := Aside0.mk c12
                    clear c12
                    obtain ⟨y359, hy359⟩ : ∃ y_ : List Int, y_ = (x3_1 ++ [rd t353 x11_1]) := ⟨_, rfl⟩
                    replace H : (impl_wordStarts.l0 k1 l0 y359 t358 t353 (t353.length : Int) (wrap64 (x11_1 + 1))) = some r := by first | (rw [hy359]; with_reducible exact H) | (have H2_ := (Option.bind_some _ _).symm.trans H; rw [hy359]; with_reducible exact H2_) | (have H2_ := (Option.bind_some _ _).symm.trans H; with_reducible exact H2_) | with_reducible exact H | (rw [hy359]; exact H) | exact H
                    have Ny359 := Aside0.mk hy359
                    clear hy359
                    have H' := Aside0.mk H
                    clear H
                    have p356 : 0 ≤ (x11_1 : Int) := of_decide_eq_true (by first | (with_reducible assumption) | assumption)
                    have q356 : x11_1 < (t353.length : Int) := of_decide_eq_true (by first | (with_reducible assumption) | assumption)
                    obtain ⟨ad356, e356, hx356_0⟩ := Kd.at_int (Kd.R_reads' HO_9.out).2.2 x11_1 p356 q356
                    cases e356
                    replace p356 := eq_true p356
                    replace q356 := eq_true q356
                    have p357 : 0 ≤ ((rd t353 x11_1) : Int) := of_decide_eq_true (by first | (with_reducible assumption) | assumption)
                    have q357 : (rd t353 x11_1) < (l0.length : Int) := of_decide_eq_true (by first | (with_reducible assumption) | assumption)
                    obtain ⟨ad357, e357, hx357_0⟩ := Kd.at_int HR0.out (rd t353 x11_1) p357 q357
                    cases e357
                    replace hx357_0 := (HB.out.cell (World.block_lt_of_cell? w _ hx357_0)).trans hx357_0
                    replace p357 := eq_true p357
                    replace q357 := eq_true q357
                    go_wp2_with (first | ((with_reducible refine gate_callee (f := 67) rfl ?_); refine goesL_ (some 20) rfl rfl Try.func67 (by kernel_rfl) rfl #[.int .i64 (rd l0 (rd t353 x11_1))] rfl (by (try simp only [List.map_toArray, List.map_cons, List.map_nil]); first | done | rfl | (simp only [List.length_drop, List.length_take]; rfl)) ?_; (with_reducible refine (impl_ofWord.calls k1 (rd l0 (rd t353 x11_1)) t358 _ A10.out).mono ?_); rintro e w13 ⟨rfl, hb⟩; refine ⟨_, rfl, ?_⟩; have n0_ := Aside0.mk (Kd.R_below (by (with_reducible repeat (first | apply Kd.R_alloc | apply Kd.R_drewN | apply Kd.R_drew)); exact HO_3.out) hb); have n1_ := Aside0.mk (Kd.R_below (by (with_reducible repeat (first | apply Kd.R_alloc | apply Kd.R_drewN | apply Kd.R_drew)); exact HO_9.out) hb); have n2_ := Aside0.mk (below_step (by repeat (first | (with_reducible first | exact HB.out | apply below_alloc | apply pw_below_drewN | apply below_drew1) | exact HB.out)) hb); clear HO_3; clear HO_9; clear HB; have HO_3 := n0_; have HO_9 := n1_; have HB := n2_; clear n0_ n1_ n2_; (try clear hb); (try clear hb2); (try clear hk); (try clear hi)) | ((with_reducible refine gate_builtin (b := .append) (xs := #[.tmp 28, .tmp 30]) rfl ?_); at_builtin; refine Kd.R_append (Kd.int .i64) (w0 := w) w.heap.size rfl (.tmp 28) (.tmp 30) 36 3 (.int .i64 0) 8 rfl Try.underlying36 info3 rfl (by decide) (by omega) u3 x3_1 (rd t353 x11_1) [.int .i64 (rd t353 x11_1)] (fun k_ => some k_ ≠ (.slice (some ad356) t353.length co4 : Value).ownBlock) (fun _ => False) rfl rfl ?aP (fun _ hk => hk.elim) ?aF ?aO ?aB ?aS ?aL ?_; (case aP => exact rfl); (case aB => exact (by repeat (first | (with_reducible first | exact HB.out | apply below_alloc | apply pw_below_drewN | apply below_drew1) | exact HB.out))); (case aF => exact (fun k_ hk => Kd.fresh' (Kd.R_lt (by (with_reducible repeat (first | apply Kd.R_alloc | apply Kd.R_drewN | apply Kd.R_drew)); exact HO_9.out)) k_ hk)); (case aO => exact (by (with_reducible repeat (first | apply Kd.R_alloc | apply Kd.R_drewN | apply Kd.R_drew)); exact HO_3.out)); (case aS => exact (below_size (by repeat (first | (with_reducible first | exact HB.out | apply below_alloc | apply pw_below_drewN | apply below_drew1) | exact HB.out)))); (case aL => have := LMc12.out; omega); intro v360 w14 ho hb hg hat; rw [← Ny359.out] at ho; have n0_ := Aside0.mk (Kd.R_after (ok := (fun _ => True)) (by (with_reducible repeat (first | apply Kd.R_alloc | apply Kd.R_drewN | apply Kd.R_drew)); exact Kd.R_mono HO_9.out (fun _ hk => ⟨trivial, hk⟩)) hg hat); have n1_ := Aside0.mk (hb); have n2_ := Aside0.mk (ho); clear HO_9; clear HB; clear HO_3; have HO_9 := n0_; have HB := n1_; have HO361 := n2_; clear n0_ n1_ n2_; clear ho hb hg hat))
                    go_roundg k1
                    case measure => have := HK1.out; omega
                    case rel => exact ⟨(y359), (t358), (wrap64 (x11_1 + 1)), (by first | rfl | (simp; done) | (simp [*]; done)), (by first | rfl | (simp; done) | (simp [*]; done)), H', ⟨by have := HK1.out; omega⟩, ⟨by (with_reducible repeat (first | apply Kd.R_alloc | apply Kd.R_drewN | apply Kd.R_drew)); exact HO361.out⟩, ⟨by (with_reducible repeat (first | apply Kd.R_alloc | apply Kd.R_drewN | apply Kd.R_drew)); exact Kd.R_mono HO_9.out (fun _ hk => hk.2)⟩, ⟨by repeat (first | (with_reducible first | exact HB.out | apply below_alloc | apply pw_below_drewN | apply below_drew1) | exact HB.out)⟩⟩
                  · rw [if_neg c12] at H
                    exact absurd H (by simp)
                · rw [if_neg c11] at H
                  have c11b0 : (x11_1 == 0) = false := beq_eq_false_iff_ne.mpr c11
                  have c11b1 : (x11_1 != 0) = true := bne_iff_ne.mpr c11
                  by_cases c15 : (t358 != x4_1) = true
                  · rw [if_pos c15] at H
                    have c15b0 : (t358 != x4_1) = true := c15
                    (try (have c15b1 : decide (t358 = x4_1) = false := by simpa using c15))
                    (try (have c15b2 : (t358 == x4_1) = false := by simpa using c15))
                    (try (have c15b3 : ¬ (t358 = x4_1) := by simpa using c15))
                    clear c15
                    by_cases c16 : x3_1.length < 17592186044416
                    · rw [if_pos c16] at H
                      have LMc16 := Aside0.mk c16
                      clear c16
                      obtain ⟨y362, hy362⟩ : ∃ y_ : List Int, y_ = (x3_1 ++ [rd t353 x11_1]) := ⟨_, rfl⟩
                      replace H : (impl_wordStarts.l0 k1 l0 y362 t358 t353 (t353.length : Int) (wrap64 (x11_1 + 1))) = some r := by first | (rw [hy362]; with_reducible exact H) | (have H2_ := (Option.bind_some _ _).symm.trans H; rw [hy362]; with_reducible exact H2_) | (have H2_ := (Option.bind_some _ _).symm.trans H; with_reducible exact H2_) | with_reducible exact H | (rw [hy362]; exact H) | exact H
                      have Ny362 := Aside0.mk hy362
                      clear hy362
                      have H' := Aside0.mk H
                      clear H
                      have p356 : 0 ≤ (x11_1 : Int) := of_decide_eq_true (by first | (with_reducible assumption) | assumption)
                      have q356 : x11_1 < (t353.length : Int) := of_decide_eq_true (by first | (with_reducible assumption) | assumption)
                      obtain ⟨ad356, e356, hx356_0⟩ := Kd.at_int (Kd.R_reads' HO_9.out).2.2 x11_1 p356 q356
                      cases e356
                      replace p356 := eq_true p356
                      replace q356 := eq_true q356
                      have p357 : 0 ≤ ((rd t353 x11_1) : Int) := of_decide_eq_true (by first | (with_reducible assumption) | assumption)
                      have q357 : (rd t353 x11_1) < (l0.length : Int) := of_decide_eq_true (by first | (with_reducible assumption) | assumption)
                      obtain ⟨ad357, e357, hx357_0⟩ := Kd.at_int HR0.out (rd t353 x11_1) p357 q357
                      cases e357
                      replace hx357_0 := (HB.out.cell (World.block_lt_of_cell? w _ hx357_0)).trans hx357_0
                      replace p357 := eq_true p357
                      replace q357 := eq_true q357
                      go_wp2_with (first | ((with_reducible refine gate_callee (f := 67) rfl ?_); refine goesL_ (some 20) rfl rfl Try.func67 (by kernel_rfl) rfl #[.int .i64 (rd l0 (rd t353 x11_1))] rfl (by (try simp only [List.map_toArray, List.map_cons, List.map_nil]); first | done | rfl | (simp only [List.length_drop, List.length_take]; rfl)) ?_; (with_reducible refine (impl_ofWord.calls k1 (rd l0 (rd t353 x11_1)) t358 _ A10.out).mono ?_); rintro e w17 ⟨rfl, hb⟩; refine ⟨_, rfl, ?_⟩; have n0_ := Aside0.mk (Kd.R_below (by (with_reducible repeat (first | apply Kd.R_alloc | apply Kd.R_drewN | apply Kd.R_drew)); exact HO_3.out) hb); have n1_ := Aside0.mk (Kd.R_below (by (with_reducible repeat (first | apply Kd.R_alloc | apply Kd.R_drewN | apply Kd.R_drew)); exact HO_9.out) hb); have n2_ := Aside0.mk (below_step (by repeat (first | (with_reducible first | exact HB.out | apply below_alloc | apply pw_below_drewN | apply below_drew1) | exact HB.out)) hb); clear HO_3; clear HO_9; clear HB; have HO_3 := n0_; have HO_9 := n1_; have HB := n2_; clear n0_ n1_ n2_; (try clear hb); (try clear hb2); (try clear hk); (try clear hi)) | ((with_reducible refine gate_builtin (b := .append) (xs := #[.tmp 28, .tmp 30]) rfl ?_); at_builtin; refine Kd.R_append (Kd.int .i64) (w0 := w) w.heap.size rfl (.tmp 28) (.tmp 30) 36 3 (.int .i64 0) 8 rfl Try.underlying36 info3 rfl (by decide) (by omega) u3 x3_1 (rd t353 x11_1) [.int .i64 (rd t353 x11_1)] (fun k_ => some k_ ≠ (.slice (some ad356) t353.length co4 : Value).ownBlock) (fun _ => False) rfl rfl ?aP (fun _ hk => hk.elim) ?aF ?aO ?aB ?aS ?aL ?_; (case aP => exact rfl); (case aB => exact (by repeat (first | (with_reducible first | exact HB.out | apply below_alloc | apply pw_below_drewN | apply below_drew1) | exact HB.out))); (case aF => exact (fun k_ hk => Kd.fresh' (Kd.R_lt (by (with_reducible repeat (first | apply Kd.R_alloc | apply Kd.R_drewN | apply Kd.R_drew)); exact HO_9.out)) k_ hk)); (case aO => exact (by (with_reducible repeat (first | apply Kd.R_alloc | apply Kd.R_drewN | apply Kd.R_drew)); exact HO_3.out)); (case aS => exact (below_size (by repeat (first | (with_reducible first | exact HB.out | apply below_alloc | apply pw_below_drewN | apply below_drew1) | exact HB.out)))); (case aL => have := LMc16.out; omega); intro v363 w18 ho hb hg hat; rw [← Ny362.out] at ho; have n0_ := Aside0.mk (Kd.R_after (ok := (fun _ => True)) (by (with_reducible repeat (first | apply Kd.R_alloc | apply Kd.R_drewN | apply Kd.R_drew)); exact Kd.R_mono HO_9.out (fun _ hk => ⟨trivial, hk⟩)) hg hat); have n1_ := Aside0.mk (hb); have n2_ := Aside0.mk (ho); clear HO_9; clear HB; clear HO_3; have HO_9 := n0_; have HB := n1_; have HO364 := n2_; clear n0_ n1_ n2_; clear ho hb hg hat))
                      go_roundg k1
                      case measure => have := HK1.out; omega
                      case rel => exact ⟨(y362), (t358), (wrap64 (x11_1 + 1)), (by first | rfl | (simp; done) | (simp [*]; done)), (by first | rfl | (simp; done) | (simp [*]; done)), H', ⟨by have := HK1.out; omega⟩, ⟨by (with_reducible repeat (first | apply Kd.R_alloc | apply Kd.R_drewN | apply Kd.R_drew)); exact HO364.out⟩, ⟨by (with_reducible repeat (first | apply Kd.R_alloc | apply Kd.R_drewN | apply Kd.R_drew)); exact Kd.R_mono HO_9.out (fun _ hk => hk.2)⟩, ⟨by repeat (first | (with_reducible first | exact HB.out | apply below_alloc | apply pw_below_drewN | apply below_drew1) | exact HB.out)⟩⟩
                    · rw [if_neg c16] at H
                      exact absurd H (by simp)
                  · rw [if_neg c15] at H
                    have c15b0 : (t358 != x4_1) = false := by simpa using c15
                    (try (have c15b1 : decide (t358 = x4_1) = true := by simpa using c15))
                    (try (have c15b2 : (t358 == x4_1) = true := by simpa using c15))
                    clear c15
                    have H' := Aside0.mk H
                    clear H
                    have p356 : 0 ≤ (x11_1 : Int) := of_decide_eq_true (by first | (with_reducible assumption) | assumption)
                    have q356 : x11_1 < (t353.length : Int) := of_decide_eq_true (by first | (with_reducible assumption) | assumption)
                    obtain ⟨ad356, e356, hx356_0⟩ := Kd.at_int (Kd.R_reads' HO_9.out).2.2 x11_1 p356 q356
                    cases e356
                    replace p356 := eq_true p356
                    replace q356 := eq_true q356
                    have p357 : 0 ≤ ((rd t353 x11_1) : Int) := of_decide_eq_true (by first | (with_reducible assumption) | assumption)
                    have q357 : (rd t353 x11_1) < (l0.length : Int) := of_decide_eq_true (by first | (with_reducible assumption) | assumption)
                    obtain ⟨ad357, e357, hx357_0⟩ := Kd.at_int HR0.out (rd t353 x11_1) p357 q357
                    cases e357
                    replace hx357_0 := (HB.out.cell (World.block_lt_of_cell? w _ hx357_0)).trans hx357_0
                    replace p357 := eq_true p357
                    replace q357 := eq_true q357
                    go_wp2_with (first | ((with_reducible refine gate_callee (f := 67) rfl ?_); refine goesL_ (some 20) rfl rfl Try.func67 (by kernel_rfl) rfl #[.int .i64 (rd l0 (rd t353 x11_1))] rfl (by (try simp only [List.map_toArray, List.map_cons, List.map_nil]); first | done | rfl | (simp only [List.length_drop, List.length_take]; rfl)) ?_; (with_reducible refine (impl_ofWord.calls k1 (rd l0 (rd t353 x11_1)) t358 _ A10.out).mono ?_); rintro e w19 ⟨rfl, hb⟩; refine ⟨_, rfl, ?_⟩; have n0_ := Aside0.mk (Kd.R_below (by (with_reducible repeat (first | apply Kd.R_alloc | apply Kd.R_drewN | apply Kd.R_drew)); exact HO_3.out) hb); have n1_ := Aside0.mk (Kd.R_below (by (with_reducible repeat (first | apply Kd.R_alloc | apply Kd.R_drewN | apply Kd.R_drew)); exact HO_9.out) hb); have n2_ := Aside0.mk (below_step (by repeat (first | (with_reducible first | exact HB.out | apply below_alloc | apply pw_below_drewN | apply below_drew1) | exact HB.out)) hb); clear HO_3; clear HO_9; clear HB; have HO_3 := n0_; have HO_9 := n1_; have HB := n2_; clear n0_ n1_ n2_; (try clear hb); (try clear hb2); (try clear hk); (try clear hi)))
                    go_roundg k1
                    case measure => have := HK1.out; omega
                    case rel => exact ⟨(x3_1), (t358), (wrap64 (x11_1 + 1)), (by first | rfl | (simp; done) | (simp [*]; done)), (by first | rfl | (simp; done) | (simp [*]; done)), H', ⟨by have := HK1.out; omega⟩, ⟨by (with_reducible repeat (first | apply Kd.R_alloc | apply Kd.R_drewN | apply Kd.R_drew)); exact HO_3.out⟩, ⟨by (with_reducible repeat (first | apply Kd.R_alloc | apply Kd.R_drewN | apply Kd.R_drew)); exact HO_9.out⟩, ⟨by repeat (first | (with_reducible first | exact HB.out | apply below_alloc | apply pw_below_drewN | apply below_drew1) | exact HB.out)⟩⟩
              · rw [if_neg c9] at H
                exact absurd H (by simp)
            · rw [if_neg c8] at H
              exact absurd H (by simp)
          · rw [if_neg c7] at H
            exact absurd H (by simp)
        · rw [if_neg c6] at H
          exact absurd H (by simp)
      · rw [if_neg c5] at H
        have c5b0 : decide (x11_1 < (t353.length : Int)) = false := decide_eq_false c5
        clear c5
        obtain rfl := Option.some.inj H
        go_wp2
        go_ret
        exact ⟨_, by first | rfl | (simp [errW_none, errW_some] <;> rfl) | (simp [*, errW_none, errW_some] <;> rfl), by (with_reducible repeat (first | apply Kd.R_alloc | apply Kd.R_drewN | apply Kd.R_drew)); exact Kd.R_mono HO_3.out (fun _ hk => trivial), by repeat (first | (with_reducible first | exact HB.out | apply below_alloc | apply pw_below_drewN | apply below_drew1) | exact HB.out)⟩

end Go.Proofs.Ytoafenblaioopaa.S

namespace Go.Proofs.Ytoafenblaioopaa.S
open Go.RowKit Go.Proofs.YtoafenblaioopaaW.PrintWords Go.Proofs.YtoafenblaioopaaW.PrintLast Go.Proofs.YtoafenblaioopaaW.PrintMore
attribute [local go_sem] max2_int min2_int max_two min_two max_three min_three max_four min_four   -- for this text's walks alone
set_option linter.unusedVariables false
set_option linter.unusedSimpArgs false

/-! ### impl_WordStarts: function 33 -/
def impl_WordStarts.f (k : Nat) (l0 : List Int) : Option (List Int) := (impl_lettersOk.f l0).bind fun t382 => (if t382 = true then ((impl_wordStarts.f k l0).bind fun t383 => (some t383)) else (some ([] : List Int)))
theorem impl_WordStarts.mono : ∀ a0 k, LeO (impl_WordStarts.f k a0) (impl_WordStarts.f (k + 1) a0) := by
  intro a0 k
  unfold impl_WordStarts.f
  repeat' first
      | (with_reducible exact impl_wordStarts.mono _ _)
      | (with_reducible exact LeO.refl _)
      | (with_reducible exact LeO.none _)
      | (with_reducible refine LeO.ite ?_ ?_)
      | (with_reducible refine LeO.bind ?_ (fun _ => ?_))
      | exact impl_wordStarts.mono _ _
      | exact LeO.none _
      | refine LeO.ite ?_ ?_
      | refine LeO.bind ?_ (fun _ => ?_)
set_option maxHeartbeats 8000000 in
set_option maxRecDepth 100000 in
theorem impl_WordStarts.calls (k : Nat) (A0 : Option Addr) (c0 : Nat) (l0 : List Int) (r : List Int) (w : World) (hr0 : Kd.C (Kd.int .i64) w A0 l0.length l0) (hc0 : l0.length ≤ c0) (h : impl_WordStarts.f k l0 = some r) :
    Calls Try.prog 33 #[.slice A0 l0.length c0] w fun e w' => ∃ v0_ : Value, e = .returned (v0_) ∧ Kd.R (Kd.int .i64) 3 w' w.heap.size (fun _ => True) v0_ r ∧ Below w.heap.size w w' := by
  have HR0 := Aside0.mk hr0
  have HC0 := Aside0.mk hc0
  clear hr0 hc0
  have HB := Aside0.mk (Below.refl w.heap.size w)
  have H : ((impl_lettersOk.f l0).bind fun t382 => (if t382 = true then ((impl_wordStarts.f k l0).bind fun t383 => (some t383)) else (some ([] : List Int)))) = some r := h
  clear h
  replace H := Option.bind_eq_some_iff.mp H
  obtain ⟨t382, A20, H⟩ := H
  replace H : (if t382 = true then ((impl_wordStarts.f k l0).bind fun t383 => (some t383)) else (some ([] : List Int))) = some r := H
  have A2 := Aside0.mk A20
  clear A20
  by_cases c3 : t382 = true
  · subst c3
    have H1 : ((impl_wordStarts.f k l0).bind fun t383 => (some t383)) = some r := by rw [if_pos rfl] at H; exact H
    clear H
    have H := H1
    clear H1
    replace H := Option.bind_eq_some_iff.mp H
    obtain ⟨t383, A40, H⟩ := H
    replace H : (some t383) = some r := H
    have A4 := Aside0.mk A40
    clear A40
    obtain rfl := Option.some.inj H
    go_enter Try.func33, Try.ntmps33
    go_wp2_with (first | ((with_reducible refine gate_callee (f := 60) rfl ?_); refine goesL_ (some 4) rfl rfl Try.func60 (by kernel_rfl) rfl #[.slice A0 l0.length c0] rfl (by (try simp only [List.map_toArray, List.map_cons, List.map_nil]); first | done | rfl | (simp only [List.length_drop, List.length_take]; rfl)) ?_; (with_reducible refine (impl_lettersOk.calls _ _ l0 true _ ?side1 ?side2 A2.out).mono ?_); (case side1 => repeat (first | exact HR0.out | (with_reducible refine Kd.C_alloc ?_ _) | (with_reducible refine Kd.C_drewN ?_ _) | (with_reducible refine Kd.C_drew ?_))); (case side2 => exact HC0.out); rintro e w5 ⟨rfl, hb⟩; refine ⟨_, rfl, ?_⟩; have n0_ := Aside0.mk (below_step (by repeat (first | (with_reducible first | exact HB.out | apply below_alloc | apply pw_below_drewN | apply below_drew1) | exact HB.out)) hb); clear HB; have HB := n0_; clear n0_; (try clear hb); (try clear hb2); (try clear hk); (try clear hi)) | ((with_reducible refine gate_callee (f := 63) rfl ?_); refine goesL_ (some 7) rfl rfl Try.func63 (by kernel_rfl) rfl #[.slice A0 l0.length c0] rfl (by (try simp only [List.map_toArray, List.map_cons, List.map_nil]); first | done | rfl | (simp only [List.length_drop, List.length_take]; rfl)) ?_; (with_reducible refine (impl_wordStarts.calls k _ _ l0 t383 _ ?side1 ?side2 A4.out).mono ?_); (case side1 => repeat (first | exact (Kd.C_below HR0.out HB.out) | (with_reducible refine Kd.C_alloc ?_ _) | (with_reducible refine Kd.C_drewN ?_ _) | (with_reducible refine Kd.C_drew ?_))); (case side2 => exact HC0.out); rintro e w6 ⟨v384, rfl, ho0, hb⟩; refine ⟨_, rfl, ?_⟩; have n0_ := Aside0.mk (Kd.R_lower ho0 (below_size (by repeat (first | (with_reducible first | exact HB.out | apply below_alloc | apply pw_below_drewN | apply below_drew1) | exact HB.out)))); have n1_ := Aside0.mk (below_step (by repeat (first | (with_reducible first | exact HB.out | apply below_alloc | apply pw_below_drewN | apply below_drew1) | exact HB.out)) hb); clear HB; have HO385 := n0_; have HB := n1_; clear n0_ n1_; (try clear hb); (try clear hb2); (try clear hk); (try clear hi); (try clear ho0)))
    go_ret
    exact ⟨_, by first | rfl | (simp [errW_none, errW_some] <;> rfl) | (simp [*, errW_none, errW_some] <;> rfl), by (with_reducible repeat (first | apply Kd.R_alloc | apply Kd.R_drewN | apply Kd.R_drew)); exact HO385.out, by repeat (first | (with_reducible first | exact HB.out | apply below_alloc | apply pw_below_drewN | apply below_drew1) | exact HB.out)⟩
  · replace c3 := Bool.eq_false_iff.mpr c3
    subst c3
    have H1 : (some ([] : List Int)) = some r := by rw [if_neg (show ¬ (false = true) by decide)] at H; exact H
    clear H
    have H := H1
    clear H1
    obtain rfl := Option.some.inj H
    go_enter Try.func33, Try.ntmps33
    go_wp2_with (first | ((with_reducible refine gate_callee (f := 60) rfl ?_); refine goesL_ (some 4) rfl rfl Try.func60 (by kernel_rfl) rfl #[.slice A0 l0.length c0] rfl (by (try simp only [List.map_toArray, List.map_cons, List.map_nil]); first | done | rfl | (simp only [List.length_drop, List.length_take]; rfl)) ?_; (with_reducible refine (impl_lettersOk.calls _ _ l0 false _ ?side1 ?side2 A2.out).mono ?_); (case side1 => repeat (first | exact HR0.out | (with_reducible refine Kd.C_alloc ?_ _) | (with_reducible refine Kd.C_drewN ?_ _) | (with_reducible refine Kd.C_drew ?_))); (case side2 => exact HC0.out); rintro e w7 ⟨rfl, hb⟩; refine ⟨_, rfl, ?_⟩; have n0_ := Aside0.mk (below_step (by repeat (first | (with_reducible first | exact HB.out | apply below_alloc | apply pw_below_drewN | apply below_drew1) | exact HB.out)) hb); clear HB; have HB := n0_; clear n0_; (try clear hb); (try clear hb2); (try clear hk); (try clear hi)))
    go_ret
    exact ⟨_, by first | rfl | (simp [errW_none, errW_some] <;> rfl) | (simp [*, errW_none, errW_some] <;> rfl), by first | exact Kd.R_nil _ _ _ _ _ | exact Kd.N_nil _ _ _ _ _ | exact Kd.V_nil _ _ _ _ _ | exact Kd.Q_nil _ _ _ _ _ | exact Kd.S_nil _ _ _ _ _, by repeat (first | (with_reducible first | exact HB.out | apply below_alloc | apply pw_below_drewN | apply below_drew1) | exact HB.out)⟩

end Go.Proofs.Ytoafenblaioopaa.S

namespace Go.Proofs.Ytoafenblaioopaa.S
open Go.RowKit Go.Proofs.YtoafenblaioopaaW.PrintWords Go.Proofs.YtoafenblaioopaaW.PrintLast Go.Proofs.YtoafenblaioopaaW.PrintMore
attribute [local go_sem] max2_int min2_int max_two min_two max_three min_three max_four min_four   -- for this text's walks alone
set_option linter.unusedVariables false
set_option linter.unusedSimpArgs false

/-! ### impl_WordCount: function 31 -/
def impl_WordCount.l0 : Nat → List Int → Int → List Int → Int → Int → Option (Int)
  | 0, _, _, _, _, _ => none
  | k + 1, x0, x3, x7, x8, x9 => if x9 < x8 then (if 0 ≤ x9 then (if x9 < (x7.length : Int) then (if 0 ≤ (rd x7 x9) then (if (rd x7 x9) < (x0.length : Int) then ((impl_ofWord.f k (rd x0 (rd x7 x9))).bind fun t391 => (if t391 = true then (impl_WordCount.l0 k x0 (wrap64 (x3 + 1)) x7 x8 (wrap64 (x9 + 1))) else (impl_WordCount.l0 k x0 x3 x7 x8 (wrap64 (x9 + 1))))) else (none)) else (none)) else (none)) else (none)) else (some x3)
def impl_WordCount.f (k : Nat) (l0 : List Int) : Option (Int) := (impl_WordStarts.f k l0).bind fun t386 => (impl_WordCount.l0 k l0 0 t386 (t386.length : Int) 0)
theorem impl_WordCount.mono_l : ∀ k, (∀ y0 y1 y2 y3 y4, LeO (impl_WordCount.l0 k y0 y1 y2 y3 y4) (impl_WordCount.l0 (k + 1) y0 y1 y2 y3 y4))
  | 0 => fun _ _ _ _ _ r h => by simp [impl_WordCount.l0] at h
  | k + 1 => by
    have ih0 := impl_WordCount.mono_l k
    · intro y0 y1 y2 y3 y4
      unfold impl_WordCount.l0
      repeat' first
      | (with_reducible exact ih0 _ _ _ _ _)
      | (with_reducible exact impl_WordStarts.mono _ _)
      | (with_reducible exact impl_ofWord.mono _ _)
      | (with_reducible exact LeO.refl _)
      | (with_reducible exact LeO.none _)
      | (with_reducible refine LeO.ite ?_ ?_)
      | (with_reducible refine LeO.bind ?_ (fun _ => ?_))
      | exact ih0 _ _ _ _ _
      | exact impl_WordStarts.mono _ _
      | exact impl_ofWord.mono _ _
      | exact LeO.none _
      | refine LeO.ite ?_ ?_
      | refine LeO.bind ?_ (fun _ => ?_)
theorem impl_WordCount.mono : ∀ a0 k, LeO (impl_WordCount.f k a0) (impl_WordCount.f (k + 1) a0) := by
  intro a0 k
  have ih0 := impl_WordCount.mono_l k
  unfold impl_WordCount.f
  repeat' first
      | (with_reducible exact ih0 _ _ _ _ _)
      | (with_reducible exact impl_WordStarts.mono _ _)
      | (with_reducible exact impl_ofWord.mono _ _)
      | (with_reducible exact LeO.refl _)
      | (with_reducible exact LeO.none _)
      | (with_reducible refine LeO.ite ?_ ?_)
      | (with_reducible refine LeO.bind ?_ (fun _ => ?_))
      | exact ih0 _ _ _ _ _
      | exact impl_WordStarts.mono _ _
      | exact impl_ofWord.mono _ _
      | exact LeO.none _
      | refine LeO.ite ?_ ?_
      | refine LeO.bind ?_ (fun _ => ?_)
set_option maxHeartbeats 8000000 in
set_option maxRecDepth 100000 in
theorem impl_WordCount.calls (k : Nat) (A0 : Option Addr) (c0 : Nat) (l0 : List Int) (r : Int) (w : World) (hr0 : Kd.C (Kd.int .i64) w A0 l0.length l0) (hc0 : l0.length ≤ c0) (h : impl_WordCount.f k l0 = some r) :
    Calls Try.prog 31 #[.slice A0 l0.length c0] w fun e w' => e = .returned (.int .i64 r) ∧ Below w.heap.size w w' := by
  have HR0 := Aside0.mk hr0
  have HC0 := Aside0.mk hc0
  clear hr0 hc0
  have HB := Aside0.mk (Below.refl w.heap.size w)
  have H : ((impl_WordStarts.f k l0).bind fun t386 => (impl_WordCount.l0 k l0 0 t386 (t386.length : Int) 0)) = some r := h
  clear h
  replace H := Option.bind_eq_some_iff.mp H
  obtain ⟨t386, A20, H⟩ := H
  replace H : (impl_WordCount.l0 k l0 0 t386 (t386.length : Int) 0) = some r := H
  have A2 := Aside0.mk A20
  clear A20
  have H' := Aside0.mk H
  clear H
  go_enter Try.func31, Try.ntmps31
  go_wp2_with (first | ((with_reducible refine gate_callee (f := 33) rfl ?_); refine goesL_ (some 7) rfl rfl Try.func33 (by kernel_rfl) rfl #[.slice A0 l0.length c0] rfl (by (try simp only [List.map_toArray, List.map_cons, List.map_nil]); first | done | rfl | (simp only [List.length_drop, List.length_take]; rfl)) ?_; (with_reducible refine (impl_WordStarts.calls k _ _ l0 t386 _ ?side1 ?side2 A2.out).mono ?_); (case side1 => repeat (first | exact HR0.out | (with_reducible refine Kd.C_alloc ?_ _) | (with_reducible refine Kd.C_drewN ?_ _) | (with_reducible refine Kd.C_drew ?_))); (case side2 => exact HC0.out); rintro e w3 ⟨v387, rfl, ho0, hb⟩; refine ⟨_, rfl, ?_⟩; have n0_ := Aside0.mk (Kd.R_lower ho0 (below_size (by repeat (first | (with_reducible first | exact HB.out | apply below_alloc | apply pw_below_drewN | apply below_drew1) | exact HB.out)))); have n1_ := Aside0.mk (below_step (by repeat (first | (with_reducible first | exact HB.out | apply below_alloc | apply pw_below_drewN | apply below_drew1) | exact HB.out)) hb); clear HB; have HO388 := n0_; have HB := n1_; clear n0_ n1_; (try clear hb); (try clear hb2); (try clear hk); (try clear hi); (try clear ho0); obtain ⟨Ao4, co4, eo4⟩ := Kd.R_slice HO388.out; subst eo4))
  go_loopg [3, 9] k (fun kq v3 v9 w' => ∃ (x3_1 : Int) (x9_1 : Int), v3 = .int .i64 x3_1 ∧ v9 = .int .i64 x9_1 ∧ Aside0 (impl_WordCount.l0 kq l0 x3_1 t386 (t386.length : Int) x9_1 = some r) ∧ Aside0 (kq ≤ k) ∧ Aside0 (Kd.R (Kd.int .i64) 3 w' w.heap.size (fun _ => True) (.slice Ao4 t386.length co4) t386) ∧ Aside0 (Below w.heap.size w w'))
  case atStart => exact ⟨(0), (0), (by first | rfl | (simp; done) | (simp [*]; done)), (by first | rfl | (simp; done) | (simp [*]; done)), H', ⟨Nat.le_refl _⟩, ⟨by (with_reducible repeat (first | apply Kd.R_alloc | apply Kd.R_drewN | apply Kd.R_drew)); exact HO388.out⟩, ⟨by repeat (first | (with_reducible first | exact HB.out | apply below_alloc | apply pw_below_drewN | apply below_drew1) | exact HB.out)⟩⟩
  case round =>
    clear H'
    try clear p2
    try clear c3
    obtain ⟨x3_1, x9_1, rfl, rfl, HA, HK1, HO_7, HB⟩ := hrel
    cases gk with
    | zero => exact absurd HA.out (by simp [impl_WordCount.l0])
    | succ k1 =>
      have H := HA.out
      clear HA
      simp only [impl_WordCount.l0] at H
      by_cases c5 : x9_1 < (t386.length : Int)
      · rw [if_pos c5] at H
        have c5b0 : decide (x9_1 < (t386.length : Int)) = true := decide_eq_true c5
        clear c5
        by_cases c6 : 0 ≤ x9_1
        · rw [if_pos c6] at H
          have c6b0 : decide (0 ≤ x9_1) = true := decide_eq_true c6
          clear c6
          by_cases c7 : x9_1 < (t386.length : Int)
          · rw [if_pos c7] at H
            have c7b0 : decide (x9_1 < (t386.length : Int)) = true := decide_eq_true c7
            clear c7
            by_cases c8 : 0 ≤ (rd t386 x9_1)
            · rw [if_pos c8] at H
              have c8b0 : decide (0 ≤ (rd t386 x9_1)) = true := decide_eq_true c8
              clear c8
              by_cases c9 : (rd t386 x9_1) < (l0.length : Int)
              · rw [if_pos c9] at H
                have c9b0 : decide ((rd t386 x9_1) < (l0.length : Int)) = true := decide_eq_true c9
                clear c9
                replace H := Option.bind_eq_some_iff.mp H
                obtain ⟨t391, A100, H⟩ := H
                replace H : (if t391 = true then (impl_WordCount.l0 k1 l0 (wrap64 (x3_1 + 1)) t386 (t386.length : Int) (wrap64 (x9_1 + 1))) else (impl_WordCount.l0 k1 l0 x3_1 t386 (t386.length : Int) (wrap64 (x9_1 + 1)))) = some r := H
                have A10 := Aside0.mk A100
                clear A100
                by_cases c11 : t391 = true
                · subst c11
                  have H1 : (impl_WordCount.l0 k1 l0 (wrap64 (x3_1 + 1)) t386 (t386.length : Int) (wrap64 (x9_1 + 1))) = some r := by rw [if_pos rfl] at H; exact H
                  clear H
                  have H := H1
                  clear H1
                  have H' := Aside0.mk H
                  clear H
                  have p389 : 0 ≤ (x9_1 : Int) := of_decide_eq_true (by first | (with_reducible assumption) | assumption)
                  have q389 : x9_1 < (t386.length : Int) := of_decide_eq_true (by first | (with_reducible assumption) | assumption)
                  obtain ⟨ad389, e389, hx389_0⟩ := Kd.at_int (Kd.R_reads' HO_7.out).2.2 x9_1 p389 q389
                  cases e389
                  replace p389 := eq_true p389
                  replace q389 := eq_true q389
                  have p390 : 0 ≤ ((rd t386 x9_1) : Int) := of_decide_eq_true (by first | (with_reducible assumption) | assumption)
                  have q390 : (rd t386 x9_1) < (l0.length : Int) := of_decide_eq_true (by first | (with_reducible assumption) | assumption)
                  obtain ⟨ad390, e390, hx390_0⟩ := Kd.at_int HR0.out (rd t386 x9_1) p390 q390
                  cases e390
                  replace hx390_0 := (HB.out.cell (World.block_lt_of_cell? w _ hx390_0)).trans hx390_0
                  replace p390 := eq_true p390
                  replace q390 := eq_true q390
                  go_wp2_with (first | ((with_reducible refine gate_callee (f := 67) rfl ?_); refine goesL_ (some 17) rfl rfl Try.func67 (by kernel_rfl) rfl #[.int .i64 (rd l0 (rd t386 x9_1))] rfl (by (try simp only [List.map_toArray, List.map_cons, List.map_nil]); first | done | rfl | (simp only [List.length_drop, List.length_take]; rfl)) ?_; (with_reducible refine (impl_ofWord.calls k1 (rd l0 (rd t386 x9_1)) true _ A10.out).mono ?_); rintro e w12 ⟨rfl, hb⟩; refine ⟨_, rfl, ?_⟩; have n0_ := Aside0.mk (Kd.R_below (by (with_reducible repeat (first | apply Kd.R_alloc | apply Kd.R_drewN | apply Kd.R_drew)); exact HO_7.out) hb); have n1_ := Aside0.mk (below_step (by repeat (first | (with_reducible first | exact HB.out | apply below_alloc | apply pw_below_drewN | apply below_drew1) | exact HB.out)) hb); clear HO_7; clear HB; have HO_7 := n0_; have HB := n1_; clear n0_ n1_; (try clear hb); (try clear hb2); (try clear hk); (try clear hi)))
                  go_roundg k1
                  case measure => have := HK1.out; omega
                  case rel => exact ⟨(wrap64 (x3_1 + 1)), (wrap64 (x9_1 + 1)), (by first | rfl | (simp; done) | (simp [*]; done)), (by first | rfl | (simp; done) | (simp [*]; done)), H', ⟨by have := HK1.out; omega⟩, ⟨by (with_reducible repeat (first | apply Kd.R_alloc | apply Kd.R_drewN | apply Kd.R_drew)); exact HO_7.out⟩, ⟨by repeat (first | (with_reducible first | exact HB.out | apply below_alloc | apply pw_below_drewN | apply below_drew1) | exact HB.out)⟩⟩
                · replace c11 := Bool.eq_false_iff.mpr c11
                  subst c11
                  have H1 : (impl_WordCount.l0 k1 l0 x3_1 t386 (t386.length : Int) (wrap64 (x9_1 + 1))) = some r := by rw [if_neg (show ¬ (false = true) by decide)] at H; exact H
                  clear H
                  have H := H1
                  clear H1
                  have H' := Aside0.mk H
                  clear H
                  have p389 : 0 ≤ (x9_1 : Int) := of_decide_eq_true (by first | (with_reducible assumption) | assumption)
                  have q389 : x9_1 < (t386.length : Int) := of_decide_eq_true (by first | (with_reducible assumption) | assumption)
                  obtain ⟨ad389, e389, hx389_0⟩ := Kd.at_int (Kd.R_reads' HO_7.out).2.2 x9_1 p389 q389
                  cases e389
                  replace p389 := eq_true p389
                  replace q389 := eq_true q389
                  have p390 : 0 ≤ ((rd t386 x9_1) : Int) := of_decide_eq_true (by first | (with_reducible assumption) | assumption)
                  have q390 : (rd t386 x9_1) < (l0.length : Int) := of_decide_eq_true (by first | (with_reducible assumption) | assumption)
                  obtain ⟨ad390, e390, hx390_0⟩ := Kd.at_int HR0.out (rd t386 x9_1) p390 q390
                  cases e390
                  replace hx390_0 := (HB.out.cell (World.block_lt_of_cell? w _ hx390_0)).trans hx390_0
                  replace p390 := eq_true p390
                  replace q390 := eq_true q390
                  go_wp2_with (first | ((with_reducible refine gate_callee (f := 67) rfl ?_); refine goesL_ (some 17) rfl rfl Try.func67 (by kernel_rfl) rfl #[.int .i64 (rd l0 (rd t386 x9_1))] rfl (by (try simp only [List.map_toArray, List.map_cons, List.map_nil]); first | done | rfl | (simp only [List.length_drop, List.length_take]; rfl)) ?_; (with_reducible refine (impl_ofWord.calls k1 (rd l0 (rd t386 x9_1)) false _ A10.out).mono ?_); rintro e w13 ⟨rfl, hb⟩; refine ⟨_, rfl, ?_⟩; have n0_ := Aside0.mk (Kd.R_below (by (with_reducible repeat (first | apply Kd.R_alloc | apply Kd.R_drewN | apply Kd.R_drew)); exact HO_7.out) hb); have n1_ := Aside0.mk (below_step (by repeat (first | (with_reducible first | exact HB.out | apply below_alloc | apply pw_below_drewN | apply below_drew1) | exact HB.out)) hb); clear HO_7; clear HB; have HO_7 := n0_; have HB := n1_; clear n0_ n1_; (try clear hb); (try clear hb2); (try clear hk); (try clear hi)))
                  go_roundg k1
                  case measure => have := HK1.out; omega
                  case rel => exact ⟨(x3_1), (wrap64 (x9_1 + 1)), (by first | rfl | (simp; done) | (simp [*]; done)), (by first | rfl | (simp; done) | (simp [*]; done)), H', ⟨by have := HK1.out; omega⟩, ⟨by (with_reducible repeat (first | apply Kd.R_alloc | apply Kd.R_drewN | apply Kd.R_drew)); exact HO_7.out⟩, ⟨by repeat (first | (with_reducible first | exact HB.out | apply below_alloc | apply pw_below_drewN | apply below_drew1) | exact HB.out)⟩⟩
              · rw [if_neg c9] at H
                exact absurd H (by simp)
            · rw [if_neg c8] at H
              exact absurd H (by simp)
          · rw [if_neg c7] at H
            exact absurd H (by simp)
        · rw [if_neg c6] at H
          exact absurd H (by simp)
      · rw [if_neg c5] at H
        have c5b0 : decide (x9_1 < (t386.length : Int)) = false := decide_eq_false c5
        clear c5
        obtain rfl := Option.some.inj H
        go_wp2
        go_ret
        exact ⟨by first | rfl | (simp [errW_none, errW_some] <;> rfl) | (simp [*, errW_none, errW_some] <;> rfl), by repeat (first | (with_reducible first | exact HB.out | apply below_alloc | apply pw_below_drewN | apply below_drew1) | exact HB.out)⟩

end Go.Proofs.Ytoafenblaioopaa.S

namespace Go.Proofs.Ytoafenblaioopaa.S
open Go.RowKit Go.Proofs.YtoafenblaioopaaW.PrintWords Go.Proofs.YtoafenblaioopaaW.PrintLast Go.Proofs.YtoafenblaioopaaW.PrintMore
attribute [local go_sem] max2_int min2_int max_two min_two max_three min_three max_four min_four   -- for this text's walks alone
set_option linter.unusedVariables false
set_option linter.unusedSimpArgs false

/-! ### laws_FnExactWordCount: function 7 -/
def laws_FnExactWordCount.f (k : Nat) (l0 : List Int) : Option (Bool) := if (l0.length : Int) > 1048576 then (some true) else ((laws_toIntS.f k l0).bind fun t392 => ((spec_WordCount.f k t392).bind fun t395 => ((laws_toIntS.f k l0).bind fun t396 => ((impl_WordCount.f k t396).bind fun t399 => (if t399 = t395 then ((laws_toIntS.f k l0).bind fun t400 => ((laws_eqIntS.f k t396 t400).bind fun t403 => (if t403 = true then (some true) else (some false)))) else (some false))))))
theorem laws_FnExactWordCount.mono : ∀ a0 k, LeO (laws_FnExactWordCount.f k a0) (laws_FnExactWordCount.f (k + 1) a0) := by
  intro a0 k
  unfold laws_FnExactWordCount.f
  repeat' first
      | (with_reducible exact impl_WordCount.mono _ _)
      | (with_reducible exact laws_eqIntS.mono _ _ _)
      | (with_reducible exact laws_toIntS.mono _ _)
      | (with_reducible exact spec_WordCount.mono _ _)
      | (with_reducible exact LeO.refl _)
      | (with_reducible exact LeO.none _)
      | (with_reducible refine LeO.ite ?_ ?_)
      | (with_reducible refine LeO.bind ?_ (fun _ => ?_))
      | exact impl_WordCount.mono _ _
      | exact laws_eqIntS.mono _ _ _
      | exact laws_toIntS.mono _ _
      | exact spec_WordCount.mono _ _
      | exact LeO.none _
      | refine LeO.ite ?_ ?_
      | refine LeO.bind ?_ (fun _ => ?_)
set_option maxHeartbeats 8000000 in
set_option maxRecDepth 100000 in
theorem laws_FnExactWordCount.calls (k : Nat) (A0 : Option Addr) (c0 : Nat) (l0 : List Int) (r : Bool) (w : World) (hr0 : Kd.C (Kd.int .i64) w A0 l0.length l0) (hc0 : l0.length ≤ c0) (h : laws_FnExactWordCount.f k l0 = some r) :
    Calls Try.prog 7 #[.slice A0 l0.length c0] w fun e w' => e = .returned (.bool r) ∧ Below w.heap.size w w' := by
  have HR0 := Aside0.mk hr0
  have HC0 := Aside0.mk hc0
  clear hr0 hc0
  have HB := Aside0.mk (Below.refl w.heap.size w)
  have H : (if (l0.length : Int) > 1048576 then (some true) else ((laws_toIntS.f k l0).bind fun t392 => ((spec_WordCount.f k t392).bind fun t395 => ((laws_toIntS.f k l0).bind fun t396 => ((impl_WordCount.f k t396).bind fun t399 => (if t399 = t395 then ((laws_toIntS.f k l0).bind fun t400 => ((laws_eqIntS.f k t396 t400).bind fun t403 => (if t403 = true then (some true) else (some false)))) else (some false))))))) = some r := h
  clear h
  by_cases c2 : (l0.length : Int) > 1048576
  · rw [if_pos c2] at H
    have c2b0 : decide (1048576 < (l0.length : Int)) = true := decide_eq_true c2
    have c2b1 : decide (1048576 < l0.length) = true := decide_eq_true (by omega)
    clear c2
    obtain rfl := Option.some.inj H
    go_enter Try.func7, Try.ntmps7
    go_wp2
    go_ret
    exact ⟨by first | rfl | (simp [errW_none, errW_some] <;> rfl) | (simp [*, errW_none, errW_some] <;> rfl), by repeat (first | (with_reducible first | exact HB.out | apply below_alloc | apply pw_below_drewN | apply below_drew1) | exact HB.out)⟩
  · rw [if_neg c2] at H
    have c2b0 : decide (1048576 < (l0.length : Int)) = false := decide_eq_false c2
    have c2b1 : decide (1048576 < l0.length) = false := decide_eq_false (by omega)
    clear c2
    replace H := Option.bind_eq_some_iff.mp H
    obtain ⟨t392, A30, H⟩ := H
    replace H : ((spec_WordCount.f k t392).bind fun t395 => ((laws_toIntS.f k l0).bind fun t396 => ((impl_WordCount.f k t396).bind fun t399 => (if t399 = t395 then ((laws_toIntS.f k l0).bind fun t400 => ((laws_eqIntS.f k t396 t400).bind fun t403 => (if t403 = true then (some true) else (some false)))) else (some false))))) = some r := H
    have A3 := Aside0.mk A30
    clear A30
    replace H := Option.bind_eq_some_iff.mp H
    obtain ⟨t395, A40, H⟩ := H
    replace H : ((laws_toIntS.f k l0).bind fun t396 => ((impl_WordCount.f k t396).bind fun t399 => (if t399 = t395 then ((laws_toIntS.f k l0).bind fun t400 => ((laws_eqIntS.f k t396 t400).bind fun t403 => (if t403 = true then (some true) else (some false)))) else (some false)))) = some r := H
    have A4 := Aside0.mk A40
    clear A40
    replace H := Option.bind_eq_some_iff.mp H
    obtain ⟨t396, A50, H⟩ := H
    replace H : ((impl_WordCount.f k t396).bind fun t399 => (if t399 = t395 then ((laws_toIntS.f k l0).bind fun t400 => ((laws_eqIntS.f k t396 t400).bind fun t403 => (if t403 = true then (some true) else (some false)))) else (some false))) = some r := H
    have A5 := Aside0.mk A50
    clear A50
    replace H := Option.bind_eq_some_iff.mp H
    obtain ⟨t399, A60, H⟩ := H
    replace H : (if t399 = t395 then ((laws_toIntS.f k l0).bind fun t400 => ((laws_eqIntS.f k t396 t400).bind fun t403 => (if t403 = true then (some true) else (some false)))) else (some false)) = some r := H
    have A6 := Aside0.mk A60
    clear A60
    by_cases c7 : t399 = t395
    · rw [if_pos c7] at H
      have c7b0 : (t399 == t395) = true := beq_iff_eq.mpr c7
      have c7b1 : (t399 != t395) = false := bne_eq_false_iff_eq.mpr c7
      clear c7
      replace H := Option.bind_eq_some_iff.mp H
      obtain ⟨t400, A80, H⟩ := H
      replace H : ((laws_eqIntS.f k t396 t400).bind fun t403 => (if t403 = true then (some true) else (some false))) = some r := H
      have A8 := Aside0.mk A80
      clear A80
      replace H := Option.bind_eq_some_iff.mp H
      obtain ⟨t403, A90, H⟩ := H
      replace H : (if t403 = true then (some true) else (some false)) = some r := H
      have A9 := Aside0.mk A90
      clear A90
      by_cases c10 : t403 = true
      · subst c10
        have H1 : (some true) = some r := by rw [if_pos rfl] at H; exact H
        clear H
        have H := H1
        clear H1
        obtain rfl := Option.some.inj H
        go_enter Try.func7, Try.ntmps7
        go_wp2_with (first | ((with_reducible refine gate_callee (f := 23) rfl ?_); refine goesL_ (some 10) rfl rfl Try.func23 (by kernel_rfl) rfl #[.slice A0 l0.length c0] rfl (by (try simp only [List.map_toArray, List.map_cons, List.map_nil]); first | done | rfl | (simp only [List.length_drop, List.length_take]; rfl)) ?_; (with_reducible refine (laws_toIntS.calls k _ _ l0 t392 _ ?side1 ?side2 A3.out).mono ?_); (case side1 => repeat (first | exact HR0.out | (with_reducible refine Kd.C_alloc ?_ _) | (with_reducible refine Kd.C_drewN ?_ _) | (with_reducible refine Kd.C_drew ?_))); (case side2 => exact HC0.out); rintro e w11 ⟨v393, rfl, ho0, hb⟩; refine ⟨_, rfl, ?_⟩; have n0_ := Aside0.mk (Kd.R_lower ho0 (below_size (by repeat (first | (with_reducible first | exact HB.out | apply below_alloc | apply pw_below_drewN | apply below_drew1) | exact HB.out)))); have n1_ := Aside0.mk (below_step (by repeat (first | (with_reducible first | exact HB.out | apply below_alloc | apply pw_below_drewN | apply below_drew1) | exact HB.out)) hb); clear HB; have HO394 := n0_; have HB := n1_; clear n0_ n1_; (try clear hb); (try clear hb2); (try clear hk); (try clear hi); (try clear ho0); obtain ⟨Ao12, co12, eo12⟩ := Kd.R_slice HO394.out; subst eo12) | ((with_reducible refine gate_callee (f := 30) rfl ?_); refine goesL_ (some 11) rfl rfl Try.func30 (by kernel_rfl) rfl #[.slice Ao12 t392.length co12] rfl (by (try simp only [List.map_toArray, List.map_cons, List.map_nil]); first | done | rfl | (simp only [List.length_drop, List.length_take]; rfl)) ?_; (with_reducible refine (spec_WordCount.calls k _ _ t392 t395 _ ?side1 ?side2 A4.out).mono ?_); (case side1 => repeat (first | exact (Kd.R_reads' HO394.out).2.2 | (with_reducible refine Kd.C_alloc ?_ _) | (with_reducible refine Kd.C_drewN ?_ _) | (with_reducible refine Kd.C_drew ?_))); (case side2 => exact (Kd.R_reads' HO394.out).2.1); rintro e w13 ⟨rfl, hb⟩; refine ⟨_, rfl, ?_⟩; have n0_ := Aside0.mk (Kd.R_below (by (with_reducible repeat (first | apply Kd.R_alloc | apply Kd.R_drewN | apply Kd.R_drew)); exact HO394.out) hb); have n1_ := Aside0.mk (below_step (by repeat (first | (with_reducible first | exact HB.out | apply below_alloc | apply pw_below_drewN | apply below_drew1) | exact HB.out)) hb); clear HO394; clear HB; have HO394 := n0_; have HB := n1_; clear n0_ n1_; (try clear hb); (try clear hb2); (try clear hk); (try clear hi)) | ((with_reducible refine gate_callee (f := 23) rfl ?_); refine goesL_ (some 13) rfl rfl Try.func23 (by kernel_rfl) rfl #[.slice A0 l0.length c0] rfl (by (try simp only [List.map_toArray, List.map_cons, List.map_nil]); first | done | rfl | (simp only [List.length_drop, List.length_take]; rfl)) ?_; (with_reducible refine (laws_toIntS.calls k _ _ l0 t396 _ ?side1 ?side2 A5.out).mono ?_); (case side1 => repeat (first | exact (Kd.C_below HR0.out HB.out) | (with_reducible refine Kd.C_alloc ?_ _) | (with_reducible refine Kd.C_drewN ?_ _) | (with_reducible refine Kd.C_drew ?_))); (case side2 => exact HC0.out); rintro e w14 ⟨v397, rfl, ho0, hb⟩; refine ⟨_, rfl, ?_⟩; have n0_ := Aside0.mk (Kd.R_elder' (by (with_reducible repeat (first | apply Kd.R_alloc | apply Kd.R_drewN | apply Kd.R_drew)); exact HO394.out) (Kd.R_base ho0) hb); have n1_ := Aside0.mk (Kd.R_lower (Kd.R_new' ho0 (Kd.R_lt (by (with_reducible repeat (first | apply Kd.R_alloc | apply Kd.R_drewN | apply Kd.R_drew)); exact HO394.out))) (below_size (by repeat (first | (with_reducible first | exact HB.out | apply below_alloc | apply pw_below_drewN | apply below_drew1) | exact HB.out)))); have n2_ := Aside0.mk (below_step (by repeat (first | (with_reducible first | exact HB.out | apply below_alloc | apply pw_below_drewN | apply below_drew1) | exact HB.out)) hb); clear HO394; clear HB; have HO394 := n0_; have HO398 := n1_; have HB := n2_; clear n0_ n1_ n2_; (try clear hb); (try clear hb2); (try clear hk); (try clear hi); (try clear ho0); obtain ⟨Ao15, co15, eo15⟩ := Kd.R_slice HO398.out; subst eo15) | ((with_reducible refine gate_callee (f := 31) rfl ?_); refine goesL_ (some 15) rfl rfl Try.func31 (by kernel_rfl) rfl #[.slice Ao15 t396.length co15] rfl (by (try simp only [List.map_toArray, List.map_cons, List.map_nil]); first | done | rfl | (simp only [List.length_drop, List.length_take]; rfl)) ?_; (with_reducible refine (impl_WordCount.calls k _ _ t396 t399 _ ?side1 ?side2 A6.out).mono ?_); (case side1 => repeat (first | exact (Kd.R_reads' HO398.out).2.2 | (with_reducible refine Kd.C_alloc ?_ _) | (with_reducible refine Kd.C_drewN ?_ _) | (with_reducible refine Kd.C_drew ?_))); (case side2 => exact (Kd.R_reads' HO398.out).2.1); rintro e w16 ⟨rfl, hb⟩; refine ⟨_, rfl, ?_⟩; have n0_ := Aside0.mk (Kd.R_below (by (with_reducible repeat (first | apply Kd.R_alloc | apply Kd.R_drewN | apply Kd.R_drew)); exact HO394.out) hb); have n1_ := Aside0.mk (Kd.R_below (by (with_reducible repeat (first | apply Kd.R_alloc | apply Kd.R_drewN | apply Kd.R_drew)); exact HO398.out) hb); have n2_ := Aside0.mk (below_step (by repeat (first | (with_reducible first | exact HB.out | apply below_alloc | apply pw_below_drewN | apply below_drew1) | exact HB.out)) hb); clear HO394; clear HO398; clear HB; have HO394 := n0_; have HO398 := n1_; have HB := n2_; clear n0_ n1_ n2_; (try clear hb); (try clear hb2); (try clear hk); (try clear hi)) | ((with_reducible refine gate_callee (f := 23) rfl ?_); refine goesL_ (some 21) rfl rfl Try.func23 (by kernel_rfl) rfl #[.slice A0 l0.length c0] rfl (by (try simp only [List.map_toArray, List.map_cons, List.map_nil]); first | done | rfl | (simp only [List.length_drop, List.length_take]; rfl)) ?_; (with_reducible refine (laws_toIntS.calls k _ _ l0 t400 _ ?side1 ?side2 A8.out).mono ?_); (case side1 => repeat (first | exact (Kd.C_below HR0.out HB.out) | (with_reducible refine Kd.C_alloc ?_ _) | (with_reducible refine Kd.C_drewN ?_ _) | (with_reducible refine Kd.C_drew ?_))); (case side2 => exact HC0.out); rintro e w17 ⟨v401, rfl, ho0, hb⟩; refine ⟨_, rfl, ?_⟩; have n0_ := Aside0.mk (Kd.R_elder' (by (with_reducible repeat (first | apply Kd.R_alloc | apply Kd.R_drewN | apply Kd.R_drew)); exact HO394.out) (Kd.R_base ho0) hb); have n1_ := Aside0.mk (Kd.R_elder' (by (with_reducible repeat (first | apply Kd.R_alloc | apply Kd.R_drewN | apply Kd.R_drew)); exact HO398.out) (Kd.R_base ho0) hb); have n2_ := Aside0.mk (Kd.R_lower (Kd.R_new' (Kd.R_new' ho0 (Kd.R_lt (by (with_reducible repeat (first | apply Kd.R_alloc | apply Kd.R_drewN | apply Kd.R_drew)); exact HO394.out))) (Kd.R_lt (by (with_reducible repeat (first | apply Kd.R_alloc | apply Kd.R_drewN | apply Kd.R_drew)); exact HO398.out))) (below_size (by repeat (first | (with_reducible first | exact HB.out | apply below_alloc | apply pw_below_drewN | apply below_drew1) | exact HB.out)))); have n3_ := Aside0.mk (below_step (by repeat (first | (with_reducible first | exact HB.out | apply below_alloc | apply pw_below_drewN | apply below_drew1) | exact HB.out)) hb); clear HO394; clear HO398; clear HB; have HO394 := n0_; have HO398 := n1_; have HO402 := n2_; have HB := n3_; clear n0_ n1_ n2_ n3_; (try clear hb); (try clear hb2); (try clear hk); (try clear hi); (try clear ho0); obtain ⟨Ao18, co18, eo18⟩ := Kd.R_slice HO402.out; subst eo18) | ((with_reducible refine gate_callee (f := 25) rfl ?_); refine goesL_ (some 22) rfl rfl Try.func25 (by kernel_rfl) rfl #[.slice Ao15 t396.length co15, .slice Ao18 t400.length co18] rfl (by (try simp only [List.map_toArray, List.map_cons, List.map_nil]); first | done | rfl | (simp only [List.length_drop, List.length_take]; rfl)) ?_; (with_reducible refine (laws_eqIntS.calls k _ _ t396 _ _ t400 true _ ?side1 ?side2 ?side3 ?side4 A9.out).mono ?_); (case side1 => repeat (first | exact (Kd.R_reads' HO398.out).2.2 | (with_reducible refine Kd.C_alloc ?_ _) | (with_reducible refine Kd.C_drewN ?_ _) | (with_reducible refine Kd.C_drew ?_))); (case side2 => exact (Kd.R_reads' HO398.out).2.1); (case side3 => repeat (first | exact (Kd.R_reads' HO402.out).2.2 | (with_reducible refine Kd.C_alloc ?_ _) | (with_reducible refine Kd.C_drewN ?_ _) | (with_reducible refine Kd.C_drew ?_))); (case side4 => exact (Kd.R_reads' HO402.out).2.1); rintro e w' ⟨rfl, ⟨nd, rfl⟩⟩; refine ⟨_, rfl, ?_⟩))
        go_ret
        exact ⟨by first | rfl | (simp [errW_none, errW_some] <;> rfl) | (simp [*, errW_none, errW_some] <;> rfl), by repeat (first | (with_reducible first | exact HB.out | apply below_alloc | apply pw_below_drewN | apply below_drew1) | exact HB.out)⟩
      · replace c10 := Bool.eq_false_iff.mpr c10
        subst c10
        have H1 : (some false) = some r := by rw [if_neg (show ¬ (false = true) by decide)] at H; exact H
        clear H
        have H := H1
        clear H1
        obtain rfl := Option.some.inj H
        go_enter Try.func7, Try.ntmps7
        go_wp2_with (first | ((with_reducible refine gate_callee (f := 23) rfl ?_); refine goesL_ (some 10) rfl rfl Try.func23 (by kernel_rfl) rfl #[.slice A0 l0.length c0] rfl (by (try simp only [List.map_toArray, List.map_cons, List.map_nil]); first | done | rfl | (simp only [List.length_drop, List.length_take]; rfl)) ?_; (with_reducible refine (laws_toIntS.calls k _ _ l0 t392 _ ?side1 ?side2 A3.out).mono ?_); (case side1 => repeat (first | exact HR0.out | (with_reducible refine Kd.C_alloc ?_ _) | (with_reducible refine Kd.C_drewN ?_ _) | (with_reducible refine Kd.C_drew ?_))); (case side2 => exact HC0.out); rintro e w19 ⟨v393, rfl, ho0, hb⟩; refine ⟨_, rfl, ?_⟩; have n0_ := Aside0.mk (Kd.R_lower ho0 (below_size (by repeat (first | (with_reducible first | exact HB.out | apply below_alloc | apply pw_below_drewN | apply below_drew1) | exact HB.out)))); have n1_ := Aside0.mk (below_step (by repeat (first | (with_reducible first | exact HB.out | apply below_alloc | apply pw_below_drewN | apply below_drew1) | exact HB.out)) hb); clear HB; have HO394 := n0_; have HB := n1_; clear n0_ n1_; (try clear hb); (try clear hb2); (try clear hk); (try clear hi); (try clear ho0); obtain ⟨Ao20, co20, eo20⟩ := Kd.R_slice HO394.out; subst eo20) | ((with_reducible refine gate_callee (f := 30) rfl ?_); refine goesL_ (some 11) rfl rfl Try.func30 (by kernel_rfl) rfl #[.slice Ao20 t392.length co20] rfl (by (try simp only [List.map_toArray, List.map_cons, List.map_nil]); first | done | rfl | (simp only [List.length_drop, List.length_take]; rfl)) ?_; (with_reducible refine (spec_WordCount.calls k _ _ t392 t395 _ ?side1 ?side2 A4.out).mono ?_); (case side1 => repeat (first | exact (Kd.R_reads' HO394.out).2.2 | (with_reducible refine Kd.C_alloc ?_ _) | (with_reducible refine Kd.C_drewN ?_ _) | (with_reducible refine Kd.C_drew ?_))); (case side2 => exact (Kd.R_reads' HO394.out).2.1); rintro e w21 ⟨rfl, hb⟩; refine ⟨_, rfl, ?_⟩; have n0_ := Aside0.mk (Kd.R_below (by (with_reducible repeat (first | apply Kd.R_alloc | apply Kd.R_drewN | apply Kd.R_drew)); exact HO394.out) hb); have n1_ := Aside0.mk (below_step (by repeat (first | (with_reducible first | exact HB.out | apply below_alloc | apply pw_below_drewN | apply below_drew1) | exact HB.out)) hb); clear HO394; clear HB; have HO394 := n0_; have HB := n1_; clear n0_ n1_; (try clear hb); (try clear hb2); (try clear hk); (try clear hi)) | ((with_reducible refine gate_callee (f := 23) rfl ?_); refine goesL_ (some 13) rfl rfl Try.func23 (by kernel_rfl) rfl #[.slice A0 l0.length c0] rfl (by (try simp only [List.map_toArray, List.map_cons, List.map_nil]); first | done | rfl | (simp only [List.length_drop, List.length_take]; rfl)) ?_; (with_reducible refine (laws_toIntS.calls k _ _ l0 t396 _ ?side1 ?side2 A5.out).mono ?_); (case side1 => repeat (first | exact (Kd.C_below HR0.out HB.out) | (with_reducible refine Kd.C_alloc ?_ _) | (with_reducible refine Kd.C_drewN ?_ _) | (with_reducible refine Kd.C_drew ?_))); (case side2 => exact HC0.out); rintro e w22 ⟨v397, rfl, ho0, hb⟩; refine ⟨_, rfl, ?_⟩; have n0_ := Aside0.mk (Kd.R_elder' (by (with_reducible repeat (first | apply Kd.R_alloc | apply Kd.R_drewN | apply Kd.R_drew)); exact HO394.out) (Kd.R_base ho0) hb); have n1_ := Aside0.mk (Kd.R_lower (Kd.R_new' ho0 (Kd.R_lt (by (with_reducible repeat (first | apply Kd.R_alloc | apply Kd.R_drewN | apply Kd.R_drew)); exact HO394.out))) (below_size (by repeat (first | (with_reducible first | exact HB.out | apply below_alloc | apply pw_below_drewN | apply below_drew1) | exact HB.out)))); have n2_ := Aside0.mk (below_step (by repeat (first | (with_reducible first | exact HB.out | apply below_alloc | apply pw_below_drewN | apply below_drew1) | exact HB.out)) hb); clear HO394; clear HB; have HO394 := n0_; have HO398 := n1_; have HB := n2_; clear n0_ n1_ n2_; (try clear hb); (try clear hb2); (try clear hk); (try clear hi); (try clear ho0); obtain ⟨Ao23, co23, eo23⟩ := Kd.R_slice HO398.out; subst eo23) | ((with_reducible refine gate_callee (f := 31) rfl ?_); refine goesL_ (some 15) rfl rfl Try.func31 (by kernel_rfl) rfl #[.slice Ao23 t396.length co23] rfl (by (try simp only [List.map_toArray, List.map_cons, List.map_nil]); first | done | rfl | (simp only [List.length_drop, List.length_take]; rfl)) ?_; (with_reducible refine (impl_WordCount.calls k _ _ t396 t399 _ ?side1 ?side2 A6.out).mono ?_); (case side1 => repeat (first | exact (Kd.R_reads' HO398.out).2.2 | (with_reducible refine Kd.C_alloc ?_ _) | (with_reducible refine Kd.C_drewN ?_ _) | (with_reducible refine Kd.C_drew ?_))); (case side2 => exact (Kd.R_reads' HO398.out).2.1); rintro e w24 ⟨rfl, hb⟩; refine ⟨_, rfl, ?_⟩; have n0_ := Aside0.mk (Kd.R_below (by (with_reducible repeat (first | apply Kd.R_alloc | apply Kd.R_drewN | apply Kd.R_drew)); exact HO394.out) hb); have n1_ := Aside0.mk (Kd.R_below (by (with_reducible repeat (first | apply Kd.R_alloc | apply Kd.R_drewN | apply Kd.R_drew)); exact HO398.out) hb); have n2_ := Aside0.mk (below_step (by repeat (first | (with_reducible first | exact HB.out | apply below_alloc | apply pw_below_drewN | apply below_drew1) | exact HB.out)) hb); clear HO394; clear HO398; clear HB; have HO394 := n0_; have HO398 := n1_; have HB := n2_; clear n0_ n1_ n2_; (try clear hb); (try clear hb2); (try clear hk); (try clear hi)) | ((with_reducible refine gate_callee (f := 23) rfl ?_); refine goesL_ (some 21) rfl rfl Try.func23 (by kernel_rfl) rfl #[.slice A0 l0.length c0] rfl (by (try simp only [List.map_toArray, List.map_cons, List.map_nil]); first | done | rfl | (simp only [List.length_drop, List.length_take]; rfl)) ?_; (with_reducible refine (laws_toIntS.calls k _ _ l0 t400 _ ?side1 ?side2 A8.out).mono ?_); (case side1 => repeat (first | exact (Kd.C_below HR0.out HB.out) | (with_reducible refine Kd.C_alloc ?_ _) | (with_reducible refine Kd.C_drewN ?_ _) | (with_reducible refine Kd.C_drew ?_))); (case side2 => exact HC0.out); rintro e w25 ⟨v401, rfl, ho0, hb⟩; refine ⟨_, rfl, ?_⟩; have n0_ := Aside0.mk (Kd.R_elder' (by (with_reducible repeat (first | apply Kd.R_alloc | apply Kd.R_drewN | apply Kd.R_drew)); exact HO394.out) (Kd.R_base ho0) hb); have n1_ := Aside0.mk (Kd.R_elder' (by (with_reducible repeat (first | apply Kd.R_alloc | apply Kd.R_drewN | apply Kd.R_drew)); exact HO398.out) (Kd.R_base ho0) hb); have n2_ := Aside0.mk (Kd.R_lower (Kd.R_new' (Kd.R_new' ho0 (Kd.R_lt (by (with_reducible repeat (first | apply Kd.R_alloc | apply Kd.R_drewN | apply Kd.R_drew)); exact HO394.out))) (Kd.R_lt (by (with_reducible repeat (first | apply Kd.R_alloc | apply Kd.R_drewN | apply Kd.R_drew)); exact HO398.out))) (below_size (by repeat (first | (with_reducible first | exact HB.out | apply below_alloc | apply pw_below_drewN | apply below_drew1) | exact HB.out)))); have n3_ := Aside0.mk (below_step (by repeat (first | (with_reducible first | exact HB.out | apply below_alloc | apply pw_below_drewN | apply below_drew1) | exact HB.out)) hb); clear HO394; clear HO398; clear HB; have HO394 := n0_; have HO398 := n1_; have HO402 := n2_; have HB := n3_; clear n0_ n1_ n2_ n3_; (try clear hb); (try clear hb2); (try clear hk); (try clear hi); (try clear ho0); obtain ⟨Ao26, co26, eo26⟩ := Kd.R_slice HO402.out; subst eo26) | ((with_reducible refine gate_callee (f := 25) rfl ?_); refine goesL_ (some 22) rfl rfl Try.func25 (by kernel_rfl) rfl #[.slice Ao23 t396.length co23, .slice Ao26 t400.length co26] rfl (by (try simp only [List.map_toArray, List.map_cons, List.map_nil]); first | done | rfl | (simp only [List.length_drop, List.length_take]; rfl)) ?_; (with_reducible refine (laws_eqIntS.calls k _ _ t396 _ _ t400 false _ ?side1 ?side2 ?side3 ?side4 A9.out).mono ?_); (case side1 => repeat (first | exact (Kd.R_reads' HO398.out).2.2 | (with_reducible refine Kd.C_alloc ?_ _) | (with_reducible refine Kd.C_drewN ?_ _) | (with_reducible refine Kd.C_drew ?_))); (case side2 => exact (Kd.R_reads' HO398.out).2.1); (case side3 => repeat (first | exact (Kd.R_reads' HO402.out).2.2 | (with_reducible refine Kd.C_alloc ?_ _) | (with_reducible refine Kd.C_drewN ?_ _) | (with_reducible refine Kd.C_drew ?_))); (case side4 => exact (Kd.R_reads' HO402.out).2.1); rintro e w' ⟨rfl, ⟨nd, rfl⟩⟩; refine ⟨_, rfl, ?_⟩))
        go_ret
        exact ⟨by first | rfl | (simp [errW_none, errW_some] <;> rfl) | (simp [*, errW_none, errW_some] <;> rfl), by repeat (first | (with_reducible first | exact HB.out | apply below_alloc | apply pw_below_drewN | apply below_drew1) | exact HB.out)⟩
    · rw [if_neg c7] at H
      have c7b0 : (t399 == t395) = false := beq_eq_false_iff_ne.mpr c7
      have c7b1 : (t399 != t395) = true := bne_iff_ne.mpr c7
      obtain rfl := Option.some.inj H
      go_enter Try.func7, Try.ntmps7
      go_wp2_with (first | ((with_reducible refine gate_callee (f := 23) rfl ?_); refine goesL_ (some 10) rfl rfl Try.func23 (by kernel_rfl) rfl #[.slice A0 l0.length c0] rfl (by (try simp only [List.map_toArray, List.map_cons, List.map_nil]); first | done | rfl | (simp only [List.length_drop, List.length_take]; rfl)) ?_; (with_reducible refine (laws_toIntS.calls k _ _ l0 t392 _ ?side1 ?side2 A3.out).mono ?_); (case side1 => repeat (first | exact HR0.out | (with_reducible refine Kd.C_alloc ?_ _) | (with_reducible refine Kd.C_drewN ?_ _) | (with_reducible refine Kd.C_drew ?_))); (case side2 => exact HC0.out); rintro e w27 ⟨v393, rfl, ho0, hb⟩; refine ⟨_, rfl, ?_⟩; have n0_ := Aside0.mk (Kd.R_lower ho0 (below_size (by repeat (first | (with_reducible first | exact HB.out | apply below_alloc | apply pw_below_drewN | apply below_drew1) | exact HB.out)))); have n1_ := Aside0.mk (below_step (by repeat (first | (with_reducible first | exact HB.out | apply below_alloc | apply pw_below_drewN | apply below_drew1) | exact HB.out)) hb); clear HB; have HO394 := n0_; have HB := n1_; clear n0_ n1_; (try clear hb); (try clear hb2); (try clear hk); (try clear hi); (try clear ho0); obtain ⟨Ao28, co28, eo28⟩ := Kd.R_slice HO394.out; subst eo28) | ((with_reducible refine gate_callee (f := 30) rfl ?_); refine goesL_ (some 11) rfl rfl Try.func30 (by kernel_rfl) rfl #[.slice Ao28 t392.length co28] rfl (by (try simp only [List.map_toArray, List.map_cons, List.map_nil]); first | done | rfl | (simp only [List.length_drop, List.length_take]; rfl)) ?_; (with_reducible refine (spec_WordCount.calls k _ _ t392 t395 _ ?side1 ?side2 A4.out).mono ?_); (case side1 => repeat (first | exact (Kd.R_reads' HO394.out).2.2 | (with_reducible refine Kd.C_alloc ?_ _) | (with_reducible refine Kd.C_drewN ?_ _) | (with_reducible refine Kd.C_drew ?_))); (case side2 => exact (Kd.R_reads' HO394.out).2.1); rintro e w29 ⟨rfl, hb⟩; refine ⟨_, rfl, ?_⟩; have n0_ := Aside0.mk (Kd.R_below (by (with_reducible repeat (first | apply Kd.R_alloc | apply Kd.R_drewN | apply Kd.R_drew)); exact HO394.out) hb); have n1_ := Aside0.mk (below_step (by repeat (first | (with_reducible first | exact HB.out | apply below_alloc | apply pw_below_drewN | apply below_drew1) | exact HB.out)) hb); clear HO394; clear HB; have HO394 := n0_; have HB := n1_; clear n0_ n1_; (try clear hb); (try clear hb2); (try clear hk); (try clear hi)) | ((with_reducible refine gate_callee (f := 23) rfl ?_); refine goesL_ (some 13) rfl rfl Try.func23 (by kernel_rfl) rfl #[.slice A0 l0.length c0] rfl (by (try simp only [List.map_toArray, List.map_cons, List.map_nil]); first | done | rfl | (simp only [List.length_drop, List.length_take]; rfl)) ?_; (with_reducible refine (laws_toIntS.calls k _ _ l0 t396 _ ?side1 ?side2 A5.out).mono ?_); (case side1 => repeat (first | exact (Kd.C_below HR0.out HB.out) | (with_reducible refine Kd.C_alloc ?_ _) | (with_reducible refine Kd.C_drewN ?_ _) | (with_reducible refine Kd.C_drew ?_))); (case side2 => exact HC0.out); rintro e w30 ⟨v397, rfl, ho0, hb⟩; refine ⟨_, rfl, ?_⟩; have n0_ := Aside0.mk (Kd.R_elder' (by (with_reducible repeat (first | apply Kd.R_alloc | apply Kd.R_drewN | apply Kd.R_drew)); exact HO394.out) (Kd.R_base ho0) hb); have n1_ := Aside0.mk (Kd.R_lower (Kd.R_new' ho0 (Kd.R_lt (by (with_reducible repeat (first | apply Kd.R_alloc | apply Kd.R_drewN | apply Kd.R_drew)); exact HO394.out))) (below_size (by repeat (first | (with_reducible first | exact HB.out | apply below_alloc | apply pw_below_drewN | apply below_drew1) | exact HB.out)))); have n2_ := Aside0.mk (below_step (by repeat (first | (with_reducible first | exact HB.out | apply below_alloc | apply pw_below_drewN | apply below_drew1) | exact HB.out)) hb); clear HO394; clear HB; have HO394 := n0_; have HO398 := n1_; have HB := n2_; clear n0_ n1_ n2_; (try clear hb); (try clear hb2); (try clear hk); (try clear hi); (try clear ho0); obtain ⟨Ao31, co31, eo31⟩ := Kd.R_slice HO398.out; subst eo31) | ((with_reducible refine gate_callee (f := 31) rfl ?_); refine goesL_ (some 15) rfl rfl Try.func31 (by kernel_rfl) rfl #[.slice Ao31 t396.length co31] rfl (by (try simp only [List.map_toArray, List.map_cons, List.map_nil]); first | done | rfl | (simp only [List.length_drop, List.length_take]; rfl)) ?_; (with_reducible refine (impl_WordCount.calls k _ _ t396 t399 _ ?side1 ?side2 A6.out).mono ?_); (case side1 => repeat (first | exact (Kd.R_reads' HO398.out).2.2 | (with_reducible refine Kd.C_alloc ?_ _) | (with_reducible refine Kd.C_drewN ?_ _) | (with_reducible refine Kd.C_drew ?_))); (case side2 => exact (Kd.R_reads' HO398.out).2.1); rintro e w32 ⟨rfl, hb⟩; refine ⟨_, rfl, ?_⟩; have n0_ := Aside0.mk (Kd.R_below (by (with_reducible repeat (first | apply Kd.R_alloc | apply Kd.R_drewN | apply Kd.R_drew)); exact HO394.out) hb); have n1_ := Aside0.mk (Kd.R_below (by (with_reducible repeat (first | apply Kd.R_alloc | apply Kd.R_drewN | apply Kd.R_drew)); exact HO398.out) hb); have n2_ := Aside0.mk (below_step (by repeat (first | (with_reducible first | exact HB.out | apply below_alloc | apply pw_below_drewN | apply below_drew1) | exact HB.out)) hb); clear HO394; clear HO398; clear HB; have HO394 := n0_; have HO398 := n1_; have HB := n2_; clear n0_ n1_ n2_; (try clear hb); (try clear hb2); (try clear hk); (try clear hi)))
      go_ret
      exact ⟨by first | rfl | (simp [errW_none, errW_some] <;> rfl) | (simp [*, errW_none, errW_some] <;> rfl), by repeat (first | (with_reducible first | exact HB.out | apply below_alloc | apply pw_below_drewN | apply below_drew1) | exact HB.out)⟩

/-- THE ONE PURE STATEMENT of laws_FnExactWordCount: yours. -/
def laws_FnExactWordCount.Pure : Prop := ∀ (l0 : List Int), l0.length ≤ maxLen → l0.length * 8 ≤ 140737488351232 → (∀ x ∈ l0, (Lit.int .i64 x).wf = true) → ∃ k, laws_FnExactWordCount.f k l0 = some true
theorem laws_FnExactWordCount.walk (P : laws_FnExactWordCount.Pure) (a0 : Option Addr) (len0 cap0 : Nat) (z0 : List Int) (w : World) (w0 : (a0 = none ∧ len0 = 0 ∧ cap0 = 0 ∧ z0 = []) ∨ ∃ x, a0 = some x ∧ len0 ≤ cap0 ∧ cap0 ≤ maxLen ∧ z0.length = cap0 ∧ (∀ i, i < z0.length → w.cell? (x.add i) = some (.int .i64 (z0.getD i 0))) ∧ ∀ n ∈ z0, (Lit.int .i64 n).wf = true) (y0 : len0 * 8 ≤ 140737488351232) :
    Calls Try.prog 7 #[.slice a0 len0 cap0] w fun e w' => e = .returned (.bool true) ∧ Below w.heap.size w w' := by
  obtain ⟨l0, rfl, hr0, hm0, hw0, hc0⟩ := ReadsInt.ofRowC w0
  obtain ⟨k, h⟩ := P l0 hm0 y0 hw0
  refine (laws_FnExactWordCount.calls k _ _ l0 true w (Kd.C_of_reads (d := (0 : Int)) (h1 := fun _ => rfl) hr0) hc0 h).mono ?_
  rintro e w' ⟨rfl, hd⟩
  exact ⟨rfl, hd⟩

end Go.Proofs.Ytoafenblaioopaa.S

/- What a search by halves in an ascending row of reaches finds: the first reach that holds the number. -/
namespace Go.Proofs.Ytoafenblaioopaa.Pure
open Go.RowKit Go.Proofs.Ytoafenblaioopaa.S Go.Proofs.YtoafenblaioopaaW.PrintWords Go.Proofs.YtoafenblaioopaaW.PrintLast
theorem cmpR_neg {x : S59} {r : Int} (h : x.f0 ≤ x.f1) : cmpR x r < 0 ↔ x.f1 < r := by
  unfold cmpR; split
  · omega
  · split
    · omega
    · split <;> omega
theorem cmpR_zero {x : S59} {r : Int} (h : x.f0 ≤ x.f1) : cmpR x r = 0 ↔ x.f0 ≤ r ∧ r ≤ x.f1 := by
  unfold cmpR; split
  · omega
  · split
    · omega
    · split <;> omega
def inR (r : Int) (x : S59) : Bool := decide (x.f0 ≤ r) && decide (r ≤ x.f1)
theorem inR_iff {r : Int} {x : S59} : inR r x = true ↔ x.f0 ≤ r ∧ r ≤ x.f1 := by simp [inR]
theorem inR_not {r : Int} {x : S59} (h : ¬ (x.f0 ≤ r ∧ r ≤ x.f1)) : inR r x = false := by
  cases e : inR r x
  · rfl
  · exact absurd (inR_iff.1 e) h
/-- The row is ascending, as the search wants it. -/
def ascR : List S59 → Bool
  | [] => true
  | x :: l => decide (x.f0 ≤ x.f1) && l.all (fun y => decide (x.f1 < y.f0)) && ascR l
theorem ascR_le : ∀ {l : List S59}, ascR l = true → ∀ t, t < l.length → (l.getD t z59).f0 ≤ (l.getD t z59).f1
  | x :: l, h, 0, _ => by simp [ascR] at h; simpa using h.1.1
  | x :: l, h, t + 1, ht => by simp [ascR] at h; simpa using ascR_le (l := l) h.2 t (by simpa using ht)
theorem ascR_lt : ∀ {l : List S59}, ascR l = true → ∀ s t, s < t → t < l.length → (l.getD s z59).f1 < (l.getD t z59).f0
  | x :: l, h, 0, t + 1, _, ht => by
    simp [ascR] at h
    have ht' : t < l.length := by simpa using ht
    simpa [List.getD_eq_getElem?_getD, ht'] using h.1.2 (l[t]) (List.getElem_mem ht')
  | x :: l, h, s + 1, t + 1, hst, ht => by simp [ascR] at h; simpa using ascR_lt (l := l) h.2 s t (by omega) (by simpa using ht)
theorem bsR_bounds {l : List S59} {r : Int} (ha : ascR l = true) : ∀ (k lo hi : Nat), hi - lo ≤ k → lo ≤ hi → hi ≤ l.length →
    (∀ t, t < lo → (l.getD t z59).f1 < r) → (∀ t, hi ≤ t → t < l.length → r ≤ (l.getD t z59).f1) →
    bsR l r k lo hi ≤ l.length ∧ (∀ t, t < bsR l r k lo hi → (l.getD t z59).f1 < r) ∧ (∀ t, bsR l r k lo hi ≤ t → t < l.length → r ≤ (l.getD t z59).f1)
  | 0, lo, hi, hk, hlh, hn, h1, h2 => by
    obtain rfl : lo = hi := by omega
    exact ⟨hn, h1, h2⟩
  | k + 1, lo, hi, hk, hlh, hn, h1, h2 => by
    rw [bsR]
    by_cases hlt : lo < hi
    · rw [if_pos hlt]
      have hm : (lo + hi) / 2 < l.length := by omega
      have hle := ascR_le ha _ hm
      by_cases hc : cmpR (l.getD ((lo + hi) / 2) z59) r < 0
      · rw [if_pos hc]
        refine bsR_bounds ha k _ hi (by omega) (by omega) hn (fun t ht => ?_) h2
        have hc' := (cmpR_neg hle).1 hc
        by_cases e : t = (lo + hi) / 2
        · rw [e]; exact hc'
        · have := ascR_lt ha t ((lo + hi) / 2) (by omega) hm
          omega
      · rw [if_neg hc]
        refine bsR_bounds ha k lo _ (by omega) (by omega) (by omega) h1 (fun t ht htn => ?_)
        have hc' : r ≤ (l.getD ((lo + hi) / 2) z59).f1 := by
          have := (cmpR_neg (r := r) hle).2
          omega
        by_cases e : t = (lo + hi) / 2
        · rw [e]; exact hc'
        · have a := ascR_lt ha ((lo + hi) / 2) t (by omega) htn
          have b := ascR_le ha t htn
          omega
    · rw [if_neg hlt]
      obtain rfl : lo = hi := by omega
      exact ⟨hn, h1, h2⟩
theorem find?_at {l : List S59} {p : S59 → Bool} {i : Nat} (hi : i < l.length) (hp : p (l.getD i z59) = true) (hb : ∀ t, t < i → p (l.getD t z59) = false) : l.find? p = some (l.getD i z59) := by
  induction l generalizing i with
  | nil => simp at hi
  | cons x l ih =>
    cases i with
    | zero => simp at hp ⊢; simp [hp]
    | succ i =>
      have h0 : p x = false := by simpa using hb 0 (by omega)
      rw [List.find?_cons, h0]
      simpa using ih (i := i) (by simpa using hi) (by simpa using hp) (fun t ht => by simpa using hb (t + 1) (by omega))
theorem find?_none' {l : List S59} {p : S59 → Bool} (hb : ∀ t, t < l.length → p (l.getD t z59) = false) : l.find? p = none := by
  rw [List.find?_eq_none]
  intro x hx
  obtain ⟨t, ht, rfl⟩ := List.getElem_of_mem hx
  have := hb t ht
  simpa [List.getD_eq_getElem?_getD, ht] using this
theorem findV_eq {l : List S59} (ha : ascR l = true) (r o : Int) : findV l r o = match l.find? (inR r) with | some x => x.f2 | none => o := by
  obtain ⟨hn, h1, h2⟩ := bsR_bounds (r := r) ha l.length 0 l.length (by omega) (by omega) (Nat.le_refl _) (fun t ht => absurd ht (Nat.not_lt_zero _)) (fun t h h' => by omega)
  unfold findV
  generalize bsR l r l.length 0 l.length = i at hn h1 h2
  by_cases hc : i < l.length ∧ cmpR (l.getD i z59) r = 0
  · rw [if_pos hc]
    have hz := (cmpR_zero (ascR_le ha i hc.1)).1 hc.2
    rw [find?_at hc.1 (inR_iff.2 hz) (fun t ht => inR_not (by have := h1 t ht; omega))]
  · rw [if_neg hc]
    rw [find?_none' (fun t ht => ?_)]
    by_cases hlt : t < i
    · have := h1 t hlt; exact inR_not (by omega)
    · have hi : i < l.length := by omega
      have hz : ¬ ((l.getD i z59).f0 ≤ r ∧ r ≤ (l.getD i z59).f1) := fun hh => hc ⟨hi, (cmpR_zero (ascR_le ha i hi)).2 hh⟩
      have hr := h2 i (Nat.le_refl _) hi
      by_cases e : t = i
      · rw [e]; exact inR_not hz
      · have := ascR_lt ha i t (by omega) ht
        exact inR_not (by omega)

end Go.Proofs.Ytoafenblaioopaa.Pure

/- The direction of a letter, by both texts. -/
namespace Go.Proofs.Ytoafenblaioopaa.Pure
open Go.RowKit Go.Proofs.Ytoafenblaioopaa.S Go.Proofs.YtoafenblaioopaaW.PrintWords Go.Proofs.YtoafenblaioopaaW.PrintLast
theorem l1In_b (a b c : Int) : spec_l1In.f a b c = some (decide (b ≤ a) && decide (a ≤ c)) := by
  unfold spec_l1In.f
  by_cases h : b ≤ a <;> simp [h]
def moveV (a : Int) : Int := if a = 8234 then 14 else if a = 8235 then 15 else if a = 8236 then 16 else if a = 8237 then 17 else if a = 8238 then 18 else if a = 8294 then 19 else if a = 8295 then 20 else if a = 8296 then 21 else if a = 8297 then 22 else 13
def bidiV (a : Int) : Int := if 97 ≤ a ∧ a ≤ 122 then 1 else if 65 ≤ a ∧ a ≤ 90 then 1 else if 19968 ≤ a ∧ a ≤ 40959 then 1 else if 1488 ≤ a ∧ a ≤ 1514 then 2 else if 1569 ≤ a ∧ a ≤ 1610 then 3 else if 48 ≤ a ∧ a ≤ 57 then 4 else if 1632 ≤ a ∧ a ≤ 1641 then 7
  else if a = 43 then 5 else if a = 45 then 5 else if 35 ≤ a ∧ a ≤ 37 then 6 else if a = 44 then 8 else if a = 46 then 8 else if a = 47 then 8 else if a = 58 then 8 else if 768 ≤ a ∧ a ≤ 879 then 9
  else if a = 8203 then 10 else if a = 8205 then 10 else if a = 173 then 10 else if a = 9 then 11 else if a = 32 then 12 else moveV a
theorem moves_p (k : Nat) (a : Int) : spec_l1Moves.f (k + 10) a = some (moveV a) := by
  by_cases h1 : a = 8234
  · subst h1; simp [spec_l1Moves.f, spec_l1Moves.l0, rd, wrap64, moveV]
  by_cases h2 : a = 8235
  · subst h2; simp [spec_l1Moves.f, spec_l1Moves.l0, rd, wrap64, moveV]
  by_cases h3 : a = 8236
  · subst h3; simp [spec_l1Moves.f, spec_l1Moves.l0, rd, wrap64, moveV]
  by_cases h4 : a = 8237
  · subst h4; simp [spec_l1Moves.f, spec_l1Moves.l0, rd, wrap64, moveV]
  by_cases h5 : a = 8238
  · subst h5; simp [spec_l1Moves.f, spec_l1Moves.l0, rd, wrap64, moveV]
  by_cases h6 : a = 8294
  · subst h6; simp [spec_l1Moves.f, spec_l1Moves.l0, rd, wrap64, moveV]
  by_cases h7 : a = 8295
  · subst h7; simp [spec_l1Moves.f, spec_l1Moves.l0, rd, wrap64, moveV]
  by_cases h8 : a = 8296
  · subst h8; simp [spec_l1Moves.f, spec_l1Moves.l0, rd, wrap64, moveV]
  by_cases h9 : a = 8297
  · subst h9; simp [spec_l1Moves.f, spec_l1Moves.l0, rd, wrap64, moveV]
  have e : moveV a = 13 := by simp [moveV, h1, h2, h3, h4, h5, h6, h7, h8, h9]
  simp [spec_l1Moves.f, spec_l1Moves.l0, rd, wrap64, e, Ne.symm h1, Ne.symm h2, Ne.symm h3, Ne.symm h4, Ne.symm h5, Ne.symm h6, Ne.symm h7, Ne.symm h8, Ne.symm h9]
set_option maxHeartbeats 8000000 in
theorem signs_p (k : Nat) (a : Int) : spec_l1Signs.f (k + 13) a = some (if a = 43 then 5 else if a = 45 then 5 else if 35 ≤ a ∧ a ≤ 37 then 6 else if a = 44 then 8 else if a = 46 then 8 else if a = 47 then 8 else if a = 58 then 8 else if 768 ≤ a ∧ a ≤ 879 then 9
  else if a = 8203 then 10 else if a = 8205 then 10 else if a = 173 then 10 else if a = 9 then 11 else if a = 32 then 12 else moveV a) := by
  simp only [spec_l1Signs.f, spec_l1Signs.j0, spec_l1Signs.j1, spec_l1Signs.j2, l1In_b, Option.bind_some, moves_p]
  grind (splits := 40)
set_option maxHeartbeats 8000000 in
theorem spec_bidi_p (k : Nat) (a : Int) : spec_RuneBidi.f (k + 14) a = some (bidiV a) := by
  simp only [spec_RuneBidi.f, spec_RuneBidi.j0, l1In_b, Option.bind_some, signs_p, bidiV]
  grind (splits := 40)
theorem spec_bidi_k {k : Nat} (h : 14 ≤ k) (a : Int) : spec_RuneBidi.f k a = some (bidiV a) := by
  obtain ⟨k, rfl⟩ : ∃ m, k = m + 14 := ⟨k - 14, by omega⟩
  exact spec_bidi_p k a
theorem find_if {α : Type} (p : α → Bool) (x : α) (l : List α) : (x :: l).find? p = if p x = true then some x else l.find? p := by
  cases h : p x <;> simp [h]
set_option maxHeartbeats 8000000 in
theorem bidi_chain (a : Int) : (if 9 ≤ a ∧ a ≤ 9 then (11 : Int) else if 32 ≤ a ∧ a ≤ 32 then (12 : Int) else if 35 ≤ a ∧ a ≤ 37 then (6 : Int) else if 43 ≤ a ∧ a ≤ 43 then (5 : Int) else if 44 ≤ a ∧ a ≤ 44 then (8 : Int) else if 45 ≤ a ∧ a ≤ 45 then (5 : Int) else if 46 ≤ a ∧ a ≤ 47 then (8 : Int) else if 48 ≤ a ∧ a ≤ 57 then (4 : Int) else if 58 ≤ a ∧ a ≤ 58 then (8 : Int) else if 65 ≤ a ∧ a ≤ 90 then (1 : Int) else if 97 ≤ a ∧ a ≤ 122 then (1 : Int) else if 173 ≤ a ∧ a ≤ 173 then (10 : Int) else if 768 ≤ a ∧ a ≤ 879 then (9 : Int) else if 1488 ≤ a ∧ a ≤ 1514 then (2 : Int) else if 1569 ≤ a ∧ a ≤ 1610 then (3 : Int) else if 1632 ≤ a ∧ a ≤ 1641 then (7 : Int) else if 8203 ≤ a ∧ a ≤ 8203 then (10 : Int) else if 8205 ≤ a ∧ a ≤ 8205 then (10 : Int) else if 8234 ≤ a ∧ a ≤ 8234 then (14 : Int) else if 8235 ≤ a ∧ a ≤ 8235 then (15 : Int) else if 8236 ≤ a ∧ a ≤ 8236 then (16 : Int) else if 8237 ≤ a ∧ a ≤ 8237 then (17 : Int) else if 8238 ≤ a ∧ a ≤ 8238 then (18 : Int) else if 8294 ≤ a ∧ a ≤ 8294 then (19 : Int) else if 8295 ≤ a ∧ a ≤ 8295 then (20 : Int) else if 8296 ≤ a ∧ a ≤ 8296 then (21 : Int) else if 8297 ≤ a ∧ a ≤ 8297 then (22 : Int) else if 19968 ≤ a ∧ a ≤ 40959 then (1 : Int) else 13) = bidiV a := by
  unfold bidiV moveV
  by_cases h0 : a < 9
  · (repeat (first | rw [if_pos (by omega)] | rw [if_neg (by omega)])) <;> try rfl
  by_cases h1 : a < 10
  · (repeat (first | rw [if_pos (by omega)] | rw [if_neg (by omega)])) <;> try rfl
  clear h0
  by_cases h2 : a < 32
  · (repeat (first | rw [if_pos (by omega)] | rw [if_neg (by omega)])) <;> try rfl
  clear h1
  by_cases h3 : a < 33
  · (repeat (first | rw [if_pos (by omega)] | rw [if_neg (by omega)])) <;> try rfl
  clear h2
  by_cases h4 : a < 35
  · (repeat (first | rw [if_pos (by omega)] | rw [if_neg (by omega)])) <;> try rfl
  clear h3
  by_cases h5 : a < 38
  · (repeat (first | rw [if_pos (by omega)] | rw [if_neg (by omega)])) <;> try rfl
  clear h4
  by_cases h6 : a < 43
  · (repeat (first | rw [if_pos (by omega)] | rw [if_neg (by omega)])) <;> try rfl
  clear h5
  by_cases h7 : a < 44
  · (repeat (first | rw [if_pos (by omega)] | rw [if_neg (by omega)])) <;> try rfl
  clear h6
  by_cases h8 : a < 45
  · (repeat (first | rw [if_pos (by omega)] | rw [if_neg (by omega)])) <;> try rfl
  clear h7
  by_cases h9 : a < 46
  · (repeat (first | rw [if_pos (by omega)] | rw [if_neg (by omega)])) <;> try rfl
  clear h8
  by_cases h90 : a < 47
  · (repeat (first | rw [if_pos (by omega)] | rw [if_neg (by omega)])) <;> try rfl
  clear h9
  by_cases h10 : a < 48
  · (repeat (first | rw [if_pos (by omega)] | rw [if_neg (by omega)])) <;> try rfl
  clear h90
  by_cases h11 : a < 58
  · (repeat (first | rw [if_pos (by omega)] | rw [if_neg (by omega)])) <;> try rfl
  clear h10
  by_cases h12 : a < 59
  · (repeat (first | rw [if_pos (by omega)] | rw [if_neg (by omega)])) <;> try rfl
  clear h11
  by_cases h13 : a < 65
  · (repeat (first | rw [if_pos (by omega)] | rw [if_neg (by omega)])) <;> try rfl
  clear h12
  by_cases h14 : a < 91
  · (repeat (first | rw [if_pos (by omega)] | rw [if_neg (by omega)])) <;> try rfl
  clear h13
  by_cases h15 : a < 97
  · (repeat (first | rw [if_pos (by omega)] | rw [if_neg (by omega)])) <;> try rfl
  clear h14
  by_cases h16 : a < 123
  · (repeat (first | rw [if_pos (by omega)] | rw [if_neg (by omega)])) <;> try rfl
  clear h15
  by_cases h17 : a < 173
  · (repeat (first | rw [if_pos (by omega)] | rw [if_neg (by omega)])) <;> try rfl
  clear h16
  by_cases h18 : a < 174
  · (repeat (first | rw [if_pos (by omega)] | rw [if_neg (by omega)])) <;> try rfl
  clear h17
  by_cases h19 : a < 768
  · (repeat (first | rw [if_pos (by omega)] | rw [if_neg (by omega)])) <;> try rfl
  clear h18
  by_cases h20 : a < 880
  · (repeat (first | rw [if_pos (by omega)] | rw [if_neg (by omega)])) <;> try rfl
  clear h19
  by_cases h21 : a < 1488
  · (repeat (first | rw [if_pos (by omega)] | rw [if_neg (by omega)])) <;> try rfl
  clear h20
  by_cases h22 : a < 1515
  · (repeat (first | rw [if_pos (by omega)] | rw [if_neg (by omega)])) <;> try rfl
  clear h21
  by_cases h23 : a < 1569
  · (repeat (first | rw [if_pos (by omega)] | rw [if_neg (by omega)])) <;> try rfl
  clear h22
  by_cases h24 : a < 1611
  · (repeat (first | rw [if_pos (by omega)] | rw [if_neg (by omega)])) <;> try rfl
  clear h23
  by_cases h25 : a < 1632
  · (repeat (first | rw [if_pos (by omega)] | rw [if_neg (by omega)])) <;> try rfl
  clear h24
  by_cases h26 : a < 1642
  · (repeat (first | rw [if_pos (by omega)] | rw [if_neg (by omega)])) <;> try rfl
  clear h25
  by_cases h27 : a < 8203
  · (repeat (first | rw [if_pos (by omega)] | rw [if_neg (by omega)])) <;> try rfl
  clear h26
  by_cases h28 : a < 8204
  · (repeat (first | rw [if_pos (by omega)] | rw [if_neg (by omega)])) <;> try rfl
  clear h27
  by_cases h29 : a < 8205
  · (repeat (first | rw [if_pos (by omega)] | rw [if_neg (by omega)])) <;> try rfl
  clear h28
  by_cases h30 : a < 8206
  · (repeat (first | rw [if_pos (by omega)] | rw [if_neg (by omega)])) <;> try rfl
  clear h29
  by_cases h31 : a < 8234
  · (repeat (first | rw [if_pos (by omega)] | rw [if_neg (by omega)])) <;> try rfl
  clear h30
  by_cases h32 : a < 8235
  · (repeat (first | rw [if_pos (by omega)] | rw [if_neg (by omega)])) <;> try rfl
  clear h31
  by_cases h33 : a < 8236
  · (repeat (first | rw [if_pos (by omega)] | rw [if_neg (by omega)])) <;> try rfl
  clear h32
  by_cases h34 : a < 8237
  · (repeat (first | rw [if_pos (by omega)] | rw [if_neg (by omega)])) <;> try rfl
  clear h33
  by_cases h35 : a < 8238
  · (repeat (first | rw [if_pos (by omega)] | rw [if_neg (by omega)])) <;> try rfl
  clear h34
  by_cases h36 : a < 8239
  · (repeat (first | rw [if_pos (by omega)] | rw [if_neg (by omega)])) <;> try rfl
  clear h35
  by_cases h37 : a < 8294
  · (repeat (first | rw [if_pos (by omega)] | rw [if_neg (by omega)])) <;> try rfl
  clear h36
  by_cases h38 : a < 8295
  · (repeat (first | rw [if_pos (by omega)] | rw [if_neg (by omega)])) <;> try rfl
  clear h37
  by_cases h39 : a < 8296
  · (repeat (first | rw [if_pos (by omega)] | rw [if_neg (by omega)])) <;> try rfl
  clear h38
  by_cases h40 : a < 8297
  · (repeat (first | rw [if_pos (by omega)] | rw [if_neg (by omega)])) <;> try rfl
  clear h39
  by_cases h41 : a < 8298
  · (repeat (first | rw [if_pos (by omega)] | rw [if_neg (by omega)])) <;> try rfl
  clear h40
  by_cases h42 : a < 19968
  · (repeat (first | rw [if_pos (by omega)] | rw [if_neg (by omega)])) <;> try rfl
  clear h41
  by_cases h43 : a < 40960
  · (repeat (first | rw [if_pos (by omega)] | rw [if_neg (by omega)])) <;> try rfl
  clear h42
  (repeat (first | rw [if_pos (by omega)] | rw [if_neg (by omega)])) <;> try rfl
set_option maxHeartbeats 8000000 in
theorem impl_bidi_p (a : Int) : impl_RuneBidi.f a = some (bidiV a) := by
  unfold impl_RuneBidi.f impl_bidiReaches.f impl_find.f
  rw [Option.bind_some, if_pos (by decide), findV_eq (by decide), ← bidi_chain]
  simp only [Option.bind_some, find_if, List.find?_nil, inR_iff]
  congr 1
  by_cases h : 9 ≤ a ∧ a ≤ 9
  · simp only [if_pos h]
  simp only [if_neg h]; clear h
  by_cases h : 32 ≤ a ∧ a ≤ 32
  · simp only [if_pos h]
  simp only [if_neg h]; clear h
  by_cases h : 35 ≤ a ∧ a ≤ 37
  · simp only [if_pos h]
  simp only [if_neg h]; clear h
  by_cases h : 43 ≤ a ∧ a ≤ 43
  · simp only [if_pos h]
  simp only [if_neg h]; clear h
  by_cases h : 44 ≤ a ∧ a ≤ 44
  · simp only [if_pos h]
  simp only [if_neg h]; clear h
  by_cases h : 45 ≤ a ∧ a ≤ 45
  · simp only [if_pos h]
  simp only [if_neg h]; clear h
  by_cases h : 46 ≤ a ∧ a ≤ 47
  · simp only [if_pos h]
  simp only [if_neg h]; clear h
  by_cases h : 48 ≤ a ∧ a ≤ 57
  · simp only [if_pos h]
  simp only [if_neg h]; clear h
  by_cases h : 58 ≤ a ∧ a ≤ 58
  · simp only [if_pos h]
  simp only [if_neg h]; clear h
  by_cases h : 65 ≤ a ∧ a ≤ 90
  · simp only [if_pos h]
  simp only [if_neg h]; clear h
  by_cases h : 97 ≤ a ∧ a ≤ 122
  · simp only [if_pos h]
  simp only [if_neg h]; clear h
  by_cases h : 173 ≤ a ∧ a ≤ 173
  · simp only [if_pos h]
  simp only [if_neg h]; clear h
  by_cases h : 768 ≤ a ∧ a ≤ 879
  · simp only [if_pos h]
  simp only [if_neg h]; clear h
  by_cases h : 1488 ≤ a ∧ a ≤ 1514
  · simp only [if_pos h]
  simp only [if_neg h]; clear h
  by_cases h : 1569 ≤ a ∧ a ≤ 1610
  · simp only [if_pos h]
  simp only [if_neg h]; clear h
  by_cases h : 1632 ≤ a ∧ a ≤ 1641
  · simp only [if_pos h]
  simp only [if_neg h]; clear h
  by_cases h : 8203 ≤ a ∧ a ≤ 8203
  · simp only [if_pos h]
  simp only [if_neg h]; clear h
  by_cases h : 8205 ≤ a ∧ a ≤ 8205
  · simp only [if_pos h]
  simp only [if_neg h]; clear h
  by_cases h : 8234 ≤ a ∧ a ≤ 8234
  · simp only [if_pos h]
  simp only [if_neg h]; clear h
  by_cases h : 8235 ≤ a ∧ a ≤ 8235
  · simp only [if_pos h]
  simp only [if_neg h]; clear h
  by_cases h : 8236 ≤ a ∧ a ≤ 8236
  · simp only [if_pos h]
  simp only [if_neg h]; clear h
  by_cases h : 8237 ≤ a ∧ a ≤ 8237
  · simp only [if_pos h]
  simp only [if_neg h]; clear h
  by_cases h : 8238 ≤ a ∧ a ≤ 8238
  · simp only [if_pos h]
  simp only [if_neg h]; clear h
  by_cases h : 8294 ≤ a ∧ a ≤ 8294
  · simp only [if_pos h]
  simp only [if_neg h]; clear h
  by_cases h : 8295 ≤ a ∧ a ≤ 8295
  · simp only [if_pos h]
  simp only [if_neg h]; clear h
  by_cases h : 8296 ≤ a ∧ a ≤ 8296
  · simp only [if_pos h]
  simp only [if_neg h]; clear h
  by_cases h : 8297 ≤ a ∧ a ≤ 8297
  · simp only [if_pos h]
  simp only [if_neg h]; clear h
  by_cases h : 19968 ≤ a ∧ a ≤ 40959
  · simp only [if_pos h]
  simp only [if_neg h]
end Go.Proofs.Ytoafenblaioopaa.Pure

namespace Go.Proofs.Ytoafenblaioopaa.S
open Go.RowKit Go.Proofs.YtoafenblaioopaaW.PrintWords Go.Proofs.YtoafenblaioopaaW.PrintLast Go.Proofs.YtoafenblaioopaaW.PrintMore
attribute [local go_sem] max2_int min2_int max_two min_two max_three min_three max_four min_four   -- for this text's walks alone
set_option linter.unusedVariables false
set_option linter.unusedSimpArgs false

/-! ### laws_markIntS: function 26 -/
def laws_markIntS.l0 : Nat → List Int → Int → Int → Option (Int × List Int)
  | 0, _, _, _ => none
  | k + 1, x0, x1, x5 => if x5 < (x0.length : Int) then (if 0 ≤ x5 then (laws_markIntS.l0 k (x0.set (x5 : Int).toNat x1) (wrap64 (x1 + 1)) (wrap64 (x5 + 1))) else (none)) else (some (x1, x0))
def laws_markIntS.f (k : Nat) (l0 : List Int) (a1 : Int) : Option (Int × List Int) := laws_markIntS.l0 k l0 a1 0
theorem laws_markIntS.mono_l : ∀ k, (∀ y0 y1 y2, LeO (laws_markIntS.l0 k y0 y1 y2) (laws_markIntS.l0 (k + 1) y0 y1 y2))
  | 0 => fun _ _ _ r h => by simp [laws_markIntS.l0] at h
  | k + 1 => by
    have ih0 := laws_markIntS.mono_l k
    · intro y0 y1 y2
      unfold laws_markIntS.l0
      repeat' first
      | (with_reducible exact ih0 _ _ _)
      | (with_reducible exact LeO.refl _)
      | (with_reducible exact LeO.none _)
      | (with_reducible refine LeO.ite ?_ ?_)
      | (with_reducible refine LeO.bind ?_ (fun _ => ?_))
      | exact ih0 _ _ _
      | exact LeO.none _
      | refine LeO.ite ?_ ?_
      | refine LeO.bind ?_ (fun _ => ?_)
theorem laws_markIntS.mono : ∀ a0 a1 k, LeO (laws_markIntS.f k a0 a1) (laws_markIntS.f (k + 1) a0 a1) := by
  intro a0 a1 k
  have ih0 := laws_markIntS.mono_l k
  unfold laws_markIntS.f
  repeat' first
      | (with_reducible exact ih0 _ _ _)
      | (with_reducible exact LeO.refl _)
      | (with_reducible exact LeO.none _)
      | (with_reducible refine LeO.ite ?_ ?_)
      | (with_reducible refine LeO.bind ?_ (fun _ => ?_))
      | exact ih0 _ _ _
      | exact LeO.none _
      | refine LeO.ite ?_ ?_
      | refine LeO.bind ?_ (fun _ => ?_)
set_option maxHeartbeats 8000000 in
set_option maxRecDepth 100000 in
theorem laws_markIntS.calls (k : Nat) (P0_ : Nat → Prop) (u9000_ : Value) (l0 : List Int) (a1 : Int) (r1 : Int) (r2 : List Int) (w0 w : World) (hB : Below w0.heap.size w0 w) (ho0 : Kd.R (Kd.int .i64) 3 w w0.heap.size P0_ u9000_ l0) (h : laws_markIntS.f k l0 a1 = some (r1, r2)) :
    Calls Try.prog 26 #[u9000_, .int .i64 a1] w fun e w' => e = .returned (.int .i64 r1) ∧ Kd.R (Kd.int .i64) 3 w' w0.heap.size (fun k_ => (P0_ k_ ∨ w.heap.size ≤ k_)) u9000_ r2 ∧ Below w0.heap.size w0 w' ∧ Kept w w' (fun k_ => P0_ k_) := by
  have HO0 := Aside0.mk (show Kd.R (Kd.int .i64) 3 w w0.heap.size (fun k_ => (P0_ k_ ∨ w.heap.size ≤ k_)) u9000_ l0 from Kd.R_mono ho0 (fun k_ hk => (.inl hk)))
  have HK := Aside0.mk (Kept.refl w (fun k_ => P0_ k_))
  have HW0 := Aside0.mk hB.size
  have HB := Aside0.mk hB
  clear hB
  have H : (laws_markIntS.l0 k l0 a1 0) = some (r1, r2) := h
  clear h
  have H' := Aside0.mk H
  clear H
  go_enter Try.func26, Try.ntmps26
  go_wp2
  go_loopg [1, 5] k (fun kq v1 v5 w' => ∃ (x0_1 : List Int) (x1_1 : Int) (x5_1 : Int), v1 = .int .i64 x1_1 ∧ v5 = .int .i64 x5_1 ∧ Aside0 (laws_markIntS.l0 kq x0_1 x1_1 x5_1 = some (r1, r2)) ∧ Aside0 (kq ≤ k) ∧ Aside0 (Kd.R (Kd.int .i64) 3 w' w0.heap.size (fun k_ => (P0_ k_ ∨ w.heap.size ≤ k_)) u9000_ x0_1) ∧ Aside0 (Kept w w' (fun k_ => P0_ k_)) ∧ Aside0 (Below w0.heap.size w0 w'))
  case atStart => exact ⟨(l0), (a1), (0), (by first | rfl | (simp; done) | (simp [*]; done)), (by first | rfl | (simp; done) | (simp [*]; done)), H', ⟨Nat.le_refl _⟩, ⟨by (with_reducible repeat (first | apply Kd.R_alloc | apply Kd.R_drewN | apply Kd.R_drew)); exact HO0.out⟩, ⟨by repeat (first | (with_reducible first | exact HK.out | apply Kept.alloc | apply Kept.drewN | apply Kept.drew) | exact HK.out)⟩, ⟨by repeat (first | (with_reducible first | exact HB.out | apply below_alloc | apply pw_below_drewN | apply below_drew1) | exact HB.out)⟩⟩
  case round =>
    clear H'
    try clear c2
    try clear p2
    obtain ⟨x0_1, x1_1, x5_1, rfl, rfl, HA, HK1, HO_0, HK, HB⟩ := hrel
    cases gk with
    | zero => exact absurd HA.out (by simp [laws_markIntS.l0])
    | succ k1 =>
      have H := HA.out
      clear HA
      simp only [laws_markIntS.l0] at H
      by_cases c3 : x5_1 < (x0_1.length : Int)
      · rw [if_pos c3] at H
        have c3b0 : decide (x5_1 < (x0_1.length : Int)) = true := decide_eq_true c3
        clear c3
        by_cases c4 : 0 ≤ x5_1
        · rw [if_pos c4] at H
          have c4b0 : decide (0 ≤ x5_1) = true := decide_eq_true c4
          clear c4
          obtain ⟨y255, hy255⟩ : ∃ y_ : List Int, y_ = (x0_1.set (x5_1 : Int).toNat x1_1) := ⟨_, rfl⟩
          replace H : (laws_markIntS.l0 k1 y255 (wrap64 (x1_1 + 1)) (wrap64 (x5_1 + 1))) = some (r1, r2) := by first | (rw [hy255]; with_reducible exact H) | (have H2_ := (Option.bind_some _ _).symm.trans H; rw [hy255]; with_reducible exact H2_) | (have H2_ := (Option.bind_some _ _).symm.trans H; with_reducible exact H2_) | with_reducible exact H | (rw [hy255]; exact H) | exact H
          have Ny255 := Aside0.mk hy255
          clear hy255
          have H' := Aside0.mk H
          clear H
          obtain ⟨Ao6, co6, eo6⟩ := Kd.R_slice HO_0.out
          subst eo6
          have p5 : 0 ≤ (x5_1 : Int) := of_decide_eq_true (by first | (with_reducible assumption) | assumption)
          have q5 : (x5_1 : Int) < ((x0_1.length : Int) : Int) := of_decide_eq_true (by first | (with_reducible assumption) | assumption)
          obtain ⟨go5, co5, eo5, gb5, gl5, cl5, HG5⟩ := Kd.R_form HO_0.out (by omega)
          (first | cases eo5 | (injection eo5 with ea_ en_ ec_; (first | subst ea_ | (injection ea_ with ea_; subst ea_)); subst ec_; clear en_))
          have GB5 := Aside0.mk gb5
          have GG5 := Aside0.mk HG5
          clear gb5 gl5 HG5
          have HMgo5 := Aside0.mk (show (P0_ go5 ∨ w.heap.size ≤ go5) from (HO_0.out.1 _ rfl))
          obtain ⟨hx5_0, hf5_0⟩ := Kd.R_celln 0 HO_0.out (x5_1 : Int) p5 q5
          replace p5 := eq_true p5
          replace q5 := eq_true q5
          have HP7 := Kd.R_putg HO_0.out (x5_1 : Int) x1_1
          go_wp2_with (first | ((with_reducible refine gate_store (t := 3) (p := 15) rfl ?_); refine store_event (t := 3) (p := 15) (v := ?vo_w8) (w1 := (wr.setCell ⟨go5, (x5_1 : Int).toNat, none⟩ (.int .i64 x1_1))) ?hg ?ho ?hn ?hr ?_; (case ho => rfl); (case hg => rfl); (case hn => rfl); (case hr => first | (go_simp; done) | (go_simp; rfl)); intro w8 hw; have hg : wr.grownBy w8 (some go5) := (by rw [hw]; exact HP7.2); have hp_ : Kd.R (Kd.int .i64) 3 w8 w0.heap.size (fun k_ => (P0_ k_ ∨ w.heap.size ≤ k_)) (.slice (some ⟨go5, 0, none⟩) x0_1.length co6) y255 := (by rw [hw, Ny255.out]; exact HP7.1); clear HP7; have n0_ := Aside0.mk (hp_); have n1_ := Aside0.mk ((by rw [hw]; exact below_set (HB.out) GB5.out : Below w0.heap.size w0 w8)); have n2_ := Aside0.mk (Kept.of_grown (S := (fun k_ => P0_ k_)) hg (by repeat (first | (with_reducible first | exact HK.out | apply Kept.alloc | apply Kept.drewN | apply Kept.drew) | exact HK.out)) (fun k_ e_ => (HO_0.out.1 k_ e_))); clear HO_0; clear HB; clear HK; have HO_0 := n0_; have HB := n1_; have HK := n2_; clear n0_ n1_ n2_; clear hg hw hp_))
          go_roundg k1
          case measure => have := HK1.out; omega
          case rel => exact ⟨(y255), (wrap64 (x1_1 + 1)), (wrap64 (x5_1 + 1)), (by first | rfl | (simp; done) | (simp [*]; done)), (by first | rfl | (simp; done) | (simp [*]; done)), H', ⟨by have := HK1.out; omega⟩, ⟨by (with_reducible repeat (first | apply Kd.R_alloc | apply Kd.R_drewN | apply Kd.R_drew)); exact HO_0.out⟩, ⟨by repeat (first | (with_reducible first | exact HK.out | apply Kept.alloc | apply Kept.drewN | apply Kept.drew) | exact HK.out)⟩, ⟨by repeat (first | (with_reducible first | exact HB.out | apply below_alloc | apply pw_below_drewN | apply below_drew1) | exact HB.out)⟩⟩
        · rw [if_neg c4] at H
          exact absurd H (by simp)
      · rw [if_neg c3] at H
        have c3b0 : decide (x5_1 < (x0_1.length : Int)) = false := decide_eq_false c3
        clear c3
        simp only [Option.some.injEq, Prod.mk.injEq] at H
        obtain ⟨rfl, rfl⟩ := H
        obtain ⟨Ao9, co9, eo9⟩ := Kd.R_slice HO_0.out
        subst eo9
        go_wp2
        go_ret
        exact ⟨by first | rfl | (simp [errW_none, errW_some] <;> rfl) | (simp [*, errW_none, errW_some] <;> rfl), by (with_reducible repeat (first | apply Kd.R_alloc | apply Kd.R_drewN | apply Kd.R_drew)); exact HO_0.out, by repeat (first | (with_reducible first | exact HB.out | apply below_alloc | apply pw_below_drewN | apply below_drew1) | exact HB.out), by repeat (first | (with_reducible first | exact HK.out | apply Kept.alloc | apply Kept.drewN | apply Kept.drew) | exact HK.out)⟩

end Go.Proofs.Ytoafenblaioopaa.S

namespace Go.Proofs.Ytoafenblaioopaa.S
open Go.RowKit Go.Proofs.YtoafenblaioopaaW.PrintWords Go.Proofs.YtoafenblaioopaaW.PrintLast Go.Proofs.YtoafenblaioopaaW.PrintMore
attribute [local go_sem] max2_int min2_int max_two min_two max_three min_three max_four min_four   -- for this text's walks alone
set_option linter.unusedVariables false
set_option linter.unusedSimpArgs false

/-! ### laws_heldIntS: function 27 -/
def laws_heldIntS.l0 : Nat → List Int → Int → Int → Option (Int)
  | 0, _, _, _ => none
  | k + 1, x0, x1, x5 => if x5 < (x0.length : Int) then (if 0 ≤ x5 then (if (rd x0 x5) = x1 then (laws_heldIntS.l0 k x0 (wrap64 (x1 + 1)) (wrap64 (x5 + 1))) else (some (-1))) else (none)) else (some x1)
def laws_heldIntS.f (k : Nat) (l0 : List Int) (a1 : Int) : Option (Int) := laws_heldIntS.l0 k l0 a1 0
theorem laws_heldIntS.mono_l : ∀ k, (∀ y0 y1 y2, LeO (laws_heldIntS.l0 k y0 y1 y2) (laws_heldIntS.l0 (k + 1) y0 y1 y2))
  | 0 => fun _ _ _ r h => by simp [laws_heldIntS.l0] at h
  | k + 1 => by
    have ih0 := laws_heldIntS.mono_l k
    · intro y0 y1 y2
      unfold laws_heldIntS.l0
      repeat' first
      | (with_reducible exact ih0 _ _ _)
      | (with_reducible exact LeO.refl _)
      | (with_reducible exact LeO.none _)
      | (with_reducible refine LeO.ite ?_ ?_)
      | (with_reducible refine LeO.bind ?_ (fun _ => ?_))
      | exact ih0 _ _ _
      | exact LeO.none _
      | refine LeO.ite ?_ ?_
      | refine LeO.bind ?_ (fun _ => ?_)
theorem laws_heldIntS.mono : ∀ a0 a1 k, LeO (laws_heldIntS.f k a0 a1) (laws_heldIntS.f (k + 1) a0 a1) := by
  intro a0 a1 k
  have ih0 := laws_heldIntS.mono_l k
  unfold laws_heldIntS.f
  repeat' first
      | (with_reducible exact ih0 _ _ _)
      | (with_reducible exact LeO.refl _)
      | (with_reducible exact LeO.none _)
      | (with_reducible refine LeO.ite ?_ ?_)
      | (with_reducible refine LeO.bind ?_ (fun _ => ?_))
      | exact ih0 _ _ _
      | exact LeO.none _
      | refine LeO.ite ?_ ?_
      | refine LeO.bind ?_ (fun _ => ?_)
set_option maxHeartbeats 8000000 in
set_option maxRecDepth 100000 in
theorem laws_heldIntS.calls (k : Nat) (A0 : Option Addr) (c0 : Nat) (l0 : List Int) (a1 : Int) (r : Int) (w : World) (hr0 : Kd.C (Kd.int .i64) w A0 l0.length l0) (hc0 : l0.length ≤ c0) (h : laws_heldIntS.f k l0 a1 = some r) :
    Calls Try.prog 27 #[.slice A0 l0.length c0, .int .i64 a1] w fun e w' => e = .returned (.int .i64 r) ∧ Drawn0 w w' := by
  have HR0 := Aside0.mk hr0
  have HC0 := Aside0.mk hc0
  clear hr0 hc0
  have H : (laws_heldIntS.l0 k l0 a1 0) = some r := h
  clear h
  have H' := Aside0.mk H
  clear H
  go_enter Try.func27, Try.ntmps27
  go_wp2
  go_loopg [1, 5] k (fun kq v1 v5 w' => ∃ (x1_1 : Int) (x5_1 : Int), v1 = .int .i64 x1_1 ∧ v5 = .int .i64 x5_1 ∧ Aside0 (laws_heldIntS.l0 kq l0 x1_1 x5_1 = some r) ∧ Aside0 (kq ≤ k) ∧ Drawn0 w w')
  case atStart => exact ⟨(a1), (0), (by first | rfl | (simp; done) | (simp [*]; done)), (by first | rfl | (simp; done) | (simp [*]; done)), H', ⟨Nat.le_refl _⟩, by repeat (first | exact Drawn0.refl _ | apply Drawn0.step)⟩
  case round =>
    clear H'
    try clear c2
    try clear p2
    obtain ⟨x1_1, x5_1, rfl, rfl, HA, HK1, ⟨m1, rfl⟩⟩ := hrel
    cases gk with
    | zero => exact absurd HA.out (by simp [laws_heldIntS.l0])
    | succ k1 =>
      have H := HA.out
      clear HA
      simp only [laws_heldIntS.l0] at H
      by_cases c3 : x5_1 < (l0.length : Int)
      · rw [if_pos c3] at H
        have c3b0 : decide (x5_1 < (l0.length : Int)) = true := decide_eq_true c3
        clear c3
        by_cases c4 : 0 ≤ x5_1
        · rw [if_pos c4] at H
          have c4b0 : decide (0 ≤ x5_1) = true := decide_eq_true c4
          clear c4
          by_cases c5 : (rd l0 x5_1) = x1_1
          · rw [if_pos c5] at H
            have c5b0 : ((rd l0 x5_1) == x1_1) = true := beq_iff_eq.mpr c5
            have c5b1 : ((rd l0 x5_1) != x1_1) = false := bne_eq_false_iff_eq.mpr c5
            clear c5
            have H' := Aside0.mk H
            clear H
            have p256 : 0 ≤ (x5_1 : Int) := of_decide_eq_true (by first | (with_reducible assumption) | assumption)
            have q256 : x5_1 < (l0.length : Int) := of_decide_eq_true (by first | (with_reducible assumption) | assumption)
            obtain ⟨ad256, e256, hx256_0⟩ := Kd.at_int HR0.out x5_1 p256 q256
            cases e256
            replace p256 := eq_true p256
            replace q256 := eq_true q256
            go_wp2
            go_roundg k1
            case measure => have := HK1.out; omega
            case rel => exact ⟨(wrap64 (x1_1 + 1)), (wrap64 (x5_1 + 1)), (by first | rfl | (simp; done) | (simp [*]; done)), (by first | rfl | (simp; done) | (simp [*]; done)), H', ⟨by have := HK1.out; omega⟩, by repeat (first | exact Drawn0.refl _ | apply Drawn0.step)⟩
          · rw [if_neg c5] at H
            have c5b0 : ((rd l0 x5_1) == x1_1) = false := beq_eq_false_iff_ne.mpr c5
            have c5b1 : ((rd l0 x5_1) != x1_1) = true := bne_iff_ne.mpr c5
            obtain rfl := Option.some.inj H
            have p256 : 0 ≤ (x5_1 : Int) := of_decide_eq_true (by first | (with_reducible assumption) | assumption)
            have q256 : x5_1 < (l0.length : Int) := of_decide_eq_true (by first | (with_reducible assumption) | assumption)
            obtain ⟨ad256, e256, hx256_0⟩ := Kd.at_int HR0.out x5_1 p256 q256
            cases e256
            replace p256 := eq_true p256
            replace q256 := eq_true q256
            go_wp2
            go_ret
            exact ⟨by first | rfl | (simp; done) | (simp [*]; done), by repeat (first | exact Drawn0.refl _ | apply Drawn0.step)⟩
        · rw [if_neg c4] at H
          exact absurd H (by simp)
      · rw [if_neg c3] at H
        have c3b0 : decide (x5_1 < (l0.length : Int)) = false := decide_eq_false c3
        clear c3
        obtain rfl := Option.some.inj H
        go_wp2
        go_ret
        exact ⟨by first | rfl | (simp; done) | (simp [*]; done), by repeat (first | exact Drawn0.refl _ | apply Drawn0.step)⟩

end Go.Proofs.Ytoafenblaioopaa.S

/- What the laws' own helpers answer: a copy, equality, a row written with 1, 2, 3 .., and whether it still holds that. -/
namespace Go.Proofs.Ytoafenblaioopaa.Pure
open Go.RowKit Go.Proofs.Ytoafenblaioopaa.S Go.Proofs.YtoafenblaioopaaW.PrintWords Go.Proofs.YtoafenblaioopaaW.PrintLast
theorem w64 {x : Int} (h0 : -9223372036854775808 ≤ x) (h1 : x ≤ 9223372036854775807) : wrap64 x = x := by
  unfold wrap64; omega
theorem rd_nat (l : List Int) (i : Nat) : rd l (i : Int) = l.getD i 0 := by simp [rd]
theorem rd_get {l : List Int} {i : Nat} (h : i < l.length) : rd l (i : Int) = l[i] := by simp [rd, List.getD_eq_getElem?_getD, h]
theorem copy_l (l : List Int) (hn : l.length ≤ 1099511627776) : ∀ (d k i : Nat), l.length - i = d → i ≤ l.length → d < k →
    laws_toIntS.l0 k l (l.take i ++ List.replicate (l.length - i) 0) (i : Int) = some l
  | 0, k, i, hd, hi, hk => by
    obtain ⟨k, rfl⟩ : ∃ m, k = m + 1 := ⟨k - 1, by omega⟩
    have e : i = l.length := by omega
    subst e
    rw [laws_toIntS.l0, if_neg (by omega)]
    simp
  | d + 1, k, i, hd, hi, hk => by
    obtain ⟨k, rfl⟩ : ∃ m, k = m + 1 := ⟨k - 1, by omega⟩
    have hlt : i < l.length := by omega
    rw [laws_toIntS.l0, if_pos (by omega), if_pos (by omega), if_pos (by simp; omega), w64 (by omega) (by omega)]
    have e : (l.take i ++ List.replicate (l.length - i) 0).set (i : Int).toNat (rd l i) = l.take (i + 1) ++ List.replicate (l.length - (i + 1)) 0 := by
      rw [Int.toNat_natCast, rd_get hlt, List.set_append_right _ _ (by simp; omega)]
      have h1 : i - (l.take i).length = 0 := by simp; omega
      rw [h1, show l.length - i = (l.length - (i + 1)) + 1 by omega, List.replicate_succ, List.set_cons_zero, List.take_succ_eq_append_getElem hlt, List.append_assoc]
      rfl
    rw [e]
    exact copy_l l hn d k (i + 1) (by omega) (by omega) (by omega)
theorem copy_p {l : List Int} {k : Nat} (hn : l.length ≤ 1099511627776) (hk : l.length < k) : laws_toIntS.f k l = some l := by
  unfold laws_toIntS.f
  rw [if_pos (by omega), if_pos (by omega)]
  simpa using copy_l l hn l.length k 0 (by omega) (by omega) hk
theorem eq_l (a b : List Int) (hab : a.length = b.length) (hn : a.length ≤ 1099511627776) : ∀ (d k i : Nat), a.length - i = d → i ≤ a.length → d < k →
    laws_eqIntS.l0 k a b (i : Int) = some (decide (a.drop i = b.drop i))
  | 0, k, i, hd, hi, hk => by
    obtain ⟨k, rfl⟩ : ∃ m, k = m + 1 := ⟨k - 1, by omega⟩
    have e : i = a.length := by omega
    subst e
    rw [laws_eqIntS.l0, if_neg (by omega), List.drop_length, hab, List.drop_length]
    simp
  | d + 1, k, i, hd, hi, hk => by
    obtain ⟨k, rfl⟩ : ∃ m, k = m + 1 := ⟨k - 1, by omega⟩
    have hlt : i < a.length := by omega
    have hlb : i < b.length := by omega
    rw [laws_eqIntS.l0, if_pos (by omega), if_pos (by omega), if_pos (by omega), w64 (by omega) (by omega), rd_get hlt, rd_get hlb, List.drop_eq_getElem_cons hlt, List.drop_eq_getElem_cons hlb]
    have := eq_l a b hab hn d k (i + 1) (by omega) (by omega) (by omega)
    rw [show ((i : Int) + 1) = ((i + 1 : Nat) : Int) by omega, this]
    by_cases h : a[i] = b[i]
    · rw [if_pos h, h]
      simp only [List.cons.injEq, true_and]
    · rw [if_neg h]
      simp only [List.cons.injEq, h, false_and, decide_false]
theorem eq_p {a b : List Int} {k : Nat} (hn : a.length ≤ 1099511627776) (hk : a.length < k) : laws_eqIntS.f k a b = some (decide (a = b)) := by
  unfold laws_eqIntS.f
  by_cases hab : a.length = b.length
  · rw [if_pos (by omega)]
    simpa using eq_l a b hab hn a.length k 0 (by omega) (by omega) hk
  · rw [if_neg (by omega)]
    simp only [Option.some.injEq]
    exact (decide_eq_false (fun h => hab (by rw [h]))).symm
/-- a, a + 1, .. : n of them. -/
def iota (a : Int) : Nat → List Int
  | 0 => []
  | n + 1 => a :: iota (a + 1) n
theorem iota_length : ∀ (n : Nat) (a : Int), (iota a n).length = n
  | 0, _ => rfl
  | n + 1, a => by simp [iota, iota_length n]
theorem mark_l : ∀ (d k i : Nat) (l : List Int) (a : Int), l.length ≤ 1099511627776 → -1099511627776 ≤ a → a ≤ 1099511627776 * 4 → a + d ≤ 1099511627776 * 4 → l.length - i = d → i ≤ l.length → d < k →
    laws_markIntS.l0 k l a (i : Int) = some (a + d, l.take i ++ iota a d)
  | 0, k, i, l, a, hn, h0, h1, h2, hd, hi, hk => by
    obtain ⟨k, rfl⟩ : ∃ m, k = m + 1 := ⟨k - 1, by omega⟩
    have e : i = l.length := by omega
    subst e
    rw [laws_markIntS.l0, if_neg (by omega)]
    simp [iota]
  | d + 1, k, i, l, a, hn, h0, h1, h2, hd, hi, hk => by
    obtain ⟨k, rfl⟩ : ∃ m, k = m + 1 := ⟨k - 1, by omega⟩
    have hlt : i < l.length := by omega
    rw [laws_markIntS.l0, if_pos (by omega), if_pos (by omega), w64 (x := (i : Int) + 1) (by omega) (by omega), w64 (by omega) (by omega), Int.toNat_natCast]
    have := mark_l d k (i + 1) (l.set i a) (a + 1) (by simpa using hn) (by omega) (by omega) (by omega) (by simp; omega) (by simp; omega) (by omega)
    rw [show ((i : Int) + 1) = ((i + 1 : Nat) : Int) by omega, this]
    simp only [Option.some.injEq, Prod.mk.injEq, iota]
    refine ⟨by omega, ?_⟩
    rw [List.take_succ_eq_append_getElem (by simpa using hlt)]
    simp [List.take_set_of_le]
theorem mark_p {l : List Int} {a : Int} {k : Nat} (hn : l.length ≤ 1099511627776) (h0 : -1099511627776 ≤ a) (h1 : a ≤ 1099511627776) (hk : l.length < k) : laws_markIntS.f k l a = some (a + l.length, iota a l.length) := by
  unfold laws_markIntS.f
  simpa using mark_l l.length k 0 l a hn h0 (by omega) (by omega) (by omega) (by omega) hk
theorem held_l : ∀ (d k i : Nat) (l : List Int) (a : Int), l.length ≤ 1099511627776 → -1099511627776 ≤ a → a + d ≤ 1099511627776 * 4 → l.length - i = d → i ≤ l.length → d < k → l.drop i = iota a d →
    laws_heldIntS.l0 k l a (i : Int) = some (a + d)
  | 0, k, i, l, a, hn, h0, h2, hd, hi, hk, he => by
    obtain ⟨k, rfl⟩ : ∃ m, k = m + 1 := ⟨k - 1, by omega⟩
    rw [laws_heldIntS.l0, if_neg (by omega)]
    simp
  | d + 1, k, i, l, a, hn, h0, h2, hd, hi, hk, he => by
    obtain ⟨k, rfl⟩ : ∃ m, k = m + 1 := ⟨k - 1, by omega⟩
    have hlt : i < l.length := by omega
    rw [List.drop_eq_getElem_cons hlt, iota] at he
    obtain ⟨e1, e2⟩ := List.cons.inj he
    rw [laws_heldIntS.l0, if_pos (by omega), if_pos (by omega), rd_get hlt, if_pos e1, w64 (x := (i : Int) + 1) (by omega) (by omega), w64 (by omega) (by omega)]
    have := held_l d k (i + 1) l (a + 1) hn (by omega) (by omega) (by omega) (by omega) (by omega) e2
    rw [show ((i : Int) + 1) = ((i + 1 : Nat) : Int) by omega, this]
    congr 1; omega
theorem held_p {n : Nat} {a : Int} {k : Nat} (hn : n ≤ 1099511627776) (h0 : -1099511627776 ≤ a) (h1 : a ≤ 1099511627776) (hk : n < k) : laws_heldIntS.f k (iota a n) a = some (a + n) := by
  unfold laws_heldIntS.f
  have hl := iota_length n a
  simpa using held_l n k 0 (iota a n) a (by omega) h0 (by omega) (by omega) (by omega) hk rfl
end Go.Proofs.Ytoafenblaioopaa.Pure

/- Letters that are ok, by both texts. -/
namespace Go.Proofs.Ytoafenblaioopaa.Pure
open Go.RowKit Go.Proofs.Ytoafenblaioopaa.S Go.Proofs.YtoafenblaioopaaW.PrintWords Go.Proofs.YtoafenblaioopaaW.PrintLast
theorem l1In_p (a b c : Int) : spec_l1In.f a b c = some (decide (b ≤ a) && decide (a ≤ c)) := by
  unfold spec_l1In.f
  by_cases h : b ≤ a <;> simp [h]
def sizeV (a : Int) : Int := if 0 ≤ a ∧ a ≤ 127 then 1 else if 128 ≤ a ∧ a ≤ 2047 then 2 else if 55296 ≤ a ∧ a ≤ 57343 then 0 else if 2048 ≤ a ∧ a ≤ 65535 then 3 else if 65536 ≤ a ∧ a ≤ 1114111 then 4 else 0
theorem size_f (a : Int) : spec_l1Size.f a = some (sizeV a) := by
  simp only [spec_l1Size.f, l1In_p, Option.bind_some, sizeV]
  grind
theorem size_let (a : Int) : sizeV a = 0 ↔ isLetV a = false := by
  simp only [isLetV, sizeV]
  grind
theorem size_p (a : Int) : ∃ s, spec_l1Size.f a = some s ∧ (s = 0 ↔ isLetV a = false) := ⟨_, size_f a, size_let a⟩
theorem ok_l (l : List Int) (hn : l.length ≤ 1099511627776) : ∀ (d k i : Nat), l.length - i = d → i ≤ l.length → d < k →
    spec_l1Ok.l0 k l (i : Int) = some ((l.drop i).all isLetV && decide (l.length ≤ 80))
  | 0, k, i, hd, hi, hk => by
    obtain ⟨k, rfl⟩ : ∃ m, k = m + 1 := ⟨k - 1, by omega⟩
    have e : i = l.length := by omega
    subst e
    rw [spec_l1Ok.l0, if_neg (by omega), List.drop_length]
    simp only [List.all_nil, Bool.true_and, Option.some.injEq, decide_eq_decide]
    omega
  | d + 1, k, i, hd, hi, hk => by
    obtain ⟨k, rfl⟩ : ∃ m, k = m + 1 := ⟨k - 1, by omega⟩
    have hlt : i < l.length := by omega
    obtain ⟨s, hs, hz⟩ := size_p l[i]
    rw [spec_l1Ok.l0, if_pos (by omega), if_pos (by omega), w64 (by omega) (by omega), rd_get hlt, hs, Option.bind_some, List.drop_eq_getElem_cons hlt, List.all_cons]
    have := ok_l l hn d k (i + 1) (by omega) (by omega) (by omega)
    rw [show ((i : Int) + 1) = ((i + 1 : Nat) : Int) by omega, this]
    by_cases h : s = 0
    · rw [if_pos h, hz.1 h]; simp
    · have : isLetV l[i] = true := by
        cases e : isLetV l[i]
        · exact absurd (hz.2 e) h
        · rfl
      rw [if_neg h, this, Bool.true_and]
theorem ok_p {l : List Int} {k : Nat} (hn : l.length ≤ 1099511627776) (hk : l.length < k) : spec_l1Ok.f k l = some (okV l) := by
  unfold spec_l1Ok.f
  have := ok_l l hn l.length k 0 (by omega) (by omega) hk
  rw [show ((0 : Nat) : Int) = 0 from rfl] at this
  rw [this, List.drop_zero, okV, Bool.and_comm]
theorem ok_len {l : List Int} (h : okV l = true) : l.length ≤ 80 := by
  simp [okV] at h; exact h.1
theorem ok_let {l : List Int} (h : okV l = true) {x : Int} (hx : x ∈ l) : isLetV x = true := by
  simp [okV] at h; exact h.2 x hx
theorem let_wf {x : Int} (h : isLetV x = true) : (Lit.int .i64 x).wf = true := by
  simp [isLetV] at h
  exact WalkArith.wf_i64 (by omega)
end Go.Proofs.Ytoafenblaioopaa.Pure

namespace Go.Proofs.Ytoafenblaioopaa.S
open Go.RowKit Go.Proofs.YtoafenblaioopaaW.PrintWords Go.Proofs.YtoafenblaioopaaW.PrintLast Go.Proofs.YtoafenblaioopaaW.PrintMore
attribute [local go_sem] max2_int min2_int max_two min_two max_three min_three max_four min_four   -- for this text's walks alone
set_option linter.unusedVariables false
set_option linter.unusedSimpArgs false

/-! ### spec_WordStarts: function 32 -/
def spec_WordStarts.l0 : Nat → List Int → List Int → Int → Option (List Int)
  | 0, _, _, _ => none
  | k + 1, x0, x3, x4 => if x4 < (x0.length : Int) then ((spec_l10Begins.f k x0 x4).bind fun t408 => (if t408 = true then (if x3.length < 17592186044416 then (spec_WordStarts.l0 k x0 (x3 ++ [x4]) (wrap64 (x4 + 1))) else (none)) else (spec_WordStarts.l0 k x0 x3 (wrap64 (x4 + 1))))) else (some x3)
def spec_WordStarts.f (k : Nat) (l0 : List Int) : Option (List Int) := (some (([] : List Int) : List Int)).bind fun y404 => ((spec_l1Ok.f k l0).bind fun t407 => (if t407 = true then (spec_WordStarts.l0 k l0 y404 0) else (some y404)))
theorem spec_WordStarts.mono_l : ∀ k, (∀ y0 y1 y2, LeO (spec_WordStarts.l0 k y0 y1 y2) (spec_WordStarts.l0 (k + 1) y0 y1 y2))
  | 0 => fun _ _ _ r h => by simp [spec_WordStarts.l0] at h
  | k + 1 => by
    have ih0 := spec_WordStarts.mono_l k
    · intro y0 y1 y2
      unfold spec_WordStarts.l0
      repeat' first
      | (with_reducible exact ih0 _ _ _)
      | (with_reducible exact spec_l10Begins.mono _ _ _)
      | (with_reducible exact spec_l1Ok.mono _ _)
      | (with_reducible exact LeO.refl _)
      | (with_reducible exact LeO.none _)
      | (with_reducible refine LeO.ite ?_ ?_)
      | (with_reducible refine LeO.bind ?_ (fun _ => ?_))
      | exact ih0 _ _ _
      | exact spec_l10Begins.mono _ _ _
      | exact spec_l1Ok.mono _ _
      | exact LeO.none _
      | refine LeO.ite ?_ ?_
      | refine LeO.bind ?_ (fun _ => ?_)
theorem spec_WordStarts.mono : ∀ a0 k, LeO (spec_WordStarts.f k a0) (spec_WordStarts.f (k + 1) a0) := by
  intro a0 k
  have ih0 := spec_WordStarts.mono_l k
  unfold spec_WordStarts.f
  repeat' first
      | (with_reducible exact ih0 _ _ _)
      | (with_reducible exact spec_l10Begins.mono _ _ _)
      | (with_reducible exact spec_l1Ok.mono _ _)
      | (with_reducible exact LeO.refl _)
      | (with_reducible exact LeO.none _)
      | (with_reducible refine LeO.ite ?_ ?_)
      | (with_reducible refine LeO.bind ?_ (fun _ => ?_))
      | exact ih0 _ _ _
      | exact spec_l10Begins.mono _ _ _
      | exact spec_l1Ok.mono _ _
      | exact LeO.none _
      | refine LeO.ite ?_ ?_
      | refine LeO.bind ?_ (fun _ => ?_)
set_option maxHeartbeats 8000000 in
set_option maxRecDepth 100000 in
theorem spec_WordStarts.calls (k : Nat) (A0 : Option Addr) (c0 : Nat) (l0 : List Int) (r : List Int) (w : World) (hr0 : Kd.C (Kd.int .i64) w A0 l0.length l0) (hc0 : l0.length ≤ c0) (h : spec_WordStarts.f k l0 = some r) :
    Calls Try.prog 32 #[.slice A0 l0.length c0] w fun e w' => ∃ v0_ : Value, e = .returned (v0_) ∧ Kd.R (Kd.int .i64) 3 w' w.heap.size (fun _ => True) v0_ r ∧ Below w.heap.size w w' := by
  have HR0 := Aside0.mk hr0
  have HC0 := Aside0.mk hc0
  clear hr0 hc0
  have HB := Aside0.mk (Below.refl w.heap.size w)
  have H : ((some (([] : List Int) : List Int)).bind fun y404 => ((spec_l1Ok.f k l0).bind fun t407 => (if t407 = true then (spec_WordStarts.l0 k l0 y404 0) else (some y404)))) = some r := h
  clear h
  obtain ⟨y404, hy404⟩ : ∃ y_ : List Int, y_ = (([] : List Int)) := ⟨_, rfl⟩
  replace H : ((spec_l1Ok.f k l0).bind fun t407 => (if t407 = true then (spec_WordStarts.l0 k l0 y404 0) else (some y404))) = some r := by first | (rw [hy404]; with_reducible exact H) | (have H2_ := (Option.bind_some _ _).symm.trans H; rw [hy404]; with_reducible exact H2_) | (have H2_ := (Option.bind_some _ _).symm.trans H; with_reducible exact H2_) | with_reducible exact H | (rw [hy404]; exact H) | exact H
  have Ny404 := Aside0.mk hy404
  clear hy404
  replace H := Option.bind_eq_some_iff.mp H
  obtain ⟨t407, A20, H⟩ := H
  replace H : (if t407 = true then (spec_WordStarts.l0 k l0 y404 0) else (some y404)) = some r := H
  have A2 := Aside0.mk A20
  clear A20
  by_cases c3 : t407 = true
  · subst c3
    have H1 : (spec_WordStarts.l0 k l0 y404 0) = some r := by rw [if_pos rfl] at H; exact H
    clear H
    have H := H1
    clear H1
    have H' := Aside0.mk H
    clear H
    go_enter Try.func32, Try.ntmps32
    go_wp2_with (first | ((with_reducible refine gate_dst (N := 5) rfl ?_); refine Kd.R_lit (Kd.int .i64) _ 3 ?hg (N := 5) ?hd (xs := ([] : List Int)) (inner := []) (ok := fun _ => True) (okp := fun _ => True) ?hr ?hp (fun _ hk => hk) trivial (Below.refl _ _) (Nat.le_refl _) (by simp) ?_; (case hd => rfl); (case hg => rfl); (case hr => first | (go_simp; done) | (go_simp; rfl)); (case hp => exact (Reps.none _ _)); intro v405 w4 ho5 hb hg_ hnew_; clear hg_ hnew_; (first | rw [← Ny404.out] at ho5 | (simp only [Int.reduceToNat] at ho5; rw [← Ny404.out] at ho5)); have n0_ := Aside0.mk (Kd.R_lower ho5 (below_size (by repeat (first | (with_reducible first | exact HB.out | apply below_alloc | apply pw_below_drewN | apply below_drew1) | exact HB.out)))); have n1_ := Aside0.mk (below_step (by repeat (first | (with_reducible first | exact HB.out | apply below_alloc | apply pw_below_drewN | apply below_drew1) | exact HB.out)) hb); clear HB; have HO406 := n0_; have HB := n1_; clear n0_ n1_; clear hb ho5) | ((with_reducible refine gate_callee (f := 58) rfl ?_); refine goesL_ (some 7) rfl rfl Try.func58 (by kernel_rfl) rfl #[.slice A0 l0.length c0] rfl (by (try simp only [List.map_toArray, List.map_cons, List.map_nil]); first | done | rfl | (simp only [List.length_drop, List.length_take]; rfl)) ?_; (with_reducible refine (spec_l1Ok.calls k _ _ l0 true _ ?side1 ?side2 A2.out).mono ?_); (case side1 => repeat (first | exact (Kd.C_below HR0.out HB.out) | (with_reducible refine Kd.C_alloc ?_ _) | (with_reducible refine Kd.C_drewN ?_ _) | (with_reducible refine Kd.C_drew ?_))); (case side2 => exact HC0.out); rintro e w' ⟨rfl, ⟨nd, rfl⟩⟩; refine ⟨_, rfl, ?_⟩))
    go_loopg [3, 4] k (fun kq v3 v4 w' => ∃ (x3_1 : List Int) (x4_1 : Int), v4 = .int .i64 x4_1 ∧ Aside0 (spec_WordStarts.l0 kq l0 x3_1 x4_1 = some r) ∧ Aside0 (kq ≤ k) ∧ Aside0 (Kd.R (Kd.int .i64) 3 w' w.heap.size (fun _ => True) v3 x3_1) ∧ Aside0 (Below w.heap.size w w'))
    case atStart => exact ⟨(y404), (0), (by first | rfl | (simp; done) | (simp [*]; done)), H', ⟨Nat.le_refl _⟩, ⟨by (with_reducible repeat (first | apply Kd.R_alloc | apply Kd.R_drewN | apply Kd.R_drew)); exact HO406.out⟩, ⟨by repeat (first | (with_reducible first | exact HB.out | apply below_alloc | apply pw_below_drewN | apply below_drew1) | exact HB.out)⟩⟩
    case round =>
      clear H'
      try clear p2
      try clear c3
      try clear c5
      obtain ⟨x3_1, x4_1, rfl, HA, HK1, HO_3, HB⟩ := hrel
      cases gk with
      | zero => exact absurd HA.out (by simp [spec_WordStarts.l0])
      | succ k1 =>
        have H := HA.out
        clear HA
        simp only [spec_WordStarts.l0] at H
        by_cases c6 : x4_1 < (l0.length : Int)
        · rw [if_pos c6] at H
          have c6b0 : decide (x4_1 < (l0.length : Int)) = true := decide_eq_true c6
          clear c6
          replace H := Option.bind_eq_some_iff.mp H
          obtain ⟨t408, A70, H⟩ := H
          replace H : (if t408 = true then (if x3_1.length < 17592186044416 then (spec_WordStarts.l0 k1 l0 (x3_1 ++ [x4_1]) (wrap64 (x4_1 + 1))) else (none)) else (spec_WordStarts.l0 k1 l0 x3_1 (wrap64 (x4_1 + 1)))) = some r := H
          have A7 := Aside0.mk A70
          clear A70
          by_cases c8 : t408 = true
          · subst c8
            have H1 : (if x3_1.length < 17592186044416 then (spec_WordStarts.l0 k1 l0 (x3_1 ++ [x4_1]) (wrap64 (x4_1 + 1))) else (none)) = some r := by rw [if_pos rfl] at H; exact H
            clear H
            have H := H1
            clear H1
            by_cases c9 : x3_1.length < 17592186044416
            · rw [if_pos c9] at H
              have LMc9 := Aside0.mk c9
              clear c9
              obtain ⟨y409, hy409⟩ : ∃ y_ : List Int, y_ = (x3_1 ++ [x4_1]) := ⟨_, rfl⟩
              replace H : (spec_WordStarts.l0 k1 l0 y409 (wrap64 (x4_1 + 1))) = some r := by first | (rw [hy409]; with_reducible exact H) | (have H2_ := (Option.bind_some _ _).symm.trans H; rw [hy409]; with_reducible exact H2_) | (have H2_ := (Option.bind_some _ _).symm.trans H; with_reducible exact H2_) | with_reducible exact H | (rw [hy409]; exact H) | exact H
              have Ny409 := Aside0.mk hy409
              clear hy409
              have H' := Aside0.mk H
              clear H
              go_wp2_with (first | ((with_reducible refine gate_callee (f := 62) rfl ?_); refine goesL_ (some 18) rfl rfl Try.func62 (by kernel_rfl) rfl #[.slice A0 l0.length c0, .int .i64 x4_1] rfl (by (try simp only [List.map_toArray, List.map_cons, List.map_nil]); first | done | rfl | (simp only [List.length_drop, List.length_take]; rfl)) ?_; (with_reducible refine (spec_l10Begins.calls k1 _ _ l0 x4_1 true _ ?side1 ?side2 A7.out).mono ?_); (case side1 => repeat (first | exact (Kd.C_below HR0.out HB.out) | (with_reducible refine Kd.C_alloc ?_ _) | (with_reducible refine Kd.C_drewN ?_ _) | (with_reducible refine Kd.C_drew ?_))); (case side2 => exact HC0.out); rintro e w10 ⟨rfl, hb⟩; refine ⟨_, rfl, ?_⟩; have n0_ := Aside0.mk (Kd.R_below (by (with_reducible repeat (first | apply Kd.R_alloc | apply Kd.R_drewN | apply Kd.R_drew)); exact HO_3.out) hb); have n1_ := Aside0.mk (below_step (by repeat (first | (with_reducible first | exact HB.out | apply below_alloc | apply pw_below_drewN | apply below_drew1) | exact HB.out)) hb); clear HO_3; clear HB; have HO_3 := n0_; have HB := n1_; clear n0_ n1_; (try clear hb); (try clear hb2); (try clear hk); (try clear hi)) | ((with_reducible refine gate_builtin (b := .append) (xs := #[.tmp 19, .tmp 21]) rfl ?_); at_builtin; refine Kd.R_append (Kd.int .i64) (w0 := w) w.heap.size rfl (.tmp 19) (.tmp 21) 36 3 (.int .i64 0) 8 rfl Try.underlying36 info3 rfl (by decide) (by omega) u3 x3_1 x4_1 [.int .i64 x4_1] (fun _ => True) (fun _ => False) rfl rfl ?aP (fun _ hk => hk.elim) ?aF ?aO ?aB ?aS ?aL ?_; (case aP => exact rfl); (case aB => exact (by repeat (first | (with_reducible first | exact HB.out | apply below_alloc | apply pw_below_drewN | apply below_drew1) | exact HB.out))); (case aF => exact (fun _ _ => trivial)); (case aO => exact (by (with_reducible repeat (first | apply Kd.R_alloc | apply Kd.R_drewN | apply Kd.R_drew)); exact HO_3.out)); (case aS => exact (below_size (by repeat (first | (with_reducible first | exact HB.out | apply below_alloc | apply pw_below_drewN | apply below_drew1) | exact HB.out)))); (case aL => have := LMc9.out; omega); intro v410 w11 ho hb hg hat; rw [← Ny409.out] at ho; have n0_ := Aside0.mk (hb); have n1_ := Aside0.mk (ho); clear HB; clear HO_3; have HB := n0_; have HO411 := n1_; clear n0_ n1_; clear ho hb hg hat))
              go_roundg k1
              case measure => have := HK1.out; omega
              case rel => exact ⟨(y409), (wrap64 (x4_1 + 1)), (by first | rfl | (simp; done) | (simp [*]; done)), H', ⟨by have := HK1.out; omega⟩, ⟨by (with_reducible repeat (first | apply Kd.R_alloc | apply Kd.R_drewN | apply Kd.R_drew)); exact HO411.out⟩, ⟨by repeat (first | (with_reducible first | exact HB.out | apply below_alloc | apply pw_below_drewN | apply below_drew1) | exact HB.out)⟩⟩
            · rw [if_neg c9] at H
              exact absurd H (by simp)
          · replace c8 := Bool.eq_false_iff.mpr c8
            subst c8
            have H1 : (spec_WordStarts.l0 k1 l0 x3_1 (wrap64 (x4_1 + 1))) = some r := by rw [if_neg (show ¬ (false = true) by decide)] at H; exact H
            clear H
            have H := H1
            clear H1
            have H' := Aside0.mk H
            clear H
            go_wp2_with (first | ((with_reducible refine gate_callee (f := 62) rfl ?_); refine goesL_ (some 18) rfl rfl Try.func62 (by kernel_rfl) rfl #[.slice A0 l0.length c0, .int .i64 x4_1] rfl (by (try simp only [List.map_toArray, List.map_cons, List.map_nil]); first | done | rfl | (simp only [List.length_drop, List.length_take]; rfl)) ?_; (with_reducible refine (spec_l10Begins.calls k1 _ _ l0 x4_1 false _ ?side1 ?side2 A7.out).mono ?_); (case side1 => repeat (first | exact (Kd.C_below HR0.out HB.out) | (with_reducible refine Kd.C_alloc ?_ _) | (with_reducible refine Kd.C_drewN ?_ _) | (with_reducible refine Kd.C_drew ?_))); (case side2 => exact HC0.out); rintro e w12 ⟨rfl, hb⟩; refine ⟨_, rfl, ?_⟩; have n0_ := Aside0.mk (Kd.R_below (by (with_reducible repeat (first | apply Kd.R_alloc | apply Kd.R_drewN | apply Kd.R_drew)); exact HO_3.out) hb); have n1_ := Aside0.mk (below_step (by repeat (first | (with_reducible first | exact HB.out | apply below_alloc | apply pw_below_drewN | apply below_drew1) | exact HB.out)) hb); clear HO_3; clear HB; have HO_3 := n0_; have HB := n1_; clear n0_ n1_; (try clear hb); (try clear hb2); (try clear hk); (try clear hi)))
            go_roundg k1
            case measure => have := HK1.out; omega
            case rel => exact ⟨(x3_1), (wrap64 (x4_1 + 1)), (by first | rfl | (simp; done) | (simp [*]; done)), H', ⟨by have := HK1.out; omega⟩, ⟨by (with_reducible repeat (first | apply Kd.R_alloc | apply Kd.R_drewN | apply Kd.R_drew)); exact HO_3.out⟩, ⟨by repeat (first | (with_reducible first | exact HB.out | apply below_alloc | apply pw_below_drewN | apply below_drew1) | exact HB.out)⟩⟩
        · rw [if_neg c6] at H
          have c6b0 : decide (x4_1 < (l0.length : Int)) = false := decide_eq_false c6
          clear c6
          obtain rfl := Option.some.inj H
          go_wp2
          go_ret
          exact ⟨_, by first | rfl | (simp [errW_none, errW_some] <;> rfl) | (simp [*, errW_none, errW_some] <;> rfl), by (with_reducible repeat (first | apply Kd.R_alloc | apply Kd.R_drewN | apply Kd.R_drew)); exact HO_3.out, by repeat (first | (with_reducible first | exact HB.out | apply below_alloc | apply pw_below_drewN | apply below_drew1) | exact HB.out)⟩
  · replace c3 := Bool.eq_false_iff.mpr c3
    subst c3
    have H1 : (some y404) = some r := by rw [if_neg (show ¬ (false = true) by decide)] at H; exact H
    clear H
    have H := H1
    clear H1
    obtain rfl := Option.some.inj H
    go_enter Try.func32, Try.ntmps32
    go_wp2_with (first | ((with_reducible refine gate_dst (N := 5) rfl ?_); refine Kd.R_lit (Kd.int .i64) _ 3 ?hg (N := 5) ?hd (xs := ([] : List Int)) (inner := []) (ok := fun _ => True) (okp := fun _ => True) ?hr ?hp (fun _ hk => hk) trivial (Below.refl _ _) (Nat.le_refl _) (by simp) ?_; (case hd => rfl); (case hg => rfl); (case hr => first | (go_simp; done) | (go_simp; rfl)); (case hp => exact (Reps.none _ _)); intro v405 w13 ho14 hb hg_ hnew_; clear hg_ hnew_; (first | rw [← Ny404.out] at ho14 | (simp only [Int.reduceToNat] at ho14; rw [← Ny404.out] at ho14)); have n0_ := Aside0.mk (Kd.R_lower ho14 (below_size (by repeat (first | (with_reducible first | exact HB.out | apply below_alloc | apply pw_below_drewN | apply below_drew1) | exact HB.out)))); have n1_ := Aside0.mk (below_step (by repeat (first | (with_reducible first | exact HB.out | apply below_alloc | apply pw_below_drewN | apply below_drew1) | exact HB.out)) hb); clear HB; have HO406 := n0_; have HB := n1_; clear n0_ n1_; clear hb ho14) | ((with_reducible refine gate_callee (f := 58) rfl ?_); refine goesL_ (some 7) rfl rfl Try.func58 (by kernel_rfl) rfl #[.slice A0 l0.length c0] rfl (by (try simp only [List.map_toArray, List.map_cons, List.map_nil]); first | done | rfl | (simp only [List.length_drop, List.length_take]; rfl)) ?_; (with_reducible refine (spec_l1Ok.calls k _ _ l0 false _ ?side1 ?side2 A2.out).mono ?_); (case side1 => repeat (first | exact (Kd.C_below HR0.out HB.out) | (with_reducible refine Kd.C_alloc ?_ _) | (with_reducible refine Kd.C_drewN ?_ _) | (with_reducible refine Kd.C_drew ?_))); (case side2 => exact HC0.out); rintro e w' ⟨rfl, ⟨nd, rfl⟩⟩; refine ⟨_, rfl, ?_⟩))
    go_ret
    exact ⟨_, by first | rfl | (simp [errW_none, errW_some] <;> rfl) | (simp [*, errW_none, errW_some] <;> rfl), by (with_reducible repeat (first | apply Kd.R_alloc | apply Kd.R_drewN | apply Kd.R_drew)); exact HO406.out, by repeat (first | (with_reducible first | exact HB.out | apply below_alloc | apply pw_below_drewN | apply below_drew1) | exact HB.out)⟩

end Go.Proofs.Ytoafenblaioopaa.S

/- Where words start, by both texts. -/
namespace Go.Proofs.Ytoafenblaioopaa.Pure
open Go.RowKit Go.Proofs.Ytoafenblaioopaa.S Go.Proofs.YtoafenblaioopaaW.PrintWords Go.Proofs.YtoafenblaioopaaW.PrintLast
def flagV (a : Int) : Bool := decide (127462 ≤ a) && decide (a ≤ 127487)
theorem flag_p (a : Int) : spec_l2Flag.f a = some (flagV a) := by
  unfold spec_l2Flag.f flagV
  rw [l1In_p]; rfl
theorem regional_p (a : Int) : impl_isRegional.f a = some (flagV a) := by
  unfold impl_isRegional.f flagV
  by_cases h : 127462 ≤ a <;> simp [h]
def joinI (st a : Int) : Bool := if st = 0 then false else if st = 2 then false else if a = 10 then decide (st = 1) else if bidiV a = 9 then true else if a = 8205 then true else if flagV a = true then decide (st = 3) else false
def nextI (st a : Int) : Int := if a = 13 then 1 else if a = 10 then 2 else if flagV a = true then (if st = 3 then 4 else 3) else 5
theorem joins_p (k : Nat) (st a : Int) : impl_joining_joins.f (k + 1) st a = some (joinI st a) := by
  simp only [impl_joining_joins.f, impl_joining_joins.j0, impl_bidi_p, regional_p, Option.bind_some, joinI]
  grind
theorem next_p (k : Nat) (st a : Int) : impl_joining_next.f (k + 1) st a = some (nextI st a) := by
  simp only [impl_joining_next.f, impl_joining_next.j0, regional_p, Option.bind_some, nextI]
  grind
def stV (l : List Int) : Nat → Int
  | 0 => 0
  | i + 1 => nextI (stV l i) (l.getD i 0)
def joinV (l : List Int) (i : Nat) : Bool := joinI (stV l i) (l.getD i 0)
theorem joinV_zero (l : List Int) : joinV l 0 = false := by simp [joinV, stV, joinI]
theorem joined_l (l : List Int) (hn : l.length ≤ 1099511627776) : ∀ (d k i : Nat), l.length - i = d → i ≤ l.length → d + 1 < k →
    impl_joined.l0 k ((List.range i).map (joinV l)) (stV l i) l (l.length : Int) (i : Int) = some ((List.range l.length).map (joinV l))
  | 0, k, i, hd, hi, hk => by
    obtain ⟨k, rfl⟩ : ∃ m, k = m + 1 := ⟨k - 1, by omega⟩
    have e : i = l.length := by omega
    subst e
    rw [impl_joined.l0, if_neg (by omega)]
  | d + 1, k, i, hd, hi, hk => by
    obtain ⟨k, rfl⟩ : ∃ m, k = m + 1 + 1 := ⟨k - 2, by omega⟩
    have hlt : i < l.length := by omega
    rw [impl_joined.l0, if_pos (by omega), if_pos (by omega), if_pos (by omega), rd_nat, joins_p, Option.bind_some, if_pos (by simp; omega), next_p, Option.bind_some, w64 (by omega) (by omega)]
    have := joined_l l hn d (k + 1) (i + 1) (by omega) (by omega) (by omega)
    rw [List.range_succ, List.map_append] at this
    exact this
def joinedV (l : List Int) : List Bool := (List.range l.length).map (joinV l)
theorem joined_p {l : List Int} {k : Nat} (hn : l.length ≤ 1099511627776) (hk : l.length + 2 < k) : impl_joined.f k l = some (joinedV l) :=
  joined_l l hn l.length k 0 (by omega) (by omega) (by omega)
theorem joinedV_len (l : List Int) : (joinedV l).length = l.length := by simp [joinedV]
theorem joinedV_at {l : List Int} {i : Nat} (h : i < l.length) : rdOf false (joinedV l) (i : Int) = joinV l i := by
  simp [rdOf, joinedV, List.getD_eq_getElem?_getD, h]
/-- The starts below i. -/
def stList (l : List Int) (i : Nat) : List Nat := (List.range i).filter fun j => !joinV l j
def ints (l : List Nat) : List Int := l.map fun (j : Nat) => (j : Int)
theorem stList_succ (l : List Int) (i : Nat) : stList l (i + 1) = stList l i ++ (if joinV l i = true then [] else [i]) := by
  unfold stList
  rw [List.range_succ, List.filter_append]
  cases h : joinV l i <;> simp [h]
theorem stList_len (l : List Int) (i : Nat) : (stList l i).length ≤ i := by
  have := List.length_filter_le (fun j => !joinV l j) (List.range i)
  simpa [stList] using this
theorem stList_lt {l : List Int} {i j : Nat} (h : j ∈ stList l i) : j < i := by
  simp [stList] at h; exact h.1
theorem starts_l (l : List Int) (hn : l.length ≤ 1099511627776) : ∀ (d k i : Nat), l.length - i = d → i ≤ l.length → d < k →
    impl_starts.l0 k (ints (stList l i)) (joinedV l) (l.length : Int) (i : Int) = some (ints (stList l l.length))
  | 0, k, i, hd, hi, hk => by
    obtain ⟨k, rfl⟩ : ∃ m, k = m + 1 := ⟨k - 1, by omega⟩
    have e : i = l.length := by omega
    subst e
    rw [impl_starts.l0, if_neg (by omega)]
  | d + 1, k, i, hd, hi, hk => by
    obtain ⟨k, rfl⟩ : ∃ m, k = m + 1 := ⟨k - 1, by omega⟩
    have hlt : i < l.length := by omega
    have hs := stList_len l i
    have := starts_l l hn d k (i + 1) (by omega) (by omega) (by omega)
    rw [stList_succ] at this
    rw [impl_starts.l0, if_pos (by omega), if_pos (by omega), if_pos (by rw [joinedV_len]; omega), joinedV_at hlt, w64 (by omega) (by omega)]
    cases h : joinV l i
    · rw [if_neg (by simp), if_pos (by simp [ints]; omega)]
      rw [h] at this
      simpa [ints] using this
    · rw [if_pos rfl]
      rw [h] at this
      simpa [ints] using this
theorem starts_p {l : List Int} {k : Nat} (hn : l.length ≤ 1099511627776) (hk : l.length + 2 < k) : impl_starts.f k l = some (ints (stList l l.length)) := by
  unfold impl_starts.f
  rw [joined_p hn hk, Option.bind_some, joinedV_len]
  exact starts_l l hn l.length k 0 (by omega) (by omega) (by omega)
/-! words -/
def wordV (a : Int) : Bool := decide (bidiV a = 1) || decide (bidiV a = 2) || decide (bidiV a = 3) || decide (bidiV a = 4) || decide (bidiV a = 7)
theorem ofWord_p {k : Nat} (h : 6 ≤ k) (a : Int) : impl_ofWord.f k a = some (wordV a) := by
  obtain ⟨k, rfl⟩ : ∃ m, k = m + 6 := ⟨k - 6, by omega⟩
  unfold impl_ofWord.f
  rw [impl_bidi_p, Option.bind_some]
  unfold wordV
  generalize bidiV a = b
  by_cases h1 : b = 1
  · subst h1; simp [impl_oneOf.f, impl_oneOf.l0, rd]
  by_cases h2 : b = 2
  · subst h2; simp [impl_oneOf.f, impl_oneOf.l0, rd, wrap64]
  by_cases h3 : b = 3
  · subst h3; simp [impl_oneOf.f, impl_oneOf.l0, rd, wrap64]
  by_cases h4 : b = 4
  · subst h4; simp [impl_oneOf.f, impl_oneOf.l0, rd, wrap64]
  by_cases h5 : b = 7
  · subst h5; simp [impl_oneOf.f, impl_oneOf.l0, rd, wrap64]
  simp [impl_oneOf.f, impl_oneOf.l0, rd, wrap64, h1, h2, h3, h4, h5]
theorem l10Word_p {l : List Int} {i k : Nat} (hi : i < l.length) (hk : 14 ≤ k) : spec_l10Word.f k l (i : Int) = some (wordV (l.getD i 0)) := by
  unfold spec_l10Word.f
  rw [if_pos (by omega), if_pos (by omega), rd_nat, spec_bidi_k hk, Option.bind_some]
  unfold wordV
  generalize bidiV (l.getD i 0) = b
  grind
/-! joins, as the reference tells it -/
def frun (l : List Int) : Nat → Nat
  | 0 => 0
  | i + 1 => if flagV (l.getD i 0) = true then frun l i + 1 else 0
theorem flag_not {a : Int} (h : flagV a = true) : a ≠ 13 ∧ a ≠ 10 := by
  simp [flagV] at h; omega
theorem stV_three (l : List Int) : ∀ i, (stV l i = 3 ↔ frun l i % 2 = 1)
  | 0 => by simp [stV, frun]
  | i + 1 => by
    have ih := stV_three l i
    simp only [stV, frun, nextI]
    by_cases hf : flagV (l.getD i 0) = true
    · have := flag_not hf
      rw [if_neg this.1, if_neg this.2, if_pos hf, if_pos hf]
      by_cases h3 : stV l i = 3
      · have := ih.1 h3
        rw [if_pos h3]; omega
      · have : ¬ frun l i % 2 = 1 := fun h => h3 (ih.2 h)
        rw [if_neg h3]; omega
    · rw [if_neg hf, if_neg hf]
      by_cases h1 : l.getD i 0 = 13
      · rw [if_pos h1]; omega
      · rw [if_neg h1]
        by_cases h2 : l.getD i 0 = 10
        · rw [if_pos h2]; omega
        · rw [if_neg h2]; omega
theorem stV_prev (l : List Int) (i : Nat) : stV l (i + 1) ≠ 0 ∧ (stV l (i + 1) = 1 ↔ l.getD i 0 = 13) ∧ (stV l (i + 1) = 2 ↔ l.getD i 0 = 10) := by
  simp only [stV, nextI]
  grind
theorem back_l (l : List Int) (hn : l.length ≤ 1099511627776) (a : Int) : ∀ (i k : Nat) (n : Int), i ≤ l.length → i < k → 0 ≤ n → n + i ≤ 2199023255552 →
    spec_l2Joins.l0 k l a n ((i : Int) - 1) = some (flagV a && decide ((n + frun l i) % 2 = 1))
  | 0, k, n, hi, hk, h0, h1 => by
    obtain ⟨k, rfl⟩ : ∃ m, k = m + 1 := ⟨k - 1, by omega⟩
    rw [spec_l2Joins.l0, if_neg (by omega), flag_p, Option.bind_some, Int.tmod_eq_emod_of_nonneg h0]
    cases flagV a <;> simp [frun] <;> rfl
  | i + 1, k, n, hi, hk, h0, h1 => by
    obtain ⟨k, rfl⟩ : ∃ m, k = m + 1 := ⟨k - 1, by omega⟩
    rw [show (((i + 1 : Nat) : Int) - 1) = (i : Int) by omega, spec_l2Joins.l0, if_pos (by omega), if_pos (by omega), if_pos (by omega), rd_nat, flag_p, Option.bind_some, frun]
    cases hf : flagV (l.getD i 0)
    · rw [if_neg (by simp), if_neg (by simp), flag_p, Option.bind_some, Int.tmod_eq_emod_of_nonneg h0]
      cases flagV a <;> simp <;> rfl
    · rw [if_pos rfl, if_pos rfl]
      rw [w64 (by omega) (by omega), w64 (by omega) (by omega), back_l l hn a i k (n + 1) (by omega) (by omega) (by omega) (by omega)]
      rw [show n + 1 + (frun l i : Int) = n + ((frun l i + 1 : Nat) : Int) by omega]
set_option maxHeartbeats 8000000 in
theorem l2Joins_p {l : List Int} {i k : Nat} (hn : l.length ≤ 1099511627776) (h0 : 0 < i) (hi : i < l.length) (hk : l.length + 20 ≤ k) : spec_l2Joins.f k l (i : Int) = some (joinV l i) := by
  obtain ⟨j, rfl⟩ : ∃ j, i = j + 1 := ⟨i - 1, by omega⟩
  obtain ⟨k, rfl⟩ : ∃ m, k = m + 1 + 1 := ⟨k - 2, by omega⟩
  obtain ⟨p0, p1, p2⟩ := stV_prev l j
  have p3 := stV_three l (j + 1)
  have hb := back_l l hn (l.getD (j + 1) 0) (j + 1) k 0 (by omega) (by omega) (by omega) (by omega)
  rw [show (((j + 1 : Nat) : Int) - 1) = (j : Int) by omega] at hb
  have c1 : ((j + 1 : Nat) : Int) < (l.length : Int) := by omega
  have c2 : (0 : Int) ≤ ((j + 1 : Nat) : Int) := by omega
  have e1 : (0 : Int) ≤ (j : Int) := by omega
  have e2 : (j : Int) < (l.length : Int) := by omega
  have w : wrap64 (((j + 1 : Nat) : Int) - 1) = (j : Int) := by rw [w64 (by omega) (by omega)]; omega
  have hbi' := spec_bidi_k (k := k + 1) (by omega) (l.getD (j + 1) 0)
  simp only [spec_l2Joins.f, spec_l2Joins.j0, spec_l2Joins.j1, c1, c2, e1, e2, w, rd_nat, hb, hbi', Option.bind_some, if_true]
  unfold joinV joinI
  have e3 : decide ((0 + (frun l (j + 1) : Int)) % 2 = 1) = decide (stV l (j + 1) = 3) := by
    rw [decide_eq_decide, p3]; omega
  rw [e3]
  generalize stV l (j + 1) = st at *
  generalize l.getD (j + 1) 0 = a at *
  generalize l.getD j 0 = p at *
  generalize bidiV a = b at *
  generalize flagV a = f at *
  clear hb hbi'
  cases f <;> grind (splits := 30)
def atV (l : List Int) : Nat → Nat
  | 0 => 0
  | i + 1 => if joinV l (i + 1) = true then atV l i else i + 1
theorem atV_le (l : List Int) : ∀ i, atV l i ≤ i
  | 0 => by simp [atV]
  | i + 1 => by
    have := atV_le l i
    simp only [atV]; split <;> omega
theorem atV_eq (l : List Int) (i : Nat) : atV l i = i ↔ joinV l i = false := by
  cases i with
  | zero => simp [atV, joinV_zero]
  | succ i =>
    have := atV_le l i
    simp only [atV]
    cases h : joinV l (i + 1)
    · simp
    · simp; omega
theorem at_p {l : List Int} (hn : l.length ≤ 1099511627776) : ∀ (i k : Nat), i < l.length → i + l.length + 22 ≤ k → spec_l2At.f k l (i : Int) = some (atV l i : Int)
  | 0, k, hi, hk => by
    obtain ⟨k, rfl⟩ : ∃ m, k = m + 1 := ⟨k - 1, by omega⟩
    unfold spec_l2At.f
    rw [spec_l2At.l0, if_neg (by omega)]; rfl
  | i + 1, k, hi, hk => by
    obtain ⟨k, rfl⟩ : ∃ m, k = m + 1 := ⟨k - 1, by omega⟩
    have ih := at_p hn i k (by omega) (by omega)
    unfold spec_l2At.f at ih ⊢
    rw [spec_l2At.l0, if_pos (by omega), l2Joins_p hn (by omega) hi (by omega), Option.bind_some, w64 (by omega) (by omega), show (((i + 1 : Nat) : Int) - 1) = (i : Int) by omega, ih, atV]
    cases joinV l (i + 1) <;> simp
def wdV (l : List Int) (i : Nat) : Bool := wordV (l.getD i 0)
def begV (l : List Int) (i : Nat) : Bool := !joinV l i && (decide (i = 0) || (wdV l i != wdV l (atV l (i - 1))))
theorem begins_p {l : List Int} {i k : Nat} (hn : l.length ≤ 1099511627776) (hi : i < l.length) (hk : 2 * l.length + 40 ≤ k) : spec_l10Begins.f k l (i : Int) = some (begV l i) := by
  unfold spec_l10Begins.f
  rw [at_p hn i k hi (by omega), Option.bind_some]
  have h := atV_eq l i
  unfold begV
  by_cases hj : joinV l i = true
  · rw [if_neg (by rw [hj] at h; simp at h; omega), hj]; rfl
  · have hj : joinV l i = false := by simpa using hj
    rw [if_pos (by rw [h.2 hj]), hj]
    by_cases h0 : i = 0
    · subst h0; simp
    · have := atV_le l (i - 1)
      rw [if_neg (by omega), l10Word_p hi (by omega), Option.bind_some, w64 (by omega) (by omega), show ((i : Int) - 1) = ((i - 1 : Nat) : Int) by omega, at_p hn (i - 1) k (by omega) (by omega), Option.bind_some, l10Word_p (by omega) (by omega), Option.bind_some]
      simp [h0, wdV]
def begList (l : List Int) (i : Nat) : List Nat := (List.range i).filter (begV l)
theorem begList_succ (l : List Int) (i : Nat) : begList l (i + 1) = begList l i ++ (if begV l i = true then [i] else []) := by
  unfold begList
  rw [List.range_succ, List.filter_append]
  cases h : begV l i <;> simp [h]
theorem begList_len (l : List Int) (i : Nat) : (begList l i).length ≤ i := by
  have := List.length_filter_le (begV l) (List.range i)
  simpa [begList] using this
theorem specStarts_l (l : List Int) (hn : l.length ≤ 1099511627776) : ∀ (d k i : Nat), l.length - i = d → i ≤ l.length → d + 2 * l.length + 40 < k →
    spec_WordStarts.l0 k l (ints (begList l i)) (i : Int) = some (ints (begList l l.length))
  | 0, k, i, hd, hi, hk => by
    obtain ⟨k, rfl⟩ : ∃ m, k = m + 1 := ⟨k - 1, by omega⟩
    have e : i = l.length := by omega
    subst e
    rw [spec_WordStarts.l0, if_neg (by omega)]
  | d + 1, k, i, hd, hi, hk => by
    obtain ⟨k, rfl⟩ : ∃ m, k = m + 1 := ⟨k - 1, by omega⟩
    have hlt : i < l.length := by omega
    have hs := begList_len l i
    have := specStarts_l l hn d k (i + 1) (by omega) (by omega) (by omega)
    rw [begList_succ] at this
    rw [spec_WordStarts.l0, if_pos (by omega), begins_p hn hlt (by omega), Option.bind_some, w64 (by omega) (by omega)]
    cases h : begV l i
    · rw [if_neg (by simp)]
      rw [h] at this
      simpa [ints] using this
    · rw [if_pos rfl, if_pos (by simp [ints]; omega)]
      rw [h] at this
      simpa [ints] using this
def wordStartsV (l : List Int) : List Int := if okV l = true then ints (begList l l.length) else []
theorem specWordStarts_p {l : List Int} {k : Nat} (hn : l.length ≤ 1099511627776) (hk : 3 * l.length + 50 ≤ k) : spec_WordStarts.f k l = some (wordStartsV l) := by
  unfold spec_WordStarts.f wordStartsV
  rw [Option.bind_some, ok_p hn (by omega), Option.bind_some]
  cases okV l
  · rfl
  · exact specStarts_l l hn l.length k 0 (by omega) (by omega) (by omega)
/-! the program's -/
def wsStep (l : List Int) (st : List Nat × Bool × Bool) (s : Nat) : List Nat × Bool × Bool :=
  (if st.2.2 = true then st.1 ++ [s] else if wdV l s = st.2.1 then st.1 else st.1 ++ [s], wdV l s, false)
def wsRun (l : List Int) (s : List Nat) : List Nat × Bool × Bool := s.foldl (wsStep l) ([], false, true)
theorem wsRun_beg (l : List Int) : ∀ i, wsRun l (stList l (i + 1)) = (begList l (i + 1), wdV l (atV l i), false)
  | 0 => by
    have e : stList l 1 = [0] := by simp [stList, joinV_zero, List.range_succ]
    have e2 : begList l 1 = [0] := by simp [begList, begV, joinV_zero, List.range_succ]
    rw [e, e2]; simp [wsRun, wsStep, atV]
  | i + 1 => by
    have ih := wsRun_beg l i
    rw [stList_succ, begList_succ]
    unfold wsRun at ih ⊢
    rw [List.foldl_append, ih]
    cases h : joinV l (i + 1)
    · simp only [Bool.false_eq_true, if_false, List.foldl_cons, List.foldl_nil, wsStep, begV, h, atV]
      by_cases hw : wdV l (i + 1) = wdV l (atV l i) <;> simp [hw]
    · simp [atV, h, begV]
theorem wsRun_nil (l : List Int) : ∀ i, (wsRun l (stList l i)).1 = begList l i
  | 0 => by simp [wsRun, stList, begList]
  | i + 1 => by rw [wsRun_beg]
theorem wsRun_len (l : List Int) : ∀ (s : List Nat) (st : List Nat × Bool × Bool), (s.foldl (wsStep l) st).1.length ≤ st.1.length + s.length
  | [], st => by simp
  | x :: s, st => by
    have := wsRun_len l s (wsStep l st x)
    have h : (wsStep l st x).1.length ≤ st.1.length + 1 := by
      unfold wsStep; simp only; split
      · simp
      · split <;> simp
    simp only [List.foldl_cons, List.length_cons]; omega
theorem ws_l (l : List Int) (s : List Nat) (hs : s.length ≤ 1099511627776) (hlt : ∀ x ∈ s, x < l.length) : ∀ (d k i : Nat), s.length - i = d → i ≤ s.length → d + 6 < k →
    impl_wordStarts.l0 k l (ints (wsRun l (s.take i)).1) (wsRun l (s.take i)).2.1 (ints s) (s.length : Int) (i : Int) = some (ints (wsRun l s).1)
  | 0, k, i, hd, hi, hk => by
    obtain ⟨k, rfl⟩ : ∃ m, k = m + 1 := ⟨k - 1, by omega⟩
    have e : i = s.length := by omega
    subst e
    rw [impl_wordStarts.l0, if_neg (by omega), List.take_length]
  | d + 1, k, i, hd, hi, hk => by
    obtain ⟨k, rfl⟩ : ∃ m, k = m + 1 := ⟨k - 1, by omega⟩
    have hlt' : i < s.length := by omega
    have hl := wsRun_len l (s.take i) ([], false, true)
    have hl' : (wsRun l (s.take i)).1.length ≤ i := by
      have : (s.take i).length = i := by simp; omega
      unfold wsRun; simp at hl; omega
    have e : rd (ints s) (i : Int) = (s[i] : Int) := by simp [ints, rd, List.getD_eq_getElem?_getD, hlt']
    have hb := hlt s[i] (List.getElem_mem hlt')
    have := ws_l l s hs hlt d k (i + 1) (by omega) (by omega) (by omega)
    have hf : i = 0 ↔ (wsRun l (s.take i)).2.2 = true := by
      cases i with
      | zero => simp [wsRun]
      | succ i =>
        rw [List.take_succ_eq_append_getElem (show i < s.length by omega)]
        unfold wsRun
        rw [List.foldl_append]
        simp only [List.foldl_cons, List.foldl_nil, wsStep]
        simp
    have hst : wsRun l (s.take (i + 1)) = wsStep l (wsRun l (s.take i)) s[i] := by
      rw [List.take_succ_eq_append_getElem hlt']
      unfold wsRun
      rw [List.foldl_append]
      rfl
    rw [hst] at this
    rw [impl_wordStarts.l0, if_pos (by omega), if_pos (by omega), if_pos (by simp [ints]; omega), e, if_pos (by omega), if_pos (by omega), rd_nat, ofWord_p (by omega), Option.bind_some, w64 (by omega) (by omega)]
    generalize wsRun l (s.take i) = st at *
    obtain ⟨out, w, f⟩ := st
    simp only [wsStep] at this
    by_cases h0 : i = 0
    · have hf' : f = true := hf.1 h0
      rw [if_pos (by omega), if_pos (by simp [ints]; simp at hl'; omega)]
      rw [if_pos hf'] at this
      simpa [ints, wdV] using this
    · have hf' : ¬ f = true := fun h => h0 (hf.2 h)
      rw [if_neg hf'] at this
      rw [if_neg (by omega)]
      by_cases hw : wdV l s[i] = w
      · rw [if_pos hw] at this
        rw [if_neg (by simpa [wdV] using hw)]
        simpa [ints, wdV] using this
      · rw [if_neg hw] at this
        rw [if_pos (by simpa [wdV] using hw), if_pos (by simp [ints]; simp at hl'; omega)]
        simpa [ints, wdV] using this
theorem implWordStarts_p {l : List Int} {k : Nat} (hk : 300 ≤ k) : impl_WordStarts.f k l = some (wordStartsV l) := by
  unfold impl_WordStarts.f wordStartsV impl_lettersOk.f
  rw [Option.bind_some]
  by_cases h : okV l = true
  · have hl := ok_len h
    have hs := stList_len l l.length
    rw [if_pos h, if_pos h]
    unfold impl_wordStarts.f
    rw [starts_p (by omega) (by omega), Option.bind_some, ← wsRun_nil]
    have := ws_l l (stList l l.length) (by omega) (fun x h => stList_lt h) (stList l l.length).length k 0 (by omega) (by omega) (by omega)
    simp only [List.take_zero] at this
    have e : ((ints (stList l l.length)).length : Int) = ((stList l l.length).length : Int) := by simp [ints]
    rw [e]
    simpa [wsRun, ints] using this
  · rw [if_neg h, if_neg h]
end Go.Proofs.Ytoafenblaioopaa.Pure

/- How many words, by both texts. -/
namespace Go.Proofs.Ytoafenblaioopaa.Pure
open Go.RowKit Go.Proofs.Ytoafenblaioopaa.S Go.Proofs.YtoafenblaioopaaW.PrintWords Go.Proofs.YtoafenblaioopaaW.PrintLast
def cntV (l : List Int) (s : List Nat) : Nat := (s.filter (wdV l)).length
theorem cntV_le (l : List Int) (s : List Nat) : cntV l s ≤ s.length := List.length_filter_le _ _
theorem specCount_l (l : List Int) (hn : l.length ≤ 1099511627776) : ∀ (d k i : Nat), l.length - i = d → i ≤ l.length → d + 2 * l.length + 40 < k →
    spec_WordCount.l0 k l (cntV l (begList l i) : Int) (i : Int) = some (cntV l (begList l l.length) : Int)
  | 0, k, i, hd, hi, hk => by
    obtain ⟨k, rfl⟩ : ∃ m, k = m + 1 := ⟨k - 1, by omega⟩
    have e : i = l.length := by omega
    subst e
    rw [spec_WordCount.l0, if_neg (by omega)]
  | d + 1, k, i, hd, hi, hk => by
    obtain ⟨k, rfl⟩ : ∃ m, k = m + 1 := ⟨k - 1, by omega⟩
    have hlt : i < l.length := by omega
    have hs := begList_len l i
    have hc := cntV_le l (begList l i)
    have := specCount_l l hn d k (i + 1) (by omega) (by omega) (by omega)
    rw [begList_succ] at this
    rw [spec_WordCount.l0, if_pos (by omega), begins_p hn hlt (by omega), Option.bind_some, w64 (x := (i : Int) + 1) (by omega) (by omega), w64 (by omega) (by omega)]
    cases h : begV l i
    · rw [if_neg (by simp)]
      rw [h] at this
      simpa using this
    · rw [if_pos rfl, l10Word_p hlt (by omega), Option.bind_some]
      rw [h] at this
      have e : cntV l (begList l i ++ [i]) = cntV l (begList l i) + (if wdV l i = true then 1 else 0) := by
        unfold cntV; cases hw : wdV l i <;> simp [hw]
      rw [if_pos rfl, e] at this
      by_cases hw : wordV (l.getD i 0) = true
      · rw [if_pos hw]
        rw [if_pos (show wdV l i = true from hw)] at this
        simpa using this
      · rw [if_neg hw]
        rw [if_neg (show ¬ wdV l i = true from hw)] at this
        simpa using this
def wordCountV (l : List Int) : Nat := if okV l = true then cntV l (begList l l.length) else 0
theorem specWordCount_p {l : List Int} {k : Nat} (hn : l.length ≤ 1099511627776) (hk : 3 * l.length + 50 ≤ k) : spec_WordCount.f k l = some (wordCountV l : Int) := by
  unfold spec_WordCount.f wordCountV
  rw [ok_p hn (by omega), Option.bind_some]
  cases okV l
  · rfl
  · exact specCount_l l hn l.length k 0 (by omega) (by omega) (by omega)
theorem implCount_l (l : List Int) (s : List Nat) (hs : s.length ≤ 1099511627776) (hlt : ∀ x ∈ s, x < l.length) : ∀ (d k i : Nat), s.length - i = d → i ≤ s.length → d + 6 < k →
    impl_WordCount.l0 k l (cntV l (s.take i) : Int) (ints s) (s.length : Int) (i : Int) = some (cntV l s : Int)
  | 0, k, i, hd, hi, hk => by
    obtain ⟨k, rfl⟩ : ∃ m, k = m + 1 := ⟨k - 1, by omega⟩
    have e : i = s.length := by omega
    subst e
    rw [impl_WordCount.l0, if_neg (by omega), List.take_length]
  | d + 1, k, i, hd, hi, hk => by
    obtain ⟨k, rfl⟩ : ∃ m, k = m + 1 := ⟨k - 1, by omega⟩
    have hlt' : i < s.length := by omega
    have hc := cntV_le l (s.take i)
    have hc' : cntV l (s.take i) ≤ i := by simp at hc; omega
    have e : rd (ints s) (i : Int) = (s[i] : Int) := by simp [ints, rd, List.getD_eq_getElem?_getD, hlt']
    have hb := hlt s[i] (List.getElem_mem hlt')
    have := implCount_l l s hs hlt d k (i + 1) (by omega) (by omega) (by omega)
    have e2 : cntV l (s.take (i + 1)) = cntV l (s.take i) + (if wdV l s[i] = true then 1 else 0) := by
      rw [List.take_succ_eq_append_getElem hlt']
      unfold cntV
      rw [List.filter_append, List.length_append]
      cases hw : wdV l s[i] <;> simp [List.filter, hw]
    rw [e2] at this
    rw [impl_WordCount.l0, if_pos (by omega), if_pos (by omega), if_pos (by simp [ints]; omega), e, if_pos (by omega), if_pos (by omega), rd_nat, ofWord_p (by omega), Option.bind_some, w64 (x := (i : Int) + 1) (by omega) (by omega), w64 (by omega) (by omega)]
    by_cases hw : wdV l s[i] = true
    · rw [if_pos (show wordV (l.getD s[i] 0) = true from hw)]
      rw [if_pos hw] at this
      simpa using this
    · rw [if_neg (show ¬ wordV (l.getD s[i] 0) = true from hw)]
      rw [if_neg hw] at this
      simpa using this
theorem implWordCount_p {l : List Int} {k : Nat} (hk : 300 ≤ k) : impl_WordCount.f k l = some (wordCountV l : Int) := by
  unfold impl_WordCount.f
  rw [implWordStarts_p hk, Option.bind_some]
  unfold wordStartsV wordCountV
  by_cases h : okV l = true
  · have hl := ok_len h
    have hs := begList_len l l.length
    have := implCount_l l (begList l l.length) (by omega) (fun x hx => by simp [begList] at hx; exact hx.1) (begList l l.length).length k 0 (by omega) (by omega) (by omega)
    rw [if_pos h, if_pos h]
    have e : ((ints (begList l l.length)).length : Int) = ((begList l l.length).length : Int) := by simp [ints]
    rw [e]
    simpa [cntV] using this
  · obtain ⟨k, rfl⟩ : ∃ m, k = m + 1 := ⟨k - 1, by omega⟩
    rw [if_neg h, if_neg h, impl_WordCount.l0, if_neg (by simp)]; rfl
end Go.Proofs.Ytoafenblaioopaa.Pure

/- The program's WordCount answers as the reference's, for every list of whole numbers; it writes into no argument. No condition beyond the statement's own. -/
namespace Go.Proofs.Ytoafenblaioopaa.Pure
open Go.RowKit Go.Proofs.Ytoafenblaioopaa.S Go.Proofs.YtoafenblaioopaaW.PrintWords Go.Proofs.YtoafenblaioopaaW.PrintLast
theorem FnExactWordCount : laws_FnExactWordCount.Pure := by
  intro l _ _ _
  refine ⟨3 * l.length + 30001, ?_⟩
  unfold laws_FnExactWordCount.f
  by_cases h : (l.length : Int) > 1048576
  · rw [if_pos h]
  · rw [if_neg h, copy_p (by omega) (by omega), Option.bind_some, specWordCount_p (by omega) (by omega), Option.bind_some, Option.bind_some, implWordCount_p (by omega), Option.bind_some, if_pos rfl,
      Option.bind_some, eq_p (by omega) (by omega), Option.bind_some, decide_eq_true rfl, if_pos rfl]
end Go.Proofs.Ytoafenblaioopaa.Pure
