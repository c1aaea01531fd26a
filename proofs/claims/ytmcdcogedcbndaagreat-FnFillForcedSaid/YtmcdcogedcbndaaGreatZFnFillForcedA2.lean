/- Of drawn letters, spans, a width and a way: a line that is too wide is one cluster; one that ends within a word ends with a cluster, and the word has no room on it; the lines are the reference's. No condition beyond the statement's own. (text 3 of 7 of this claim: functions of the program and of the reference as plain Lean functions, what a call of each comes to, and what follows.) -/
import Derived.Test.YtmcdcogedcbndaaGreatZFnFillForcedA0
import Derived.Test.YtmcdcogedcbndaaGreatZFnFillForcedA1
set_option maxHeartbeats 16000000
set_option maxRecDepth 100000
set_option linter.unusedVariables false
set_option linter.unusedSimpArgs false
namespace Go.Proofs.YtmcdcogedcbndaaGreat.S
open Go.RowKit Go.Proofs.YtmcdcogedcbndaaGreatW.PrintWords Go.Proofs.YtmcdcogedcbndaaGreatW.PrintLast
set_option linter.unusedVariables false
set_option linter.unusedSimpArgs false
def spec_RuneBidi.j0 : Nat → Int → Bool → Option (Int)
 | 0, _, _ => none
 | k + 1, x0, x3 => if x3 = true then (some 1) else ((spec_l1In.f x0 1488 1514).bind fun t126 => (if t126 = true then (some 2) else ((spec_l1In.f x0 1569 1610).bind fun t127 => (if t127 = true then (some 3) else ((spec_l1In.f x0 48 57).bind fun t128 => (if t128 = true then (some 4) else ((spec_l1In.f x0 1632 1641).bind fun t129 => (if t129 = true then (some 7) else ((spec_l1Signs.f k x0).bind fun t130 => (some t130))))))))))
def spec_RuneBidi.f (k : Nat) (a0 : Int) : Option (Int) := (spec_l1In.f a0 97 122).bind fun t123 => (if t123 = true then (spec_RuneBidi.j0 k a0 true) else ((spec_l1In.f a0 65 90).bind fun t124 => (if t124 = true then (spec_RuneBidi.j0 k a0 true) else ((spec_l1In.f a0 19968 40959).bind fun t125 => (spec_RuneBidi.j0 k a0 t125)))))
theorem spec_RuneBidi.mono_l : ∀ k, (∀ y0 y1, LeO (spec_RuneBidi.j0 k y0 y1) (spec_RuneBidi.j0 (k + 1) y0 y1))
 | 0 => fun _ _ r h => by simp [spec_RuneBidi.j0] at h
 | k + 1 => by
  have ih0 := spec_RuneBidi.mono_l k
  ·
   intro y0 y1; unfold spec_RuneBidi.j0
   repeat' first
   | (with_reducible exact ih0 _ _)
   | (with_reducible exact spec_l1Signs.mono _ _)
   | (with_reducible exact LeO.refl _)
   | (with_reducible exact LeO.none _)
   | (with_reducible refine LeO.ite ?_ ?_)
   | (with_reducible refine LeO.bind ?_ (fun _ => ?_))
   | exact ih0 _ _
   | exact spec_l1Signs.mono _ _
   | exact LeO.none _
   | refine LeO.ite ?_ ?_
   | refine LeO.bind ?_ (fun _ => ?_)
theorem spec_RuneBidi.mono : ∀ a0 k, LeO (spec_RuneBidi.f k a0) (spec_RuneBidi.f (k + 1) a0) := by
 intro a0 k; have ih0 := spec_RuneBidi.mono_l k; unfold spec_RuneBidi.f
 repeat' first
   | (with_reducible exact ih0 _ _)
   | (with_reducible exact spec_l1Signs.mono _ _)
   | (with_reducible exact LeO.refl _)
   | (with_reducible exact LeO.none _)
   | (with_reducible refine LeO.ite ?_ ?_)
   | (with_reducible refine LeO.bind ?_ (fun _ => ?_))
   | exact ih0 _ _
   | exact spec_l1Signs.mono _ _
   | exact LeO.none _
   | refine LeO.ite ?_ ?_
   | refine LeO.bind ?_ (fun _ => ?_)
theorem spec_RuneBidi.calls (k : Nat) (a0 : Int) (r : Int) (w : World) (h : spec_RuneBidi.f k a0 = some r) :
  Calls Tryz.prog 137 #[.int .i64 a0] w fun e w' => e = .returned (.int .i64 r) ∧ Below w.heap.size w w' := by
 have HB := az (Below.refl w.heap.size w); have H : ((spec_l1In.f a0 97 122).bind fun t123 => (if t123 = true then (spec_RuneBidi.j0 k a0 true) else ((spec_l1In.f a0 65 90).bind fun t124 => (if t124 = true then (spec_RuneBidi.j0 k a0 true) else ((spec_l1In.f a0 19968 40959).bind fun t125 => (spec_RuneBidi.j0 k a0 t125)))))) = some r := h; clear h; have HC2 := az H; clear H; go_enter Tryz.func137, Tryz.ntmps137; go_upto_region 1 with (fail)
 go_cut [3] (fun v3 wc => ∃ (kq : Nat) (x3_1 : Bool), v3 = .bool x3_1 ∧ Aside0 (spec_RuneBidi.j0 kq a0 x3_1 = some r) ∧ Aside0 (kq ≤ k) ∧ Aside0 (Below w.heap.size w wc))
 case first =>
  have H := HC2.out; clear HC2; replace H := Option.bind_eq_some_iff.mp H; obtain ⟨t123, A30, H⟩ := H; replace H : (if t123 = true then (spec_RuneBidi.j0 k a0 true) else ((spec_l1In.f a0 65 90).bind fun t124 => (if t124 = true then (spec_RuneBidi.j0 k a0 true) else ((spec_l1In.f a0 19968 40959).bind fun t125 => (spec_RuneBidi.j0 k a0 t125))))) = some r := H; have A3 := az A30; clear A30; by_cases c4 : t123 = true
  ·
   subst c4; have H1 : (spec_RuneBidi.j0 k a0 true) = some r := by rw [if_pos rfl] at H; exact H
   clear H; have H := H1; clear H1; have H' := az H; clear H; go_wp2_with (first | ((with_reducible refine gate_callee (f := 36) rfl ?_); refine goesL_ (some 5) rfl rfl Tryz.func36 (by kernel_rfl) rfl #[.int .i64 a0, .int .i64 97, .int .i64 122] rfl zC ?_; (with_reducible refine (spec_l1In.calls a0 97 122 true _ A3.out).mono ?_); rintro e w' ⟨rfl, ⟨nd, rfl⟩⟩; refine ⟨_, rfl, ?_⟩)); go_meet
   case rel => exact ⟨_, (true), zB, H', ⟨zI⟩, ⟨zA HB.out⟩⟩
  ·
   replace c4 := Bool.eq_false_iff.mpr c4; subst c4; have H1 : ((spec_l1In.f a0 65 90).bind fun t124 => (if t124 = true then (spec_RuneBidi.j0 k a0 true) else ((spec_l1In.f a0 19968 40959).bind fun t125 => (spec_RuneBidi.j0 k a0 t125)))) = some r := by rw [if_neg (show ¬ (false = true) by decide)] at H; exact H
   clear H; have H := H1; clear H1; replace H := Option.bind_eq_some_iff.mp H; obtain ⟨t124, A50, H⟩ := H; replace H : (if t124 = true then (spec_RuneBidi.j0 k a0 true) else ((spec_l1In.f a0 19968 40959).bind fun t125 => (spec_RuneBidi.j0 k a0 t125))) = some r := H; have A5 := az A50; clear A50; by_cases c6 : t124 = true
   ·
    subst c6; have H1 : (spec_RuneBidi.j0 k a0 true) = some r := by rw [if_pos rfl] at H; exact H
    clear H; have H := H1; clear H1; have H' := az H; clear H; go_wp2_with (first | ((with_reducible refine gate_callee (f := 36) rfl ?_); refine goesL_ (some 5) rfl rfl Tryz.func36 (by kernel_rfl) rfl #[.int .i64 a0, .int .i64 97, .int .i64 122] rfl zC ?_; (with_reducible refine (spec_l1In.calls a0 97 122 false _ A3.out).mono ?_); rintro e w' ⟨rfl, ⟨nd, rfl⟩⟩; refine ⟨_, rfl, ?_⟩) | (go_at_call 36; (with_reducible refine (spec_l1In.calls a0 65 90 true _ A5.out).mono ?_); rintro e w' ⟨rfl, ⟨nd, rfl⟩⟩)); go_meet
    case rel => exact ⟨_, (true), zB, H', ⟨zI⟩, ⟨zA HB.out⟩⟩
   ·
    replace c6 := Bool.eq_false_iff.mpr c6; subst c6; have H1 : ((spec_l1In.f a0 19968 40959).bind fun t125 => (spec_RuneBidi.j0 k a0 t125)) = some r := by rw [if_neg (show ¬ (false = true) by decide)] at H; exact H
    clear H; have H := H1; clear H1; replace H := Option.bind_eq_some_iff.mp H; obtain ⟨t125, A70, H⟩ := H; replace H : (spec_RuneBidi.j0 k a0 t125) = some r := H; have A7 := az A70; clear A70; have H' := az H; clear H; go_wp2_with (first | ((with_reducible refine gate_callee (f := 36) rfl ?_); refine goesL_ (some 5) rfl rfl Tryz.func36 (by kernel_rfl) rfl #[.int .i64 a0, .int .i64 97, .int .i64 122] rfl zC ?_; (with_reducible refine (spec_l1In.calls a0 97 122 false _ A3.out).mono ?_); rintro e w' ⟨rfl, ⟨nd, rfl⟩⟩; refine ⟨_, rfl, ?_⟩) | (go_at_call 36; (with_reducible refine (spec_l1In.calls a0 65 90 false _ A5.out).mono ?_); rintro e w' ⟨rfl, ⟨nd, rfl⟩⟩) | (go_at_call 36; (with_reducible refine (spec_l1In.calls a0 19968 40959 t125 _ A7.out).mono ?_); rintro e w' ⟨rfl, ⟨nd, rfl⟩⟩)); go_meet
    case rel => exact ⟨_, (t125), zB, H', ⟨zI⟩, ⟨zA HB.out⟩⟩
 case rest =>
  clear HC2; (try clear c1); (try clear p2); (try clear c3); (try clear c4); (try clear c6); obtain ⟨kq, x3_1, rfl, HA, HJ1, HB⟩ := hcut
  cases kq with
  | zero => exact absurd HA.out (by simp [spec_RuneBidi.j0])
  | succ kj1 =>
   have H := HA.out; clear HA; simp only [spec_RuneBidi.j0] at H; by_cases c8 : x3_1 = true
   ·
    subst c8; have H1 : (some 1) = some r := by rw [if_pos rfl] at H; exact H
    clear H; have H := H1; clear H1; obtain rfl := Option.some.inj H; go_wp2; go_ret; exact ⟨zG, zA HB.out⟩
   ·
    replace c8 := Bool.eq_false_iff.mpr c8; subst c8; have H1 : ((spec_l1In.f a0 1488 1514).bind fun t126 => (if t126 = true then (some 2) else ((spec_l1In.f a0 1569 1610).bind fun t127 => (if t127 = true then (some 3) else ((spec_l1In.f a0 48 57).bind fun t128 => (if t128 = true then (some 4) else ((spec_l1In.f a0 1632 1641).bind fun t129 => (if t129 = true then (some 7) else ((spec_l1Signs.f kj1 a0).bind fun t130 => (some t130)))))))))) = some r := by rw [if_neg (show ¬ (false = true) by decide)] at H; exact H
    clear H; have H := H1; clear H1; replace H := Option.bind_eq_some_iff.mp H; obtain ⟨t126, A90, H⟩ := H; replace H : (if t126 = true then (some 2) else ((spec_l1In.f a0 1569 1610).bind fun t127 => (if t127 = true then (some 3) else ((spec_l1In.f a0 48 57).bind fun t128 => (if t128 = true then (some 4) else ((spec_l1In.f a0 1632 1641).bind fun t129 => (if t129 = true then (some 7) else ((spec_l1Signs.f kj1 a0).bind fun t130 => (some t130))))))))) = some r := H; have A9 := az A90; clear A90; by_cases c10 : t126 = true
    ·
     subst c10; have H1 : (some 2) = some r := by rw [if_pos rfl] at H; exact H
     clear H; have H := H1; clear H1; obtain rfl := Option.some.inj H; go_wp2_with (first | ((with_reducible refine gate_callee (f := 36) rfl ?_); refine goesL_ (some 16) rfl rfl Tryz.func36 (by kernel_rfl) rfl #[.int .i64 a0, .int .i64 1488, .int .i64 1514] rfl zC ?_; (with_reducible refine (spec_l1In.calls a0 1488 1514 true _ A9.out).mono ?_); rintro e w' ⟨rfl, ⟨nd, rfl⟩⟩; refine ⟨_, rfl, ?_⟩)); go_ret; exact ⟨zG, zA HB.out⟩
    ·
     replace c10 := Bool.eq_false_iff.mpr c10; subst c10; have H1 : ((spec_l1In.f a0 1569 1610).bind fun t127 => (if t127 = true then (some 3) else ((spec_l1In.f a0 48 57).bind fun t128 => (if t128 = true then (some 4) else ((spec_l1In.f a0 1632 1641).bind fun t129 => (if t129 = true then (some 7) else ((spec_l1Signs.f kj1 a0).bind fun t130 => (some t130)))))))) = some r := by rw [if_neg (show ¬ (false = true) by decide)] at H; exact H
     clear H; have H := H1; clear H1; replace H := Option.bind_eq_some_iff.mp H; obtain ⟨t127, A110, H⟩ := H; replace H : (if t127 = true then (some 3) else ((spec_l1In.f a0 48 57).bind fun t128 => (if t128 = true then (some 4) else ((spec_l1In.f a0 1632 1641).bind fun t129 => (if t129 = true then (some 7) else ((spec_l1Signs.f kj1 a0).bind fun t130 => (some t130))))))) = some r := H; have A11 := az A110; clear A110; by_cases c12 : t127 = true
     ·
      subst c12; have H1 : (some 3) = some r := by rw [if_pos rfl] at H; exact H
      clear H; have H := H1; clear H1; obtain rfl := Option.some.inj H; go_wp2_with (first | ((with_reducible refine gate_callee (f := 36) rfl ?_); refine goesL_ (some 16) rfl rfl Tryz.func36 (by kernel_rfl) rfl #[.int .i64 a0, .int .i64 1488, .int .i64 1514] rfl zC ?_; (with_reducible refine (spec_l1In.calls a0 1488 1514 false _ A9.out).mono ?_); rintro e w' ⟨rfl, ⟨nd, rfl⟩⟩; refine ⟨_, rfl, ?_⟩) | ((with_reducible refine gate_callee (f := 36) rfl ?_); refine goesL_ (some 19) rfl rfl Tryz.func36 (by kernel_rfl) rfl #[.int .i64 a0, .int .i64 1569, .int .i64 1610] rfl zC ?_; (with_reducible refine (spec_l1In.calls a0 1569 1610 true _ A11.out).mono ?_); rintro e w' ⟨rfl, ⟨nd, rfl⟩⟩; refine ⟨_, rfl, ?_⟩)); go_ret; exact ⟨zG, zA HB.out⟩
     ·
      replace c12 := Bool.eq_false_iff.mpr c12; subst c12; have H1 : ((spec_l1In.f a0 48 57).bind fun t128 => (if t128 = true then (some 4) else ((spec_l1In.f a0 1632 1641).bind fun t129 => (if t129 = true then (some 7) else ((spec_l1Signs.f kj1 a0).bind fun t130 => (some t130)))))) = some r := by rw [if_neg (show ¬ (false = true) by decide)] at H; exact H
      clear H; have H := H1; clear H1; replace H := Option.bind_eq_some_iff.mp H; obtain ⟨t128, A130, H⟩ := H; replace H : (if t128 = true then (some 4) else ((spec_l1In.f a0 1632 1641).bind fun t129 => (if t129 = true then (some 7) else ((spec_l1Signs.f kj1 a0).bind fun t130 => (some t130))))) = some r := H; have A13 := az A130; clear A130; by_cases c14 : t128 = true
      ·
       subst c14; have H1 : (some 4) = some r := by rw [if_pos rfl] at H; exact H
       clear H; have H := H1; clear H1; obtain rfl := Option.some.inj H; go_wp2_with (first | ((with_reducible refine gate_callee (f := 36) rfl ?_); refine goesL_ (some 16) rfl rfl Tryz.func36 (by kernel_rfl) rfl #[.int .i64 a0, .int .i64 1488, .int .i64 1514] rfl zC ?_; (with_reducible refine (spec_l1In.calls a0 1488 1514 false _ A9.out).mono ?_); rintro e w' ⟨rfl, ⟨nd, rfl⟩⟩; refine ⟨_, rfl, ?_⟩) | ((with_reducible refine gate_callee (f := 36) rfl ?_); refine goesL_ (some 19) rfl rfl Tryz.func36 (by kernel_rfl) rfl #[.int .i64 a0, .int .i64 1569, .int .i64 1610] rfl zC ?_; (with_reducible refine (spec_l1In.calls a0 1569 1610 false _ A11.out).mono ?_); rintro e w' ⟨rfl, ⟨nd, rfl⟩⟩; refine ⟨_, rfl, ?_⟩) | ((with_reducible refine gate_callee (f := 36) rfl ?_); refine goesL_ (some 22) rfl rfl Tryz.func36 (by kernel_rfl) rfl #[.int .i64 a0, .int .i64 48, .int .i64 57] rfl zC ?_; (with_reducible refine (spec_l1In.calls a0 48 57 true _ A13.out).mono ?_); rintro e w' ⟨rfl, ⟨nd, rfl⟩⟩; refine ⟨_, rfl, ?_⟩)); go_ret; exact ⟨zG, zA HB.out⟩
      ·
       replace c14 := Bool.eq_false_iff.mpr c14; subst c14; have H1 : ((spec_l1In.f a0 1632 1641).bind fun t129 => (if t129 = true then (some 7) else ((spec_l1Signs.f kj1 a0).bind fun t130 => (some t130)))) = some r := by rw [if_neg (show ¬ (false = true) by decide)] at H; exact H
       clear H; have H := H1; clear H1; replace H := Option.bind_eq_some_iff.mp H; obtain ⟨t129, A150, H⟩ := H; replace H : (if t129 = true then (some 7) else ((spec_l1Signs.f kj1 a0).bind fun t130 => (some t130))) = some r := H; have A15 := az A150; clear A150; by_cases c16 : t129 = true
       ·
        subst c16; have H1 : (some 7) = some r := by rw [if_pos rfl] at H; exact H
        clear H; have H := H1; clear H1; obtain rfl := Option.some.inj H; go_wp2_with (first | ((with_reducible refine gate_callee (f := 36) rfl ?_); refine goesL_ (some 16) rfl rfl Tryz.func36 (by kernel_rfl) rfl #[.int .i64 a0, .int .i64 1488, .int .i64 1514] rfl zC ?_; (with_reducible refine (spec_l1In.calls a0 1488 1514 false _ A9.out).mono ?_); rintro e w' ⟨rfl, ⟨nd, rfl⟩⟩; refine ⟨_, rfl, ?_⟩) | ((with_reducible refine gate_callee (f := 36) rfl ?_); refine goesL_ (some 19) rfl rfl Tryz.func36 (by kernel_rfl) rfl #[.int .i64 a0, .int .i64 1569, .int .i64 1610] rfl zC ?_; (with_reducible refine (spec_l1In.calls a0 1569 1610 false _ A11.out).mono ?_); rintro e w' ⟨rfl, ⟨nd, rfl⟩⟩; refine ⟨_, rfl, ?_⟩) | ((with_reducible refine gate_callee (f := 36) rfl ?_); refine goesL_ (some 22) rfl rfl Tryz.func36 (by kernel_rfl) rfl #[.int .i64 a0, .int .i64 48, .int .i64 57] rfl zC ?_; (with_reducible refine (spec_l1In.calls a0 48 57 false _ A13.out).mono ?_); rintro e w' ⟨rfl, ⟨nd, rfl⟩⟩; refine ⟨_, rfl, ?_⟩) | ((with_reducible refine gate_callee (f := 36) rfl ?_); refine goesL_ (some 25) rfl rfl Tryz.func36 (by kernel_rfl) rfl #[.int .i64 a0, .int .i64 1632, .int .i64 1641] rfl zC ?_; (with_reducible refine (spec_l1In.calls a0 1632 1641 true _ A15.out).mono ?_); rintro e w' ⟨rfl, ⟨nd, rfl⟩⟩; refine ⟨_, rfl, ?_⟩)); go_ret; exact ⟨zG, zA HB.out⟩
       ·
        replace c16 := Bool.eq_false_iff.mpr c16; subst c16; have H1 : ((spec_l1Signs.f kj1 a0).bind fun t130 => (some t130)) = some r := by rw [if_neg (show ¬ (false = true) by decide)] at H; exact H
        clear H; have H := H1; clear H1; replace H := Option.bind_eq_some_iff.mp H; obtain ⟨t130, A170, H⟩ := H; replace H : (some t130) = some r := H; have A17 := az A170; clear A170; obtain rfl := Option.some.inj H; go_wp2_with (first | ((with_reducible refine gate_callee (f := 36) rfl ?_); refine goesL_ (some 16) rfl rfl Tryz.func36 (by kernel_rfl) rfl #[.int .i64 a0, .int .i64 1488, .int .i64 1514] rfl zC ?_; (with_reducible refine (spec_l1In.calls a0 1488 1514 false _ A9.out).mono ?_); rintro e w' ⟨rfl, ⟨nd, rfl⟩⟩; refine ⟨_, rfl, ?_⟩) | ((with_reducible refine gate_callee (f := 36) rfl ?_); refine goesL_ (some 19) rfl rfl Tryz.func36 (by kernel_rfl) rfl #[.int .i64 a0, .int .i64 1569, .int .i64 1610] rfl zC ?_; (with_reducible refine (spec_l1In.calls a0 1569 1610 false _ A11.out).mono ?_); rintro e w' ⟨rfl, ⟨nd, rfl⟩⟩; refine ⟨_, rfl, ?_⟩) | ((with_reducible refine gate_callee (f := 36) rfl ?_); refine goesL_ (some 22) rfl rfl Tryz.func36 (by kernel_rfl) rfl #[.int .i64 a0, .int .i64 48, .int .i64 57] rfl zC ?_; (with_reducible refine (spec_l1In.calls a0 48 57 false _ A13.out).mono ?_); rintro e w' ⟨rfl, ⟨nd, rfl⟩⟩; refine ⟨_, rfl, ?_⟩) | ((with_reducible refine gate_callee (f := 36) rfl ?_); refine goesL_ (some 25) rfl rfl Tryz.func36 (by kernel_rfl) rfl #[.int .i64 a0, .int .i64 1632, .int .i64 1641] rfl zC ?_; (with_reducible refine (spec_l1In.calls a0 1632 1641 false _ A15.out).mono ?_); rintro e w' ⟨rfl, ⟨nd, rfl⟩⟩; refine ⟨_, rfl, ?_⟩) | ((with_reducible refine gate_callee (f := 144) rfl ?_); refine goesL_ (some 27) rfl rfl Tryz.func144 (by kernel_rfl) rfl #[.int .i64 a0] rfl zC ?_; (with_reducible refine (spec_l1Signs.calls kj1 a0 t130 _ A17.out).mono ?_); rintro e w18 ⟨rfl, hb⟩; refine ⟨_, rfl, ?_⟩; have n0_ := az (below_step (zA HB.out) hb); clear HB; have HB := n0_; clear n0_; (try clear hb); (try clear hb2); (try clear hk); (try clear hi))); go_ret; exact ⟨zG, zA HB.out⟩
mutual
def spec_l5Signs.j0 : Nat → Int → Bool → Option (Int)
 | 0, _, _ => none
 | k + 1, x3, x4 => if x4 = true then (some 8) else (if x3 = 41 then (spec_l5Signs.j1 k x3 (x3 == 41)) else (if x3 = 93 then (spec_l5Signs.j1 k x3 (x3 == 93)) else (spec_l5Signs.j1 k x3 (x3 == 125))))
def spec_l5Signs.j1 : Nat → Int → Bool → Option (Int)
 | 0, _, _ => none
 | k + 1, x3, x8 => if x8 = true then (some 9) else (if x3 = 33 then (spec_l5Signs.j2 k x3 (x3 == 33)) else (spec_l5Signs.j2 k x3 (x3 == 63)))
def spec_l5Signs.j2 : Nat → Int → Bool → Option (Int)
 | 0, _, _ => none
 | k + 1, x3, x12 => if x12 = true then (some 10) else (if x3 = 34 then (some 11) else (if x3 = 45 then (some 12) else (if x3 = 44 then (spec_l5Signs.j3 k x3 (x3 == 44)) else (if x3 = 46 then (spec_l5Signs.j3 k x3 (x3 == 46)) else (if x3 = 58 then (spec_l5Signs.j3 k x3 (x3 == 58)) else (if x3 = 59 then (spec_l5Signs.j3 k x3 (x3 == 59)) else (spec_l5Signs.j3 k x3 (x3 == 47))))))))
def spec_l5Signs.j3 : Nat → Int → Bool → Option (Int)
 | 0, _, _ => none
 | k + 1, x3, x19 => if x19 = true then (some 13) else (if x3 = 9 then (some 14) else (if x3 = 173 then (some 14) else (some 1)))
end
def spec_l5Signs.f (k : Nat) (a0 : Int) : Option (Int) := if a0 = 40 then (spec_l5Signs.j0 k a0 (a0 == 40)) else (if a0 = 91 then (spec_l5Signs.j0 k a0 (a0 == 91)) else (spec_l5Signs.j0 k a0 (a0 == 123)))
theorem spec_l5Signs.mono_l : ∀ k, (∀ y0 y1, LeO (spec_l5Signs.j0 k y0 y1) (spec_l5Signs.j0 (k + 1) y0 y1)) ∧ (∀ y0 y1, LeO (spec_l5Signs.j1 k y0 y1) (spec_l5Signs.j1 (k + 1) y0 y1)) ∧ (∀ y0 y1, LeO (spec_l5Signs.j2 k y0 y1) (spec_l5Signs.j2 (k + 1) y0 y1)) ∧ (∀ y0 y1, LeO (spec_l5Signs.j3 k y0 y1) (spec_l5Signs.j3 (k + 1) y0 y1))
 | 0 => ⟨fun _ _ r h => by simp [spec_l5Signs.j0] at h, fun _ _ r h => by simp [spec_l5Signs.j1] at h, fun _ _ r h => by simp [spec_l5Signs.j2] at h, fun _ _ r h => by simp [spec_l5Signs.j3] at h⟩
 | k + 1 => by
  obtain ⟨ih0, ih1, ih2, ih3⟩ := spec_l5Signs.mono_l k; refine ⟨?_, ?_, ?_, ?_⟩
  ·
   intro y0 y1; unfold spec_l5Signs.j0
   repeat' first
   | (with_reducible exact ih0 _ _)
   | (with_reducible exact ih1 _ _)
   | (with_reducible exact ih2 _ _)
   | (with_reducible exact ih3 _ _)
   | (with_reducible exact LeO.refl _)
   | (with_reducible exact LeO.none _)
   | (with_reducible refine LeO.ite ?_ ?_)
   | (with_reducible refine LeO.bind ?_ (fun _ => ?_))
   | exact ih0 _ _
   | exact ih1 _ _
   | exact ih2 _ _
   | exact ih3 _ _
   | exact LeO.none _
   | refine LeO.ite ?_ ?_
   | refine LeO.bind ?_ (fun _ => ?_)
  ·
   intro y0 y1; unfold spec_l5Signs.j1
   repeat' first
   | (with_reducible exact ih0 _ _)
   | (with_reducible exact ih1 _ _)
   | (with_reducible exact ih2 _ _)
   | (with_reducible exact ih3 _ _)
   | (with_reducible exact LeO.refl _)
   | (with_reducible exact LeO.none _)
   | (with_reducible refine LeO.ite ?_ ?_)
   | (with_reducible refine LeO.bind ?_ (fun _ => ?_))
   | exact ih0 _ _
   | exact ih1 _ _
   | exact ih2 _ _
   | exact ih3 _ _
   | exact LeO.none _
   | refine LeO.ite ?_ ?_
   | refine LeO.bind ?_ (fun _ => ?_)
  ·
   intro y0 y1; unfold spec_l5Signs.j2
   repeat' first
   | (with_reducible exact ih0 _ _)
   | (with_reducible exact ih1 _ _)
   | (with_reducible exact ih2 _ _)
   | (with_reducible exact ih3 _ _)
   | (with_reducible exact LeO.refl _)
   | (with_reducible exact LeO.none _)
   | (with_reducible refine LeO.ite ?_ ?_)
   | (with_reducible refine LeO.bind ?_ (fun _ => ?_))
   | exact ih0 _ _
   | exact ih1 _ _
   | exact ih2 _ _
   | exact ih3 _ _
   | exact LeO.none _
   | refine LeO.ite ?_ ?_
   | refine LeO.bind ?_ (fun _ => ?_)
  ·
   intro y0 y1; unfold spec_l5Signs.j3
   repeat' first
   | (with_reducible exact ih0 _ _)
   | (with_reducible exact ih1 _ _)
   | (with_reducible exact ih2 _ _)
   | (with_reducible exact ih3 _ _)
   | (with_reducible exact LeO.refl _)
   | (with_reducible exact LeO.none _)
   | (with_reducible refine LeO.ite ?_ ?_)
   | (with_reducible refine LeO.bind ?_ (fun _ => ?_))
   | exact ih0 _ _
   | exact ih1 _ _
   | exact ih2 _ _
   | exact ih3 _ _
   | exact LeO.none _
   | refine LeO.ite ?_ ?_
   | refine LeO.bind ?_ (fun _ => ?_)
theorem spec_l5Signs.mono : ∀ a0 k, LeO (spec_l5Signs.f k a0) (spec_l5Signs.f (k + 1) a0) := by
 intro a0 k; obtain ⟨ih0, ih1, ih2, ih3⟩ := spec_l5Signs.mono_l k; unfold spec_l5Signs.f
 repeat' first
   | (with_reducible exact ih0 _ _)
   | (with_reducible exact ih1 _ _)
   | (with_reducible exact ih2 _ _)
   | (with_reducible exact ih3 _ _)
   | (with_reducible exact LeO.refl _)
   | (with_reducible exact LeO.none _)
   | (with_reducible refine LeO.ite ?_ ?_)
   | (with_reducible refine LeO.bind ?_ (fun _ => ?_))
   | exact ih0 _ _
   | exact ih1 _ _
   | exact ih2 _ _
   | exact ih3 _ _
   | exact LeO.none _
   | refine LeO.ite ?_ ?_
   | refine LeO.bind ?_ (fun _ => ?_)
theorem spec_l5Signs.calls (k : Nat) (a0 : Int) (r : Int) (w : World) (h : spec_l5Signs.f k a0 = some r) :
  Calls Tryz.prog 139 #[.int .i64 a0] w fun e w' => e = .returned (.int .i64 r) ∧ Drawn0 w w' := by
 have H : (if a0 = 40 then (spec_l5Signs.j0 k a0 (a0 == 40)) else (if a0 = 91 then (spec_l5Signs.j0 k a0 (a0 == 91)) else (spec_l5Signs.j0 k a0 (a0 == 123)))) = some r := h; clear h; have HC2 := az H; clear H; go_enter Tryz.func139, Tryz.ntmps139; go_upto_if 4 with (fail)
 go_cut [4] (fun v4 wc => ∃ (kq : Nat) (x4_1 : Bool), v4 = .bool x4_1 ∧ Aside0 (spec_l5Signs.j0 kq a0 x4_1 = some r) ∧ Aside0 (kq ≤ k) ∧ Drawn0 w wc)
 case first =>
  have H := HC2.out; clear HC2; by_cases c3 : a0 = 40
  ·
   rw [if_pos c3] at H; have c3b0 : (a0 == 40) = true := beq_iff_eq.mpr c3; have c3b1 : (a0 != 40) = false := bne_eq_false_iff_eq.mpr c3; clear c3; (first | rw [c3b0] | (simp only [i64_w, i32_w]; rw [c3b0]) | skip); have H' := az H; clear H; go_wp2; go_meet
   case rel => exact ⟨_, ((a0 == 40)), zB, H', ⟨zI⟩, zD⟩
  ·
   rw [if_neg c3] at H; have c3b0 : (a0 == 40) = false := beq_eq_false_iff_ne.mpr c3; have c3b1 : (a0 != 40) = true := bne_iff_ne.mpr c3; (first | rw [c3b0] | (simp only [i64_w, i32_w]; rw [c3b0]) | skip); by_cases c4 : a0 = 91
   ·
    rw [if_pos c4] at H; have c4b0 : (a0 == 91) = true := beq_iff_eq.mpr c4; have c4b1 : (a0 != 91) = false := bne_eq_false_iff_eq.mpr c4; clear c4; have H' := az H; clear H; go_wp2; go_meet
    case rel => exact ⟨_, ((a0 == 91)), zB, H', ⟨zI⟩, zD⟩
   ·
    rw [if_neg c4] at H; have c4b0 : (a0 == 91) = false := beq_eq_false_iff_ne.mpr c4; have c4b1 : (a0 != 91) = true := bne_iff_ne.mpr c4; have H' := az H; clear H; go_wp2; go_meet
    case rel => exact ⟨_, ((a0 == 123)), zB, H', ⟨zI⟩, zD⟩
 case rest =>
  clear HC2; (try clear c1); (try clear p2); (try clear c3); (try clear c3b0); (try clear c3b1); (try clear c4); (try clear c4b0); (try clear c4b1); obtain ⟨kq, x4_1, rfl, HA, HJ1, ⟨mc1, rfl⟩⟩ := hcut
  cases kq with
  | zero => exact absurd HA.out (by simp [spec_l5Signs.j0])
  | succ kj1 =>
   have H := HA.out; clear HA; simp only [spec_l5Signs.j0] at H; by_cases c5 : x4_1 = true
   ·
    subst c5; have H1 : (some 8) = some r := by rw [if_pos rfl] at H; exact H
    clear H; have H := H1; clear H1; obtain rfl := Option.some.inj H; go_wp2; go_ret; exact ⟨zB, zD⟩
   ·
    replace c5 := Bool.eq_false_iff.mpr c5; subst c5; have H1 : (if a0 = 41 then (spec_l5Signs.j1 kj1 a0 (a0 == 41)) else (if a0 = 93 then (spec_l5Signs.j1 kj1 a0 (a0 == 93)) else (spec_l5Signs.j1 kj1 a0 (a0 == 125)))) = some r := by rw [if_neg (show ¬ (false = true) by decide)] at H; exact H
    clear H; have H := H1; clear H1; have HC6 := az H; clear H; go_upto_if 8 with (fail)
    go_cut [8] (fun v8 wc => ∃ (kq : Nat) (x8_5 : Bool), v8 = .bool x8_5 ∧ Aside0 (spec_l5Signs.j1 kq a0 x8_5 = some r) ∧ Aside0 (kq ≤ kj1) ∧ Drawn0 w wc)
    case first =>
     have H := HC6.out; clear HC6; by_cases c7 : a0 = 41
     ·
      rw [if_pos c7] at H; have c7b0 : (a0 == 41) = true := beq_iff_eq.mpr c7; have c7b1 : (a0 != 41) = false := bne_eq_false_iff_eq.mpr c7; clear c7; (first | rw [c7b0] | (simp only [i64_w, i32_w]; rw [c7b0]) | skip); have H' := az H; clear H; go_wp2; go_meet
      case rel => exact ⟨_, ((a0 == 41)), zB, H', ⟨zJ HJ1.out⟩, zD⟩
     ·
      rw [if_neg c7] at H; have c7b0 : (a0 == 41) = false := beq_eq_false_iff_ne.mpr c7; have c7b1 : (a0 != 41) = true := bne_iff_ne.mpr c7; (first | rw [c7b0] | (simp only [i64_w, i32_w]; rw [c7b0]) | skip); by_cases c8 : a0 = 93
      ·
       rw [if_pos c8] at H; have c8b0 : (a0 == 93) = true := beq_iff_eq.mpr c8; have c8b1 : (a0 != 93) = false := bne_eq_false_iff_eq.mpr c8; clear c8; have H' := az H; clear H; go_wp2; go_meet
       case rel => exact ⟨_, ((a0 == 93)), zB, H', ⟨zJ HJ1.out⟩, zD⟩
      ·
       rw [if_neg c8] at H; have c8b0 : (a0 == 93) = false := beq_eq_false_iff_ne.mpr c8; have c8b1 : (a0 != 93) = true := bne_iff_ne.mpr c8; have H' := az H; clear H; go_wp2; go_meet
       case rel => exact ⟨_, ((a0 == 125)), zB, H', ⟨zJ HJ1.out⟩, zD⟩
    case rest =>
     clear HC6; (try clear c1); (try clear p2); (try clear c3); (try clear c3b0); (try clear c3b1); (try clear c4); (try clear c4b0); (try clear c4b1); (try clear c5); (try clear c7); (try clear c7b0); (try clear c7b1); (try clear c8); (try clear c8b0); (try clear c8b1); (try clear p2); obtain ⟨kq, x8_5, rfl, HA, HJ5, ⟨mc5, rfl⟩⟩ := hcut
     cases kq with
     | zero => exact absurd HA.out (by simp [spec_l5Signs.j1])
     | succ kj5 =>
      have H := HA.out; clear HA; simp only [spec_l5Signs.j1] at H; by_cases c9 : x8_5 = true
      ·
       subst c9; have H1 : (some 9) = some r := by rw [if_pos rfl] at H; exact H
       clear H; have H := H1; clear H1; obtain rfl := Option.some.inj H; go_wp2; go_ret; exact ⟨zB, zD⟩
      ·
       replace c9 := Bool.eq_false_iff.mpr c9; subst c9; have H1 : (if a0 = 33 then (spec_l5Signs.j2 kj5 a0 (a0 == 33)) else (spec_l5Signs.j2 kj5 a0 (a0 == 63))) = some r := by rw [if_neg (show ¬ (false = true) by decide)] at H; exact H
       clear H; have H := H1; clear H1; have HC10 := az H; clear H; go_upto_if 12 with (fail)
       go_cut [12] (fun v12 wc => ∃ (kq : Nat) (x12_9 : Bool), v12 = .bool x12_9 ∧ Aside0 (spec_l5Signs.j2 kq a0 x12_9 = some r) ∧ Aside0 (kq ≤ kj5) ∧ Drawn0 w wc)
       case first =>
        have H := HC10.out; clear HC10; by_cases c11 : a0 = 33
        ·
         rw [if_pos c11] at H; have c11b0 : (a0 == 33) = true := beq_iff_eq.mpr c11; have c11b1 : (a0 != 33) = false := bne_eq_false_iff_eq.mpr c11; clear c11; (first | rw [c11b0] | (simp only [i64_w, i32_w]; rw [c11b0]) | skip); have H' := az H; clear H; go_wp2; go_meet
         case rel => exact ⟨_, ((a0 == 33)), zB, H', ⟨zO HJ1.out HJ5.out⟩, zD⟩
        ·
         rw [if_neg c11] at H; have c11b0 : (a0 == 33) = false := beq_eq_false_iff_ne.mpr c11; have c11b1 : (a0 != 33) = true := bne_iff_ne.mpr c11; (first | rw [c11b0] | (simp only [i64_w, i32_w]; rw [c11b0]) | skip); have H' := az H; clear H; go_wp2; go_meet
         case rel => exact ⟨_, ((a0 == 63)), zB, H', ⟨zO HJ1.out HJ5.out⟩, zD⟩
       case rest =>
        clear HC10; (try clear c1); (try clear p2); (try clear c3); (try clear c3b0); (try clear c3b1); (try clear c4); (try clear c4b0); (try clear c4b1); (try clear c5); (try clear c7); (try clear c7b0); (try clear c7b1); (try clear c8); (try clear c8b0); (try clear c8b1); (try clear c9); (try clear c11); (try clear c11b0); (try clear c11b1); (try clear p2); obtain ⟨kq, x12_9, rfl, HA, HJ9, ⟨mc9, rfl⟩⟩ := hcut
        cases kq with
        | zero => exact absurd HA.out (by simp [spec_l5Signs.j2])
        | succ kj9 =>
         have H := HA.out; clear HA; simp only [spec_l5Signs.j2] at H; by_cases c12 : x12_9 = true
         ·
          subst c12; have H1 : (some 10) = some r := by rw [if_pos rfl] at H; exact H
          clear H; have H := H1; clear H1; obtain rfl := Option.some.inj H; go_wp2; go_ret; exact ⟨zB, zD⟩
         ·
          replace c12 := Bool.eq_false_iff.mpr c12; subst c12; have H1 : (if a0 = 34 then (some 11) else (if a0 = 45 then (some 12) else (if a0 = 44 then (spec_l5Signs.j3 kj9 a0 (a0 == 44)) else (if a0 = 46 then (spec_l5Signs.j3 kj9 a0 (a0 == 46)) else (if a0 = 58 then (spec_l5Signs.j3 kj9 a0 (a0 == 58)) else (if a0 = 59 then (spec_l5Signs.j3 kj9 a0 (a0 == 59)) else (spec_l5Signs.j3 kj9 a0 (a0 == 47)))))))) = some r := by rw [if_neg (show ¬ (false = true) by decide)] at H; exact H
          clear H; have H := H1; clear H1; by_cases c13 : a0 = 34
          ·
           rw [if_pos c13] at H; have c13b0 : (a0 == 34) = true := beq_iff_eq.mpr c13; have c13b1 : (a0 != 34) = false := bne_eq_false_iff_eq.mpr c13; clear c13; obtain rfl := Option.some.inj H; go_wp2; go_ret; exact ⟨zB, zD⟩
          ·
           rw [if_neg c13] at H; have c13b0 : (a0 == 34) = false := beq_eq_false_iff_ne.mpr c13; have c13b1 : (a0 != 34) = true := bne_iff_ne.mpr c13; by_cases c14 : a0 = 45
           ·
            rw [if_pos c14] at H; have c14b0 : (a0 == 45) = true := beq_iff_eq.mpr c14; have c14b1 : (a0 != 45) = false := bne_eq_false_iff_eq.mpr c14; clear c14; obtain rfl := Option.some.inj H; go_wp2; go_ret; exact ⟨zB, zD⟩
           ·
            rw [if_neg c14] at H; have c14b0 : (a0 == 45) = false := beq_eq_false_iff_ne.mpr c14; have c14b1 : (a0 != 45) = true := bne_iff_ne.mpr c14; have HC15 := az H; clear H; go_upto_if 19 with (fail)
            go_cut [19] (fun v19 wc => ∃ (kq : Nat) (x19_14 : Bool), v19 = .bool x19_14 ∧ Aside0 (spec_l5Signs.j3 kq a0 x19_14 = some r) ∧ Aside0 (kq ≤ kj9) ∧ Drawn0 w wc)
            case first =>
             have H := HC15.out; clear HC15; by_cases c16 : a0 = 44
             ·
              rw [if_pos c16] at H; have c16b0 : (a0 == 44) = true := beq_iff_eq.mpr c16; have c16b1 : (a0 != 44) = false := bne_eq_false_iff_eq.mpr c16; clear c16; (first | rw [c16b0] | (simp only [i64_w, i32_w]; rw [c16b0]) | skip); have H' := az H; clear H; go_wp2; go_meet
              case rel => exact ⟨_, ((a0 == 44)), zB, H', ⟨zS HJ1.out HJ5.out HJ9.out⟩, zD⟩
             ·
              rw [if_neg c16] at H; have c16b0 : (a0 == 44) = false := beq_eq_false_iff_ne.mpr c16; have c16b1 : (a0 != 44) = true := bne_iff_ne.mpr c16; (first | rw [c16b0] | (simp only [i64_w, i32_w]; rw [c16b0]) | skip); by_cases c17 : a0 = 46
              ·
               rw [if_pos c17] at H; have c17b0 : (a0 == 46) = true := beq_iff_eq.mpr c17; have c17b1 : (a0 != 46) = false := bne_eq_false_iff_eq.mpr c17; clear c17; have H' := az H; clear H; go_wp2; go_meet
               case rel => exact ⟨_, ((a0 == 46)), zB, H', ⟨zS HJ1.out HJ5.out HJ9.out⟩, zD⟩
              ·
               rw [if_neg c17] at H; have c17b0 : (a0 == 46) = false := beq_eq_false_iff_ne.mpr c17; have c17b1 : (a0 != 46) = true := bne_iff_ne.mpr c17; by_cases c18 : a0 = 58
               ·
                rw [if_pos c18] at H; have c18b0 : (a0 == 58) = true := beq_iff_eq.mpr c18; have c18b1 : (a0 != 58) = false := bne_eq_false_iff_eq.mpr c18; clear c18; have H' := az H; clear H; go_wp2; go_meet
                case rel => exact ⟨_, ((a0 == 58)), zB, H', ⟨zS HJ1.out HJ5.out HJ9.out⟩, zD⟩
               ·
                rw [if_neg c18] at H; have c18b0 : (a0 == 58) = false := beq_eq_false_iff_ne.mpr c18; have c18b1 : (a0 != 58) = true := bne_iff_ne.mpr c18; by_cases c19 : a0 = 59
                ·
                 rw [if_pos c19] at H; have c19b0 : (a0 == 59) = true := beq_iff_eq.mpr c19; have c19b1 : (a0 != 59) = false := bne_eq_false_iff_eq.mpr c19; clear c19; have H' := az H; clear H; go_wp2; go_meet
                 case rel => exact ⟨_, ((a0 == 59)), zB, H', ⟨zS HJ1.out HJ5.out HJ9.out⟩, zD⟩
                ·
                 rw [if_neg c19] at H; have c19b0 : (a0 == 59) = false := beq_eq_false_iff_ne.mpr c19; have c19b1 : (a0 != 59) = true := bne_iff_ne.mpr c19; have H' := az H; clear H; go_wp2; go_meet
                 case rel => exact ⟨_, ((a0 == 47)), zB, H', ⟨zS HJ1.out HJ5.out HJ9.out⟩, zD⟩
            case rest =>
             clear HC15; (try clear c1); (try clear p2); (try clear c3); (try clear c3b0); (try clear c3b1); (try clear c4); (try clear c4b0); (try clear c4b1); (try clear c5); (try clear c7); (try clear c7b0); (try clear c7b1); (try clear c8); (try clear c8b0); (try clear c8b1); (try clear c9); (try clear c11); (try clear c11b0); (try clear c11b1); (try clear c12); (try clear c13); (try clear c13b0); (try clear c13b1); (try clear c14); (try clear c14b0); (try clear c14b1); (try clear c16); (try clear c16b0); (try clear c16b1); (try clear c17); (try clear c17b0); (try clear c17b1); (try clear c18); (try clear c18b0); (try clear c18b1); (try clear c19); (try clear c19b0); (try clear c19b1); (try clear p2); obtain ⟨kq, x19_14, rfl, HA, HJ14, ⟨mc14, rfl⟩⟩ := hcut
             cases kq with
             | zero => exact absurd HA.out (by simp [spec_l5Signs.j3])
             | succ kj14 =>
              have H := HA.out; clear HA; simp only [spec_l5Signs.j3] at H; by_cases c20 : x19_14 = true
              ·
               subst c20; have H1 : (some 13) = some r := by rw [if_pos rfl] at H; exact H
               clear H; have H := H1; clear H1; obtain rfl := Option.some.inj H; go_wp2; go_ret; exact ⟨zB, zD⟩
              ·
               replace c20 := Bool.eq_false_iff.mpr c20; subst c20; have H1 : (if a0 = 9 then (some 14) else (if a0 = 173 then (some 14) else (some 1))) = some r := by rw [if_neg (show ¬ (false = true) by decide)] at H; exact H
               clear H; have H := H1; clear H1; by_cases c21 : a0 = 9
               ·
                rw [if_pos c21] at H; have c21b0 : (a0 == 9) = true := beq_iff_eq.mpr c21; have c21b1 : (a0 != 9) = false := bne_eq_false_iff_eq.mpr c21; clear c21; obtain rfl := Option.some.inj H; go_wp2; go_ret; exact ⟨zB, zD⟩
               ·
                rw [if_neg c21] at H; have c21b0 : (a0 == 9) = false := beq_eq_false_iff_ne.mpr c21; have c21b1 : (a0 != 9) = true := bne_iff_ne.mpr c21; by_cases c22 : a0 = 173
                ·
                 rw [if_pos c22] at H; have c22b0 : (a0 == 173) = true := beq_iff_eq.mpr c22; have c22b1 : (a0 != 173) = false := bne_eq_false_iff_eq.mpr c22; clear c22; obtain rfl := Option.some.inj H; go_wp2; go_ret; exact ⟨zB, zD⟩
                ·
                 rw [if_neg c22] at H; have c22b0 : (a0 == 173) = false := beq_eq_false_iff_ne.mpr c22; have c22b1 : (a0 != 173) = true := bne_iff_ne.mpr c22; obtain rfl := Option.some.inj H; go_wp2; go_ret; exact ⟨zB, zD⟩
mutual
def spec_RuneLine.j0 : Nat → Int → Bool → Option (Int)
 | 0, _, _ => none
 | k + 1, x0, x15 => if x15 = true then (some 7) else ((spec_l1In.f x0 48 57).bind fun t170 => (if t170 = true then (spec_RuneLine.j1 k x0 true) else ((spec_l1In.f x0 1632 1641).bind fun t171 => (spec_RuneLine.j1 k x0 t171))))
def spec_RuneLine.j1 : Nat → Int → Bool → Option (Int)
 | 0, _, _ => none
 | k + 1, x0, x28 => if x28 = true then (some 2) else ((spec_l1In.f x0 19968 40959).bind fun t172 => (if t172 = true then (some 15) else ((spec_l5Signs.f k x0).bind fun t173 => (some t173))))
end
def spec_RuneLine.f (k : Nat) (a0 : Int) : Option (Int) := if a0 = 10 then (some 4) else (if a0 = 32 then (some 3) else (if a0 = 160 then (some 5) else (if a0 = 8203 then (some 6) else ((spec_RuneBidi.f k a0).bind fun t168 => (if t168 = 9 then (spec_RuneLine.j0 k a0 true) else (if a0 = 8205 then (spec_RuneLine.j0 k a0 true) else ((spec_RuneBidi.f k a0).bind fun t169 => (spec_RuneLine.j0 k a0 (decide (t169 ≥ 14))))))))))
theorem spec_RuneLine.mono_l : ∀ k, (∀ y0 y1, LeO (spec_RuneLine.j0 k y0 y1) (spec_RuneLine.j0 (k + 1) y0 y1)) ∧ (∀ y0 y1, LeO (spec_RuneLine.j1 k y0 y1) (spec_RuneLine.j1 (k + 1) y0 y1))
 | 0 => ⟨fun _ _ r h => by simp [spec_RuneLine.j0] at h, fun _ _ r h => by simp [spec_RuneLine.j1] at h⟩
 | k + 1 => by
  obtain ⟨ih0, ih1⟩ := spec_RuneLine.mono_l k; refine ⟨?_, ?_⟩
  ·
   intro y0 y1; unfold spec_RuneLine.j0
   repeat' first
   | (with_reducible exact ih0 _ _)
   | (with_reducible exact ih1 _ _)
   | (with_reducible exact spec_RuneBidi.mono _ _)
   | (with_reducible exact spec_l5Signs.mono _ _)
   | (with_reducible exact LeO.refl _)
   | (with_reducible exact LeO.none _)
   | (with_reducible refine LeO.ite ?_ ?_)
   | (with_reducible refine LeO.bind ?_ (fun _ => ?_))
   | exact ih0 _ _
   | exact ih1 _ _
   | exact spec_RuneBidi.mono _ _
   | exact spec_l5Signs.mono _ _
   | exact LeO.none _
   | refine LeO.ite ?_ ?_
   | refine LeO.bind ?_ (fun _ => ?_)
  ·
   intro y0 y1; unfold spec_RuneLine.j1
   repeat' first
   | (with_reducible exact ih0 _ _)
   | (with_reducible exact ih1 _ _)
   | (with_reducible exact spec_RuneBidi.mono _ _)
   | (with_reducible exact spec_l5Signs.mono _ _)
   | (with_reducible exact LeO.refl _)
   | (with_reducible exact LeO.none _)
   | (with_reducible refine LeO.ite ?_ ?_)
   | (with_reducible refine LeO.bind ?_ (fun _ => ?_))
   | exact ih0 _ _
   | exact ih1 _ _
   | exact spec_RuneBidi.mono _ _
   | exact spec_l5Signs.mono _ _
   | exact LeO.none _
   | refine LeO.ite ?_ ?_
   | refine LeO.bind ?_ (fun _ => ?_)
theorem spec_RuneLine.mono : ∀ a0 k, LeO (spec_RuneLine.f k a0) (spec_RuneLine.f (k + 1) a0) := by
 intro a0 k; obtain ⟨ih0, ih1⟩ := spec_RuneLine.mono_l k; unfold spec_RuneLine.f
 repeat' first
   | (with_reducible exact ih0 _ _)
   | (with_reducible exact ih1 _ _)
   | (with_reducible exact spec_RuneBidi.mono _ _)
   | (with_reducible exact spec_l5Signs.mono _ _)
   | (with_reducible exact LeO.refl _)
   | (with_reducible exact LeO.none _)
   | (with_reducible refine LeO.ite ?_ ?_)
   | (with_reducible refine LeO.bind ?_ (fun _ => ?_))
   | exact ih0 _ _
   | exact ih1 _ _
   | exact spec_RuneBidi.mono _ _
   | exact spec_l5Signs.mono _ _
   | exact LeO.none _
   | refine LeO.ite ?_ ?_
   | refine LeO.bind ?_ (fun _ => ?_)
theorem spec_RuneLine.calls (k : Nat) (a0 : Int) (r : Int) (w : World) (h : spec_RuneLine.f k a0 = some r) :
  Calls Tryz.prog 125 #[.int .i64 a0] w fun e w' => e = .returned (.int .i64 r) ∧ Below w.heap.size w w' := by
 have HB := az (Below.refl w.heap.size w); have H : (if a0 = 10 then (some 4) else (if a0 = 32 then (some 3) else (if a0 = 160 then (some 5) else (if a0 = 8203 then (some 6) else ((spec_RuneBidi.f k a0).bind fun t168 => (if t168 = 9 then (spec_RuneLine.j0 k a0 true) else (if a0 = 8205 then (spec_RuneLine.j0 k a0 true) else ((spec_RuneBidi.f k a0).bind fun t169 => (spec_RuneLine.j0 k a0 (decide (t169 ≥ 14))))))))))) = some r := h; clear h; by_cases c2 : a0 = 10
 ·
  rw [if_pos c2] at H; have c2b0 : (a0 == 10) = true := beq_iff_eq.mpr c2; have c2b1 : (a0 != 10) = false := bne_eq_false_iff_eq.mpr c2; clear c2; obtain rfl := Option.some.inj H; go_enter Tryz.func125, Tryz.ntmps125; go_wp2; go_ret; exact ⟨zG, zA HB.out⟩
 ·
  rw [if_neg c2] at H; have c2b0 : (a0 == 10) = false := beq_eq_false_iff_ne.mpr c2; have c2b1 : (a0 != 10) = true := bne_iff_ne.mpr c2; by_cases c3 : a0 = 32
  ·
   rw [if_pos c3] at H; have c3b0 : (a0 == 32) = true := beq_iff_eq.mpr c3; have c3b1 : (a0 != 32) = false := bne_eq_false_iff_eq.mpr c3; clear c3; obtain rfl := Option.some.inj H; go_enter Tryz.func125, Tryz.ntmps125; go_wp2; go_ret; exact ⟨zG, zA HB.out⟩
  ·
   rw [if_neg c3] at H; have c3b0 : (a0 == 32) = false := beq_eq_false_iff_ne.mpr c3; have c3b1 : (a0 != 32) = true := bne_iff_ne.mpr c3; by_cases c4 : a0 = 160
   ·
    rw [if_pos c4] at H; have c4b0 : (a0 == 160) = true := beq_iff_eq.mpr c4; have c4b1 : (a0 != 160) = false := bne_eq_false_iff_eq.mpr c4; clear c4; obtain rfl := Option.some.inj H; go_enter Tryz.func125, Tryz.ntmps125; go_wp2; go_ret; exact ⟨zG, zA HB.out⟩
   ·
    rw [if_neg c4] at H; have c4b0 : (a0 == 160) = false := beq_eq_false_iff_ne.mpr c4; have c4b1 : (a0 != 160) = true := bne_iff_ne.mpr c4; by_cases c5 : a0 = 8203
    ·
     rw [if_pos c5] at H; have c5b0 : (a0 == 8203) = true := beq_iff_eq.mpr c5; have c5b1 : (a0 != 8203) = false := bne_eq_false_iff_eq.mpr c5; clear c5; obtain rfl := Option.some.inj H; go_enter Tryz.func125, Tryz.ntmps125; go_wp2; go_ret; exact ⟨zG, zA HB.out⟩
    ·
     rw [if_neg c5] at H; have c5b0 : (a0 == 8203) = false := beq_eq_false_iff_ne.mpr c5; have c5b1 : (a0 != 8203) = true := bne_iff_ne.mpr c5; have HC6 := az H; clear H; go_enter Tryz.func125, Tryz.ntmps125; go_upto_region 9 with (fail)
     go_cut [15] (fun v15 wc => ∃ (kq : Nat) (x15_5 : Bool), v15 = .bool x15_5 ∧ Aside0 (spec_RuneLine.j0 kq a0 x15_5 = some r) ∧ Aside0 (kq ≤ k) ∧ Aside0 (Below w.heap.size w wc))
     case first =>
      have H := HC6.out; clear HC6; replace H := Option.bind_eq_some_iff.mp H; obtain ⟨t168, A70, H⟩ := H; replace H : (if t168 = 9 then (spec_RuneLine.j0 k a0 true) else (if a0 = 8205 then (spec_RuneLine.j0 k a0 true) else ((spec_RuneBidi.f k a0).bind fun t169 => (spec_RuneLine.j0 k a0 (decide (t169 ≥ 14)))))) = some r := H; have A7 := az A70; clear A70; by_cases c8 : t168 = 9
      ·
       rw [if_pos c8] at H; have c8b0 : (t168 == 9) = true := beq_iff_eq.mpr c8; have c8b1 : (t168 != 9) = false := bne_eq_false_iff_eq.mpr c8; clear c8; (first | rw [c8b0] | (simp only [i64_w, i32_w]; rw [c8b0]) | skip); have H' := az H; clear H; go_wp2_with (first | ((with_reducible refine gate_callee (f := 137) rfl ?_); refine goesL_ (some 17) rfl rfl Tryz.func137 (by kernel_rfl) rfl #[.int .i64 a0] rfl zC ?_; (with_reducible refine (spec_RuneBidi.calls k a0 t168 _ A7.out).mono ?_); rintro e w9 ⟨rfl, hb⟩; refine ⟨_, rfl, ?_⟩; have n0_ := az (below_step (zA HB.out) hb); clear HB; have HB := n0_; clear n0_; (try clear hb); (try clear hb2); (try clear hk); (try clear hi))); go_meet
       case rel => exact ⟨_, (true), zB, H', ⟨zI⟩, ⟨zA HB.out⟩⟩
      ·
       rw [if_neg c8] at H; have c8b0 : (t168 == 9) = false := beq_eq_false_iff_ne.mpr c8; have c8b1 : (t168 != 9) = true := bne_iff_ne.mpr c8; (first | rw [c8b0] | (simp only [i64_w, i32_w]; rw [c8b0]) | skip); by_cases c10 : a0 = 8205
       ·
        rw [if_pos c10] at H; have c10b0 : (a0 == 8205) = true := beq_iff_eq.mpr c10; have c10b1 : (a0 != 8205) = false := bne_eq_false_iff_eq.mpr c10; clear c10; have H' := az H; clear H; go_wp2_with (first | ((with_reducible refine gate_callee (f := 137) rfl ?_); refine goesL_ (some 17) rfl rfl Tryz.func137 (by kernel_rfl) rfl #[.int .i64 a0] rfl zC ?_; (with_reducible refine (spec_RuneBidi.calls k a0 t168 _ A7.out).mono ?_); rintro e w11 ⟨rfl, hb⟩; refine ⟨_, rfl, ?_⟩; have n0_ := az (below_step (zA HB.out) hb); clear HB; have HB := n0_; clear n0_; (try clear hb); (try clear hb2); (try clear hk); (try clear hi))); go_meet
        case rel => exact ⟨_, (true), zB, H', ⟨zI⟩, ⟨zA HB.out⟩⟩
       ·
        rw [if_neg c10] at H; have c10b0 : (a0 == 8205) = false := beq_eq_false_iff_ne.mpr c10; have c10b1 : (a0 != 8205) = true := bne_iff_ne.mpr c10; replace H := Option.bind_eq_some_iff.mp H; obtain ⟨t169, A120, H⟩ := H; replace H : (spec_RuneLine.j0 k a0 (decide (t169 ≥ 14))) = some r := H; have A12 := az A120; clear A120; have H' := az H; clear H; go_wp2_with (first | ((with_reducible refine gate_callee (f := 137) rfl ?_); refine goesL_ (some 17) rfl rfl Tryz.func137 (by kernel_rfl) rfl #[.int .i64 a0] rfl zC ?_; (with_reducible refine (spec_RuneBidi.calls k a0 t168 _ A7.out).mono ?_); rintro e w13 ⟨rfl, hb⟩; refine ⟨_, rfl, ?_⟩; have n0_ := az (below_step (zA HB.out) hb); clear HB; have HB := n0_; clear n0_; (try clear hb); (try clear hb2); (try clear hk); (try clear hi)) | (go_at_call 137; (with_reducible refine (spec_RuneBidi.calls k a0 t169 _ A12.out).mono ?_); rintro e w14 ⟨rfl, hb⟩; have n0_ := az (below_step (zA HB.out) hb); clear HB; have HB := n0_; clear n0_; (try clear hb); (try clear hb2); (try clear hk); (try clear hi))); go_meet
        case rel => exact ⟨_, (decide (t169 ≥ 14)), zB, H', ⟨zI⟩, ⟨zA HB.out⟩⟩
     case rest =>
      clear HC6; (try clear c1); (try clear c2); (try clear c2b0); (try clear c2b1); (try clear p2); (try clear c3); (try clear c3b0); (try clear c3b1); (try clear c4); (try clear c4b0); (try clear c4b1); (try clear c5); (try clear c5b0); (try clear c5b1); (try clear c8); (try clear c8b0); (try clear c8b1); (try clear c10); (try clear c10b0); (try clear c10b1); (try clear c12); (try clear c13); obtain ⟨kq, x15_5, rfl, HA, HJ5, HB⟩ := hcut
      cases kq with
      | zero => exact absurd HA.out (by simp [spec_RuneLine.j0])
      | succ kj5 =>
       have H := HA.out; clear HA; simp only [spec_RuneLine.j0] at H; by_cases c15 : x15_5 = true
       ·
        subst c15; have H1 : (some 7) = some r := by rw [if_pos rfl] at H; exact H
        clear H; have H := H1; clear H1; obtain rfl := Option.some.inj H; go_wp2; go_ret; exact ⟨zG, zA HB.out⟩
       ·
        replace c15 := Bool.eq_false_iff.mpr c15; subst c15; have H1 : ((spec_l1In.f a0 48 57).bind fun t170 => (if t170 = true then (spec_RuneLine.j1 kj5 a0 true) else ((spec_l1In.f a0 1632 1641).bind fun t171 => (spec_RuneLine.j1 kj5 a0 t171)))) = some r := by rw [if_neg (show ¬ (false = true) by decide)] at H; exact H
        clear H; have H := H1; clear H1; have HC16 := az H; clear H; go_upto_region 11 with (fail)
        go_cut [28] (fun v28 wc => ∃ (kq : Nat) (x28_15 : Bool), v28 = .bool x28_15 ∧ Aside0 (spec_RuneLine.j1 kq a0 x28_15 = some r) ∧ Aside0 (kq ≤ kj5) ∧ Aside0 (Below w.heap.size w wc))
        case first =>
         have H := HC16.out; clear HC16; replace H := Option.bind_eq_some_iff.mp H; obtain ⟨t170, A170, H⟩ := H; replace H : (if t170 = true then (spec_RuneLine.j1 kj5 a0 true) else ((spec_l1In.f a0 1632 1641).bind fun t171 => (spec_RuneLine.j1 kj5 a0 t171))) = some r := H; have A17 := az A170; clear A170; by_cases c18 : t170 = true
         ·
          subst c18; have H1 : (spec_RuneLine.j1 kj5 a0 true) = some r := by rw [if_pos rfl] at H; exact H
          clear H; have H := H1; clear H1; have H' := az H; clear H; go_wp2_with (first | ((with_reducible refine gate_callee (f := 36) rfl ?_); refine goesL_ (some 30) rfl rfl Tryz.func36 (by kernel_rfl) rfl #[.int .i64 a0, .int .i64 48, .int .i64 57] rfl zC ?_; (with_reducible refine (spec_l1In.calls a0 48 57 true _ A17.out).mono ?_); rintro e w' ⟨rfl, ⟨nd, rfl⟩⟩; refine ⟨_, rfl, ?_⟩)); go_meet
          case rel => exact ⟨_, (true), zB, H', ⟨zJ HJ5.out⟩, ⟨zA HB.out⟩⟩
         ·
          replace c18 := Bool.eq_false_iff.mpr c18; subst c18; have H1 : ((spec_l1In.f a0 1632 1641).bind fun t171 => (spec_RuneLine.j1 kj5 a0 t171)) = some r := by rw [if_neg (show ¬ (false = true) by decide)] at H; exact H
          clear H; have H := H1; clear H1; replace H := Option.bind_eq_some_iff.mp H; obtain ⟨t171, A190, H⟩ := H; replace H : (spec_RuneLine.j1 kj5 a0 t171) = some r := H; have A19 := az A190; clear A190; have H' := az H; clear H; go_wp2_with (first | ((with_reducible refine gate_callee (f := 36) rfl ?_); refine goesL_ (some 30) rfl rfl Tryz.func36 (by kernel_rfl) rfl #[.int .i64 a0, .int .i64 48, .int .i64 57] rfl zC ?_; (with_reducible refine (spec_l1In.calls a0 48 57 false _ A17.out).mono ?_); rintro e w' ⟨rfl, ⟨nd, rfl⟩⟩; refine ⟨_, rfl, ?_⟩) | (go_at_call 36; (with_reducible refine (spec_l1In.calls a0 1632 1641 t171 _ A19.out).mono ?_); rintro e w' ⟨rfl, ⟨nd, rfl⟩⟩)); go_meet
          case rel => exact ⟨_, (t171), zB, H', ⟨zJ HJ5.out⟩, ⟨zA HB.out⟩⟩
        case rest =>
         clear HC16; (try clear c1); (try clear c2); (try clear c2b0); (try clear c2b1); (try clear p2); (try clear c3); (try clear c3b0); (try clear c3b1); (try clear c4); (try clear c4b0); (try clear c4b1); (try clear c5); (try clear c5b0); (try clear c5b1); (try clear c8); (try clear c8b0); (try clear c8b1); (try clear c10); (try clear c10b0); (try clear c10b1); (try clear c12); (try clear c13); (try clear c15); (try clear c18); (try clear p2); obtain ⟨kq, x28_15, rfl, HA, HJ15, HB⟩ := hcut
         cases kq with
         | zero => exact absurd HA.out (by simp [spec_RuneLine.j1])
         | succ kj15 =>
          have H := HA.out; clear HA; simp only [spec_RuneLine.j1] at H; by_cases c20 : x28_15 = true
          ·
           subst c20; have H1 : (some 2) = some r := by rw [if_pos rfl] at H; exact H
           clear H; have H := H1; clear H1; obtain rfl := Option.some.inj H; go_wp2; go_ret; exact ⟨zG, zA HB.out⟩
          ·
           replace c20 := Bool.eq_false_iff.mpr c20; subst c20; have H1 : ((spec_l1In.f a0 19968 40959).bind fun t172 => (if t172 = true then (some 15) else ((spec_l5Signs.f kj15 a0).bind fun t173 => (some t173)))) = some r := by rw [if_neg (show ¬ (false = true) by decide)] at H; exact H
           clear H; have H := H1; clear H1; replace H := Option.bind_eq_some_iff.mp H; obtain ⟨t172, A210, H⟩ := H; replace H : (if t172 = true then (some 15) else ((spec_l5Signs.f kj15 a0).bind fun t173 => (some t173))) = some r := H; have A21 := az A210; clear A210; by_cases c22 : t172 = true
           ·
            subst c22; have H1 : (some 15) = some r := by rw [if_pos rfl] at H; exact H
            clear H; have H := H1; clear H1; obtain rfl := Option.some.inj H; go_wp2_with (first | ((with_reducible refine gate_callee (f := 36) rfl ?_); refine goesL_ (some 37) rfl rfl Tryz.func36 (by kernel_rfl) rfl #[.int .i64 a0, .int .i64 19968, .int .i64 40959] rfl zC ?_; (with_reducible refine (spec_l1In.calls a0 19968 40959 true _ A21.out).mono ?_); rintro e w' ⟨rfl, ⟨nd, rfl⟩⟩; refine ⟨_, rfl, ?_⟩)); go_ret; exact ⟨zG, zA HB.out⟩
           ·
            replace c22 := Bool.eq_false_iff.mpr c22; subst c22; have H1 : ((spec_l5Signs.f kj15 a0).bind fun t173 => (some t173)) = some r := by rw [if_neg (show ¬ (false = true) by decide)] at H; exact H
            clear H; have H := H1; clear H1; replace H := Option.bind_eq_some_iff.mp H; obtain ⟨t173, A230, H⟩ := H; replace H : (some t173) = some r := H; have A23 := az A230; clear A230; obtain rfl := Option.some.inj H; go_wp2_with (first | ((with_reducible refine gate_callee (f := 36) rfl ?_); refine goesL_ (some 37) rfl rfl Tryz.func36 (by kernel_rfl) rfl #[.int .i64 a0, .int .i64 19968, .int .i64 40959] rfl zC ?_; (with_reducible refine (spec_l1In.calls a0 19968 40959 false _ A21.out).mono ?_); rintro e w' ⟨rfl, ⟨nd, rfl⟩⟩; refine ⟨_, rfl, ?_⟩) | ((with_reducible refine gate_callee (f := 139) rfl ?_); refine goesL_ (some 39) rfl rfl Tryz.func139 (by kernel_rfl) rfl #[.int .i64 a0] rfl zC ?_; (with_reducible refine (spec_l5Signs.calls kj15 a0 t173 _ A23.out).mono ?_); rintro e w' ⟨rfl, ⟨nd, rfl⟩⟩; refine ⟨_, rfl, ?_⟩)); go_ret; exact ⟨zG, zA HB.out⟩
def spec_l5Counts.l0 : Nat → List Int → List Int → Int → Option (List Int)
 | 0, _, _, _ => none
 | k + 1, x0, x3, x4 => if x4 < (x0.length : Int) then (if 0 ≤ x4 then ((spec_RuneLine.f k (rd x0 x4)).bind fun t178 => (if t178 = 7 then (if x4 > 0 then (if 0 ≤ (wrap64 (x4 - 1)) then (if (wrap64 (x4 - 1)) < (x3.length : Int) then (if (rd x3 (wrap64 (x4 - 1))) = 3 then (if x3.length < 17592186044416 then (spec_l5Counts.l0 k x0 (x3 ++ [1]) (wrap64 (x4 + 1))) else (none)) else (if (rd x3 (wrap64 (x4 - 1))) = 4 then (if x3.length < 17592186044416 then (spec_l5Counts.l0 k x0 (x3 ++ [1]) (wrap64 (x4 + 1))) else (none)) else (if (rd x3 (wrap64 (x4 - 1))) = 6 then (if x3.length < 17592186044416 then (spec_l5Counts.l0 k x0 (x3 ++ [1]) (wrap64 (x4 + 1))) else (none)) else (if x3.length < 17592186044416 then (spec_l5Counts.l0 k x0 (x3 ++ [rd x3 (wrap64 (x4 - 1))]) (wrap64 (x4 + 1))) else (none))))) else (none)) else (none)) else (if x3.length < 17592186044416 then (spec_l5Counts.l0 k x0 (x3 ++ [1]) (wrap64 (x4 + 1))) else (none))) else (if x3.length < 17592186044416 then (spec_l5Counts.l0 k x0 (x3 ++ [t178]) (wrap64 (x4 + 1))) else (none)))) else (none)) else (some x3)
def spec_l5Counts.f (k : Nat) (l0 : List Int) : Option (List Int) := spec_l5Counts.l0 k l0 (([] : List Int)) 0
theorem spec_l5Counts.mono_l : ∀ k, (∀ y0 y1 y2, LeO (spec_l5Counts.l0 k y0 y1 y2) (spec_l5Counts.l0 (k + 1) y0 y1 y2))
 | 0 => fun _ _ _ r h => by simp [spec_l5Counts.l0] at h
 | k + 1 => by
  have ih0 := spec_l5Counts.mono_l k
  ·
   intro y0 y1 y2; unfold spec_l5Counts.l0
   repeat' first
   | (with_reducible exact ih0 _ _ _)
   | (with_reducible exact spec_RuneLine.mono _ _)
   | (with_reducible exact LeO.refl _)
   | (with_reducible exact LeO.none _)
   | (with_reducible refine LeO.ite ?_ ?_)
   | (with_reducible refine LeO.bind ?_ (fun _ => ?_))
   | exact ih0 _ _ _
   | exact spec_RuneLine.mono _ _
   | exact LeO.none _
   | refine LeO.ite ?_ ?_
   | refine LeO.bind ?_ (fun _ => ?_)
theorem spec_l5Counts.mono : ∀ a0 k, LeO (spec_l5Counts.f k a0) (spec_l5Counts.f (k + 1) a0) := by
 intro a0 k; have ih0 := spec_l5Counts.mono_l k; unfold spec_l5Counts.f
 repeat' first
   | (with_reducible exact ih0 _ _ _)
   | (with_reducible exact spec_RuneLine.mono _ _)
   | (with_reducible exact LeO.refl _)
   | (with_reducible exact LeO.none _)
   | (with_reducible refine LeO.ite ?_ ?_)
   | (with_reducible refine LeO.bind ?_ (fun _ => ?_))
   | exact ih0 _ _ _
   | exact spec_RuneLine.mono _ _
   | exact LeO.none _
   | refine LeO.ite ?_ ?_
   | refine LeO.bind ?_ (fun _ => ?_)
theorem spec_l5Counts.calls (k : Nat) (A0 : Option Addr) (c0 : Nat) (l0 : List Int) (r : List Int) (w : World) (hr0 : Kd.C (Kd.int .i64) w A0 l0.length l0) (hc0 : l0.length ≤ c0) (h : spec_l5Counts.f k l0 = some r) :
  Calls Tryz.prog 123 #[.slice A0 l0.length c0] w fun e w' => ∃ v0_ : Value, e = .returned (v0_) ∧ Kd.R (Kd.int .i64) 3 w' w.heap.size (fun _ => True) v0_ r ∧ Below w.heap.size w w' := by
 have HR0 := az hr0; have HC0 := az hc0; clear hr0 hc0; have HB := az (Below.refl w.heap.size w); have H : (spec_l5Counts.l0 k l0 (([] : List Int)) 0) = some r := h; clear h; obtain ⟨y174, hy174⟩ : ∃ y_ : List Int, y_ = (([] : List Int)) := ⟨_, rfl⟩; replace H : (spec_l5Counts.l0 k l0 y174 0) = some r := by first | (rw [hy174]; with_reducible exact H) | (have H2_ := (Option.bind_some _ _).symm.trans H; rw [hy174]; with_reducible exact H2_) | (have H2_ := (Option.bind_some _ _).symm.trans H; with_reducible exact H2_) | with_reducible exact H | (rw [hy174]; exact H) | exact H
 have Ny174 := az hy174; clear hy174; have H' := az H; clear H; go_enter Tryz.func123, Tryz.ntmps123; go_wp2_with (first | ((with_reducible refine gate_dst (N := 6) rfl ?_); refine Kd.R_lit (Kd.int .i64) _ 3 ?hg (N := 6) ?hd (xs := ([] : List Int)) (inner := []) (ok := fun _ => True) (okp := fun _ => True) ?hr ?hp (fun _ hk => hk) trivial (Below.refl _ _) (Nat.le_refl _) (by simp) ?_; (case hd => rfl); (case hg => rfl); (case hr => first | (go_simp; done) | (go_simp; rfl)); (case hp => exact (Reps.none _ _)); intro v175 w2 ho3 hb hg_ hnew_; clear hg_ hnew_; (first | rw [← Ny174.out] at ho3 | (simp only [Int.reduceToNat] at ho3; rw [← Ny174.out] at ho3)); have n0_ := az (Kd.R_lower ho3 (below_size (zA HB.out))); have n1_ := az (below_step (zA HB.out) hb); clear HB; have HO176 := n0_; have HB := n1_; clear n0_ n1_; clear hb ho3)); go_loopg [3, 4] k (fun kq v3 v4 w' => ∃ (x3_1 : List Int) (x4_1 : Int), v4 = .int .i64 x4_1 ∧ Aside0 (spec_l5Counts.l0 kq l0 x3_1 x4_1 = some r) ∧ Aside0 (kq ≤ k) ∧ Aside0 (Kd.R (Kd.int .i64) 3 w' w.heap.size (fun _ => True) v3 x3_1) ∧ Aside0 (Below w.heap.size w w'))
 case atStart => exact ⟨(y174), (0), zB, H', ⟨Nat.le_refl _⟩, ⟨zF HO176.out⟩, ⟨zA HB.out⟩⟩
 case round =>
  clear H'; (try clear c1); (try clear p2); obtain ⟨x3_1, x4_1, rfl, HA, HK1, HO_3, HB⟩ := hrel
  cases gk with
  | zero => exact absurd HA.out (by simp [spec_l5Counts.l0])
  | succ k1 =>
   have H := HA.out; clear HA; simp only [spec_l5Counts.l0] at H; by_cases c4 : x4_1 < (l0.length : Int)
   ·
    rw [if_pos c4] at H; have c4b0 : decide (x4_1 < (l0.length : Int)) = true := decide_eq_true c4; clear c4; by_cases c5 : 0 ≤ x4_1
    ·
     rw [if_pos c5] at H; have c5b0 : decide (0 ≤ x4_1) = true := decide_eq_true c5; clear c5; replace H := Option.bind_eq_some_iff.mp H; obtain ⟨t178, A60, H⟩ := H; replace H : (if t178 = 7 then (if x4_1 > 0 then (if 0 ≤ (wrap64 (x4_1 - 1)) then (if (wrap64 (x4_1 - 1)) < (x3_1.length : Int) then (if (rd x3_1 (wrap64 (x4_1 - 1))) = 3 then (if x3_1.length < 17592186044416 then (spec_l5Counts.l0 k1 l0 (x3_1 ++ [1]) (wrap64 (x4_1 + 1))) else (none)) else (if (rd x3_1 (wrap64 (x4_1 - 1))) = 4 then (if x3_1.length < 17592186044416 then (spec_l5Counts.l0 k1 l0 (x3_1 ++ [1]) (wrap64 (x4_1 + 1))) else (none)) else (if (rd x3_1 (wrap64 (x4_1 - 1))) = 6 then (if x3_1.length < 17592186044416 then (spec_l5Counts.l0 k1 l0 (x3_1 ++ [1]) (wrap64 (x4_1 + 1))) else (none)) else (if x3_1.length < 17592186044416 then (spec_l5Counts.l0 k1 l0 (x3_1 ++ [rd x3_1 (wrap64 (x4_1 - 1))]) (wrap64 (x4_1 + 1))) else (none))))) else (none)) else (none)) else (if x3_1.length < 17592186044416 then (spec_l5Counts.l0 k1 l0 (x3_1 ++ [1]) (wrap64 (x4_1 + 1))) else (none))) else (if x3_1.length < 17592186044416 then (spec_l5Counts.l0 k1 l0 (x3_1 ++ [t178]) (wrap64 (x4_1 + 1))) else (none))) = some r := H; have A6 := az A60; clear A60; by_cases c7 : t178 = 7
     ·
      rw [if_pos c7] at H; have c7b0 : (t178 == 7) = true := beq_iff_eq.mpr c7; have c7b1 : (t178 != 7) = false := bne_eq_false_iff_eq.mpr c7; clear c7; by_cases c8 : x4_1 > 0
      ·
       rw [if_pos c8] at H; have c8b0 : decide (0 < x4_1) = true := decide_eq_true c8; clear c8; obtain ⟨ji9, hji9⟩ : ∃ j_ : Int, (wrap64 (x4_1 - 1)) = j_ := ⟨_, rfl⟩; replace H : (if 0 ≤ (ji9) then (if (ji9) < (x3_1.length : Int) then (if (rd x3_1 (ji9)) = 3 then (if x3_1.length < 17592186044416 then (spec_l5Counts.l0 k1 l0 (x3_1 ++ [1]) (wrap64 (x4_1 + 1))) else (none)) else (if (rd x3_1 (ji9)) = 4 then (if x3_1.length < 17592186044416 then (spec_l5Counts.l0 k1 l0 (x3_1 ++ [1]) (wrap64 (x4_1 + 1))) else (none)) else (if (rd x3_1 (ji9)) = 6 then (if x3_1.length < 17592186044416 then (spec_l5Counts.l0 k1 l0 (x3_1 ++ [1]) (wrap64 (x4_1 + 1))) else (none)) else (if x3_1.length < 17592186044416 then (spec_l5Counts.l0 k1 l0 (x3_1 ++ [rd x3_1 (ji9)]) (wrap64 (x4_1 + 1))) else (none))))) else (none)) else (none)) = some r := by first | (rw [hji9] at H; exact H) | (simp only [hji9] at H ⊢; exact H)
       (try rw [hji9] at A6); have hji9w : (IntKind.i64.wrap (x4_1 - 1)) = ji9 := (i64_w _).trans hji9; by_cases c10 : 0 ≤ (ji9)
       ·
        rw [if_pos c10] at H; have c10b0 : decide (0 ≤ (ji9)) = true := decide_eq_true c10; clear c10; by_cases c11 : (ji9) < (x3_1.length : Int)
        ·
         rw [if_pos c11] at H; have c11b0 : decide ((ji9) < (x3_1.length : Int)) = true := decide_eq_true c11; clear c11; by_cases c12 : (rd x3_1 (ji9)) = 3
         ·
          rw [if_pos c12] at H; have c12b0 : ((rd x3_1 (ji9)) == 3) = true := beq_iff_eq.mpr c12; have c12b1 : ((rd x3_1 (ji9)) != 3) = false := bne_eq_false_iff_eq.mpr c12; clear c12; by_cases c13 : x3_1.length < 17592186044416
          ·
           rw [if_pos c13] at H; have LMc13 := az c13; clear c13; obtain ⟨y180, hy180⟩ : ∃ y_ : List Int, y_ = (x3_1 ++ [1]) := ⟨_, rfl⟩; replace H : (spec_l5Counts.l0 k1 l0 y180 (wrap64 (x4_1 + 1))) = some r := by first | (rw [hy180]; with_reducible exact H) | (have H2_ := (Option.bind_some _ _).symm.trans H; rw [hy180]; with_reducible exact H2_) | (have H2_ := (Option.bind_some _ _).symm.trans H; with_reducible exact H2_) | with_reducible exact H | (rw [hy180]; exact H) | exact H
           have Ny180 := az hy180; clear hy180; have H' := az H; clear H; have p177 : 0 ≤ (x4_1 : Int) := of_decide_eq_true (by assumption); have q177 : x4_1 < (l0.length : Int) := of_decide_eq_true (by assumption); obtain ⟨ad177, e177, hx177_0⟩ := Kd.at_int HR0.out x4_1 p177 q177
           cases e177
           replace hx177_0 := (HB.out.cell (World.block_lt_of_cell? w _ hx177_0)).trans hx177_0; replace p177 := eq_true p177; replace q177 := eq_true q177; go_wp2_with (first | ((with_reducible refine gate_callee (f := 125) rfl ?_); refine goesL_ (some 17) rfl rfl Tryz.func125 (by kernel_rfl) rfl #[.int .i64 (rd l0 x4_1)] rfl zC ?_; (with_reducible refine (spec_RuneLine.calls k1 (rd l0 x4_1) t178 _ A6.out).mono ?_); rintro e w14 ⟨rfl, hb⟩; refine ⟨_, rfl, ?_⟩; have n0_ := az (Kd.R_below (zF HO_3.out) hb); have n1_ := az (below_step (zA HB.out) hb); clear HO_3; clear HB; have HO_3 := n0_; have HB := n1_; clear n0_ n1_; (try clear hb); (try clear hb2); (try clear hk); (try clear hi); obtain ⟨Ao15, co15, eo15⟩ := Kd.R_slice HO_3.out; subst eo15; have p179 : 0 ≤ ((ji9) : Int) := of_decide_eq_true (by assumption); have q179 : (ji9) < (x3_1.length : Int) := of_decide_eq_true (by assumption); obtain ⟨ad179, e179, hx179_0⟩ := Kd.at_int (Kd.R_reads' HO_3.out).2.2 (ji9) p179 q179; cases e179; replace p179 := eq_true p179; replace q179 := eq_true q179) | ((with_reducible refine gate_builtin (b := .append) (xs := #[.tmp 51, .tmp 53]) rfl ?_); at_builtin; refine Kd.R_append (Kd.int .i64) (w0 := w) w.heap.size rfl (.tmp 51) (.tmp 53) 22 3 (.int .i64 0) 8 rfl Tryz.underlying22 info3 rfl (by decide) (by omega) (.slice (some ad179) x3_1.length co15) x3_1 1 [.int .i64 1] (fun _ => True) (fun _ => False) rfl rfl ?aP (fun _ hk => hk.elim) ?aF ?aO ?aB ?aS ?aL ?_; (case aP => exact rfl); (case aB => exact (zA HB.out)); (case aF => exact (fun _ _ => trivial)); (case aO => exact (zF HO_3.out)); (case aS => exact (below_size (zA HB.out))); (case aL => have := LMc13.out; omega); intro v181 w16 ho hb hg hat; rw [← Ny180.out] at ho; have n0_ := az (hb); have n1_ := az (ho); clear HB; clear HO_3; have HB := n0_; have HO182 := n1_; clear n0_ n1_; clear ho hb hg hat)); go_roundg k1
           case measure => have := HK1.out; omega
           case rel => exact ⟨(y180), (wrap64 (x4_1 + 1)), zB, H', ⟨zE HK1.out⟩, ⟨zF HO182.out⟩, ⟨zA HB.out⟩⟩
          ·
           rw [if_neg c13] at H; exact absurd H (by simp)
         ·
          rw [if_neg c12] at H; have c12b0 : ((rd x3_1 (ji9)) == 3) = false := beq_eq_false_iff_ne.mpr c12; have c12b1 : ((rd x3_1 (ji9)) != 3) = true := bne_iff_ne.mpr c12; by_cases c17 : (rd x3_1 (ji9)) = 4
          ·
           rw [if_pos c17] at H; have c17b0 : ((rd x3_1 (ji9)) == 4) = true := beq_iff_eq.mpr c17; have c17b1 : ((rd x3_1 (ji9)) != 4) = false := bne_eq_false_iff_eq.mpr c17; clear c17; by_cases c18 : x3_1.length < 17592186044416
           ·
            rw [if_pos c18] at H; have LMc18 := az c18; clear c18; obtain ⟨y184, hy184⟩ : ∃ y_ : List Int, y_ = (x3_1 ++ [1]) := ⟨_, rfl⟩; replace H : (spec_l5Counts.l0 k1 l0 y184 (wrap64 (x4_1 + 1))) = some r := by first | (rw [hy184]; with_reducible exact H) | (have H2_ := (Option.bind_some _ _).symm.trans H; rw [hy184]; with_reducible exact H2_) | (have H2_ := (Option.bind_some _ _).symm.trans H; with_reducible exact H2_) | with_reducible exact H | (rw [hy184]; exact H) | exact H
            have Ny184 := az hy184; clear hy184; have H' := az H; clear H; have p177 : 0 ≤ (x4_1 : Int) := of_decide_eq_true (by assumption); have q177 : x4_1 < (l0.length : Int) := of_decide_eq_true (by assumption); obtain ⟨ad177, e177, hx177_0⟩ := Kd.at_int HR0.out x4_1 p177 q177
            cases e177
            replace hx177_0 := (HB.out.cell (World.block_lt_of_cell? w _ hx177_0)).trans hx177_0; replace p177 := eq_true p177; replace q177 := eq_true q177; go_wp2_with (first | ((with_reducible refine gate_callee (f := 125) rfl ?_); refine goesL_ (some 17) rfl rfl Tryz.func125 (by kernel_rfl) rfl #[.int .i64 (rd l0 x4_1)] rfl zC ?_; (with_reducible refine (spec_RuneLine.calls k1 (rd l0 x4_1) t178 _ A6.out).mono ?_); rintro e w19 ⟨rfl, hb⟩; refine ⟨_, rfl, ?_⟩; have n0_ := az (Kd.R_below (zF HO_3.out) hb); have n1_ := az (below_step (zA HB.out) hb); clear HO_3; clear HB; have HO_3 := n0_; have HB := n1_; clear n0_ n1_; (try clear hb); (try clear hb2); (try clear hk); (try clear hi); obtain ⟨Ao20, co20, eo20⟩ := Kd.R_slice HO_3.out; subst eo20; have p179 : 0 ≤ ((ji9) : Int) := of_decide_eq_true (by assumption); have q179 : (ji9) < (x3_1.length : Int) := of_decide_eq_true (by assumption); obtain ⟨ad179, e179, hx179_0⟩ := Kd.at_int (Kd.R_reads' HO_3.out).2.2 (ji9) p179 q179; cases e179; replace p179 := eq_true p179; replace q179 := eq_true q179; have p183 : 0 ≤ ((ji9) : Int) := of_decide_eq_true (by assumption); have q183 : (ji9) < (x3_1.length : Int) := of_decide_eq_true (by assumption); obtain ⟨ad183, e183, hx183_0⟩ := Kd.at_int (Kd.R_reads' HO_3.out).2.2 (ji9) p183 q183; obtain rfl : ad179 = ad183 := (by injection e183); replace p183 := eq_true p183; replace q183 := eq_true q183) | ((with_reducible refine gate_builtin (b := .append) (xs := #[.tmp 51, .tmp 53]) rfl ?_); at_builtin; refine Kd.R_append (Kd.int .i64) (w0 := w) w.heap.size rfl (.tmp 51) (.tmp 53) 22 3 (.int .i64 0) 8 rfl Tryz.underlying22 info3 rfl (by decide) (by omega) (.slice (some ad179) x3_1.length co20) x3_1 1 [.int .i64 1] (fun _ => True) (fun _ => False) rfl rfl ?aP (fun _ hk => hk.elim) ?aF ?aO ?aB ?aS ?aL ?_; (case aP => exact rfl); (case aB => exact (zA HB.out)); (case aF => exact (fun _ _ => trivial)); (case aO => exact (zF HO_3.out)); (case aS => exact (below_size (zA HB.out))); (case aL => have := LMc18.out; omega); intro v185 w21 ho hb hg hat; rw [← Ny184.out] at ho; have n0_ := az (hb); have n1_ := az (ho); clear HB; clear HO_3; have HB := n0_; have HO186 := n1_; clear n0_ n1_; clear ho hb hg hat)); go_roundg k1
            case measure => have := HK1.out; omega
            case rel => exact ⟨(y184), (wrap64 (x4_1 + 1)), zB, H', ⟨zE HK1.out⟩, ⟨zF HO186.out⟩, ⟨zA HB.out⟩⟩
           ·
            rw [if_neg c18] at H; exact absurd H (by simp)
          ·
           rw [if_neg c17] at H; have c17b0 : ((rd x3_1 (ji9)) == 4) = false := beq_eq_false_iff_ne.mpr c17; have c17b1 : ((rd x3_1 (ji9)) != 4) = true := bne_iff_ne.mpr c17; by_cases c22 : (rd x3_1 (ji9)) = 6
           ·
            rw [if_pos c22] at H; have c22b0 : ((rd x3_1 (ji9)) == 6) = true := beq_iff_eq.mpr c22; have c22b1 : ((rd x3_1 (ji9)) != 6) = false := bne_eq_false_iff_eq.mpr c22; clear c22; by_cases c23 : x3_1.length < 17592186044416
            ·
             rw [if_pos c23] at H; have LMc23 := az c23; clear c23; obtain ⟨y188, hy188⟩ : ∃ y_ : List Int, y_ = (x3_1 ++ [1]) := ⟨_, rfl⟩; replace H : (spec_l5Counts.l0 k1 l0 y188 (wrap64 (x4_1 + 1))) = some r := by first | (rw [hy188]; with_reducible exact H) | (have H2_ := (Option.bind_some _ _).symm.trans H; rw [hy188]; with_reducible exact H2_) | (have H2_ := (Option.bind_some _ _).symm.trans H; with_reducible exact H2_) | with_reducible exact H | (rw [hy188]; exact H) | exact H
             have Ny188 := az hy188; clear hy188; have H' := az H; clear H; have p177 : 0 ≤ (x4_1 : Int) := of_decide_eq_true (by assumption); have q177 : x4_1 < (l0.length : Int) := of_decide_eq_true (by assumption); obtain ⟨ad177, e177, hx177_0⟩ := Kd.at_int HR0.out x4_1 p177 q177
             cases e177
             replace hx177_0 := (HB.out.cell (World.block_lt_of_cell? w _ hx177_0)).trans hx177_0; replace p177 := eq_true p177; replace q177 := eq_true q177; go_wp2_with (first | ((with_reducible refine gate_callee (f := 125) rfl ?_); refine goesL_ (some 17) rfl rfl Tryz.func125 (by kernel_rfl) rfl #[.int .i64 (rd l0 x4_1)] rfl zC ?_; (with_reducible refine (spec_RuneLine.calls k1 (rd l0 x4_1) t178 _ A6.out).mono ?_); rintro e w24 ⟨rfl, hb⟩; refine ⟨_, rfl, ?_⟩; have n0_ := az (Kd.R_below (zF HO_3.out) hb); have n1_ := az (below_step (zA HB.out) hb); clear HO_3; clear HB; have HO_3 := n0_; have HB := n1_; clear n0_ n1_; (try clear hb); (try clear hb2); (try clear hk); (try clear hi); obtain ⟨Ao25, co25, eo25⟩ := Kd.R_slice HO_3.out; subst eo25; have p179 : 0 ≤ ((ji9) : Int) := of_decide_eq_true (by assumption); have q179 : (ji9) < (x3_1.length : Int) := of_decide_eq_true (by assumption); obtain ⟨ad179, e179, hx179_0⟩ := Kd.at_int (Kd.R_reads' HO_3.out).2.2 (ji9) p179 q179; cases e179; replace p179 := eq_true p179; replace q179 := eq_true q179; have p183 : 0 ≤ ((ji9) : Int) := of_decide_eq_true (by assumption); have q183 : (ji9) < (x3_1.length : Int) := of_decide_eq_true (by assumption); obtain ⟨ad183, e183, hx183_0⟩ := Kd.at_int (Kd.R_reads' HO_3.out).2.2 (ji9) p183 q183; obtain rfl : ad179 = ad183 := (by injection e183); replace p183 := eq_true p183; replace q183 := eq_true q183; have p187 : 0 ≤ ((ji9) : Int) := of_decide_eq_true (by assumption); have q187 : (ji9) < (x3_1.length : Int) := of_decide_eq_true (by assumption); obtain ⟨ad187, e187, hx187_0⟩ := Kd.at_int (Kd.R_reads' HO_3.out).2.2 (ji9) p187 q187; obtain rfl : ad179 = ad187 := (by injection e187); replace p187 := eq_true p187; replace q187 := eq_true q187) | ((with_reducible refine gate_builtin (b := .append) (xs := #[.tmp 51, .tmp 53]) rfl ?_); at_builtin; refine Kd.R_append (Kd.int .i64) (w0 := w) w.heap.size rfl (.tmp 51) (.tmp 53) 22 3 (.int .i64 0) 8 rfl Tryz.underlying22 info3 rfl (by decide) (by omega) (.slice (some ad179) x3_1.length co25) x3_1 1 [.int .i64 1] (fun _ => True) (fun _ => False) rfl rfl ?aP (fun _ hk => hk.elim) ?aF ?aO ?aB ?aS ?aL ?_; (case aP => exact rfl); (case aB => exact (zA HB.out)); (case aF => exact (fun _ _ => trivial)); (case aO => exact (zF HO_3.out)); (case aS => exact (below_size (zA HB.out))); (case aL => have := LMc23.out; omega); intro v189 w26 ho hb hg hat; rw [← Ny188.out] at ho; have n0_ := az (hb); have n1_ := az (ho); clear HB; clear HO_3; have HB := n0_; have HO190 := n1_; clear n0_ n1_; clear ho hb hg hat)); go_roundg k1
             case measure => have := HK1.out; omega
             case rel => exact ⟨(y188), (wrap64 (x4_1 + 1)), zB, H', ⟨zE HK1.out⟩, ⟨zF HO190.out⟩, ⟨zA HB.out⟩⟩
            ·
             rw [if_neg c23] at H; exact absurd H (by simp)
           ·
            rw [if_neg c22] at H; have c22b0 : ((rd x3_1 (ji9)) == 6) = false := beq_eq_false_iff_ne.mpr c22; have c22b1 : ((rd x3_1 (ji9)) != 6) = true := bne_iff_ne.mpr c22; by_cases c27 : x3_1.length < 17592186044416
            ·
             rw [if_pos c27] at H; have LMc27 := az c27; clear c27; obtain ⟨y192, hy192⟩ : ∃ y_ : List Int, y_ = (x3_1 ++ [rd x3_1 (ji9)]) := ⟨_, rfl⟩; replace H : (spec_l5Counts.l0 k1 l0 y192 (wrap64 (x4_1 + 1))) = some r := by first | (rw [hy192]; with_reducible exact H) | (have H2_ := (Option.bind_some _ _).symm.trans H; rw [hy192]; with_reducible exact H2_) | (have H2_ := (Option.bind_some _ _).symm.trans H; with_reducible exact H2_) | with_reducible exact H | (rw [hy192]; exact H) | exact H
             have Ny192 := az hy192; clear hy192; have H' := az H; clear H; have p177 : 0 ≤ (x4_1 : Int) := of_decide_eq_true (by assumption); have q177 : x4_1 < (l0.length : Int) := of_decide_eq_true (by assumption); obtain ⟨ad177, e177, hx177_0⟩ := Kd.at_int HR0.out x4_1 p177 q177
             cases e177
             replace hx177_0 := (HB.out.cell (World.block_lt_of_cell? w _ hx177_0)).trans hx177_0; replace p177 := eq_true p177; replace q177 := eq_true q177; go_wp2_with (first | ((with_reducible refine gate_callee (f := 125) rfl ?_); refine goesL_ (some 17) rfl rfl Tryz.func125 (by kernel_rfl) rfl #[.int .i64 (rd l0 x4_1)] rfl zC ?_; (with_reducible refine (spec_RuneLine.calls k1 (rd l0 x4_1) t178 _ A6.out).mono ?_); rintro e w28 ⟨rfl, hb⟩; refine ⟨_, rfl, ?_⟩; have n0_ := az (Kd.R_below (zF HO_3.out) hb); have n1_ := az (below_step (zA HB.out) hb); clear HO_3; clear HB; have HO_3 := n0_; have HB := n1_; clear n0_ n1_; (try clear hb); (try clear hb2); (try clear hk); (try clear hi); obtain ⟨Ao29, co29, eo29⟩ := Kd.R_slice HO_3.out; subst eo29; have p179 : 0 ≤ ((ji9) : Int) := of_decide_eq_true (by assumption); have q179 : (ji9) < (x3_1.length : Int) := of_decide_eq_true (by assumption); obtain ⟨ad179, e179, hx179_0⟩ := Kd.at_int (Kd.R_reads' HO_3.out).2.2 (ji9) p179 q179; cases e179; replace p179 := eq_true p179; replace q179 := eq_true q179; have p183 : 0 ≤ ((ji9) : Int) := of_decide_eq_true (by assumption); have q183 : (ji9) < (x3_1.length : Int) := of_decide_eq_true (by assumption); obtain ⟨ad183, e183, hx183_0⟩ := Kd.at_int (Kd.R_reads' HO_3.out).2.2 (ji9) p183 q183; obtain rfl : ad179 = ad183 := (by injection e183); replace p183 := eq_true p183; replace q183 := eq_true q183; have p187 : 0 ≤ ((ji9) : Int) := of_decide_eq_true (by assumption); have q187 : (ji9) < (x3_1.length : Int) := of_decide_eq_true (by assumption); obtain ⟨ad187, e187, hx187_0⟩ := Kd.at_int (Kd.R_reads' HO_3.out).2.2 (ji9) p187 q187; obtain rfl : ad179 = ad187 := (by injection e187); replace p187 := eq_true p187; replace q187 := eq_true q187; have p191 : 0 ≤ ((ji9) : Int) := of_decide_eq_true (by assumption); have q191 : (ji9) < (x3_1.length : Int) := of_decide_eq_true (by assumption); obtain ⟨ad191, e191, hx191_0⟩ := Kd.at_int (Kd.R_reads' HO_3.out).2.2 (ji9) p191 q191; obtain rfl : ad179 = ad191 := (by injection e191); replace p191 := eq_true p191; replace q191 := eq_true q191) | ((with_reducible refine gate_builtin (b := .append) (xs := #[.tmp 51, .tmp 53]) rfl ?_); at_builtin; refine Kd.R_append (Kd.int .i64) (w0 := w) w.heap.size rfl (.tmp 51) (.tmp 53) 22 3 (.int .i64 0) 8 rfl Tryz.underlying22 info3 rfl (by decide) (by omega) (.slice (some ad179) x3_1.length co29) x3_1 (rd x3_1 (ji9)) [.int .i64 (rd x3_1 (ji9))] (fun _ => True) (fun _ => False) rfl rfl ?aP (fun _ hk => hk.elim) ?aF ?aO ?aB ?aS ?aL ?_; (case aP => exact rfl); (case aB => exact (zA HB.out)); (case aF => exact (fun _ _ => trivial)); (case aO => exact (zF HO_3.out)); (case aS => exact (below_size (zA HB.out))); (case aL => have := LMc27.out; omega); intro v193 w30 ho hb hg hat; rw [← Ny192.out] at ho; have n0_ := az (hb); have n1_ := az (ho); clear HB; clear HO_3; have HB := n0_; have HO194 := n1_; clear n0_ n1_; clear ho hb hg hat)); go_roundg k1
             case measure => have := HK1.out; omega
             case rel => exact ⟨(y192), (wrap64 (x4_1 + 1)), zB, H', ⟨zE HK1.out⟩, ⟨zF HO194.out⟩, ⟨zA HB.out⟩⟩
            ·
             rw [if_neg c27] at H; exact absurd H (by simp)
        ·
         rw [if_neg c11] at H; exact absurd H (by simp)
       ·
        rw [if_neg c10] at H; exact absurd H (by simp)
      ·
       rw [if_neg c8] at H; have c8b0 : decide (0 < x4_1) = false := decide_eq_false c8; clear c8; by_cases c31 : x3_1.length < 17592186044416
       ·
        rw [if_pos c31] at H; have LMc31 := az c31; clear c31; obtain ⟨y195, hy195⟩ : ∃ y_ : List Int, y_ = (x3_1 ++ [1]) := ⟨_, rfl⟩; replace H : (spec_l5Counts.l0 k1 l0 y195 (wrap64 (x4_1 + 1))) = some r := by first | (rw [hy195]; with_reducible exact H) | (have H2_ := (Option.bind_some _ _).symm.trans H; rw [hy195]; with_reducible exact H2_) | (have H2_ := (Option.bind_some _ _).symm.trans H; with_reducible exact H2_) | with_reducible exact H | (rw [hy195]; exact H) | exact H
        have Ny195 := az hy195; clear hy195; have H' := az H; clear H; have p177 : 0 ≤ (x4_1 : Int) := of_decide_eq_true (by assumption); have q177 : x4_1 < (l0.length : Int) := of_decide_eq_true (by assumption); obtain ⟨ad177, e177, hx177_0⟩ := Kd.at_int HR0.out x4_1 p177 q177
        cases e177
        replace hx177_0 := (HB.out.cell (World.block_lt_of_cell? w _ hx177_0)).trans hx177_0; replace p177 := eq_true p177; replace q177 := eq_true q177; go_wp2_with (first | ((with_reducible refine gate_callee (f := 125) rfl ?_); refine goesL_ (some 17) rfl rfl Tryz.func125 (by kernel_rfl) rfl #[.int .i64 (rd l0 x4_1)] rfl zC ?_; (with_reducible refine (spec_RuneLine.calls k1 (rd l0 x4_1) t178 _ A6.out).mono ?_); rintro e w32 ⟨rfl, hb⟩; refine ⟨_, rfl, ?_⟩; have n0_ := az (Kd.R_below (zF HO_3.out) hb); have n1_ := az (below_step (zA HB.out) hb); clear HO_3; clear HB; have HO_3 := n0_; have HB := n1_; clear n0_ n1_; (try clear hb); (try clear hb2); (try clear hk); (try clear hi)) | ((with_reducible refine gate_builtin (b := .append) (xs := #[.tmp 51, .tmp 53]) rfl ?_); at_builtin; refine Kd.R_append (Kd.int .i64) (w0 := w) w.heap.size rfl (.tmp 51) (.tmp 53) 22 3 (.int .i64 0) 8 rfl Tryz.underlying22 info3 rfl (by decide) (by omega) u3 x3_1 1 [.int .i64 1] (fun _ => True) (fun _ => False) rfl rfl ?aP (fun _ hk => hk.elim) ?aF ?aO ?aB ?aS ?aL ?_; (case aP => exact rfl); (case aB => exact (zA HB.out)); (case aF => exact (fun _ _ => trivial)); (case aO => exact (zF HO_3.out)); (case aS => exact (below_size (zA HB.out))); (case aL => have := LMc31.out; omega); intro v196 w33 ho hb hg hat; rw [← Ny195.out] at ho; have n0_ := az (hb); have n1_ := az (ho); clear HB; clear HO_3; have HB := n0_; have HO197 := n1_; clear n0_ n1_; clear ho hb hg hat)); go_roundg k1
        case measure => have := HK1.out; omega
        case rel => exact ⟨(y195), (wrap64 (x4_1 + 1)), zB, H', ⟨zE HK1.out⟩, ⟨zF HO197.out⟩, ⟨zA HB.out⟩⟩
       ·
        rw [if_neg c31] at H; exact absurd H (by simp)
     ·
      rw [if_neg c7] at H; have c7b0 : (t178 == 7) = false := beq_eq_false_iff_ne.mpr c7; have c7b1 : (t178 != 7) = true := bne_iff_ne.mpr c7; by_cases c34 : x3_1.length < 17592186044416
      ·
       rw [if_pos c34] at H; have LMc34 := az c34; clear c34; obtain ⟨y198, hy198⟩ : ∃ y_ : List Int, y_ = (x3_1 ++ [t178]) := ⟨_, rfl⟩; replace H : (spec_l5Counts.l0 k1 l0 y198 (wrap64 (x4_1 + 1))) = some r := by first | (rw [hy198]; with_reducible exact H) | (have H2_ := (Option.bind_some _ _).symm.trans H; rw [hy198]; with_reducible exact H2_) | (have H2_ := (Option.bind_some _ _).symm.trans H; with_reducible exact H2_) | with_reducible exact H | (rw [hy198]; exact H) | exact H
       have Ny198 := az hy198; clear hy198; have H' := az H; clear H; have p177 : 0 ≤ (x4_1 : Int) := of_decide_eq_true (by assumption); have q177 : x4_1 < (l0.length : Int) := of_decide_eq_true (by assumption); obtain ⟨ad177, e177, hx177_0⟩ := Kd.at_int HR0.out x4_1 p177 q177
       cases e177
       replace hx177_0 := (HB.out.cell (World.block_lt_of_cell? w _ hx177_0)).trans hx177_0; replace p177 := eq_true p177; replace q177 := eq_true q177; go_wp2_with (first | ((with_reducible refine gate_callee (f := 125) rfl ?_); refine goesL_ (some 17) rfl rfl Tryz.func125 (by kernel_rfl) rfl #[.int .i64 (rd l0 x4_1)] rfl zC ?_; (with_reducible refine (spec_RuneLine.calls k1 (rd l0 x4_1) t178 _ A6.out).mono ?_); rintro e w35 ⟨rfl, hb⟩; refine ⟨_, rfl, ?_⟩; have n0_ := az (Kd.R_below (zF HO_3.out) hb); have n1_ := az (below_step (zA HB.out) hb); clear HO_3; clear HB; have HO_3 := n0_; have HB := n1_; clear n0_ n1_; (try clear hb); (try clear hb2); (try clear hk); (try clear hi)) | ((with_reducible refine gate_builtin (b := .append) (xs := #[.tmp 51, .tmp 53]) rfl ?_); at_builtin; refine Kd.R_append (Kd.int .i64) (w0 := w) w.heap.size rfl (.tmp 51) (.tmp 53) 22 3 (.int .i64 0) 8 rfl Tryz.underlying22 info3 rfl (by decide) (by omega) u3 x3_1 t178 [.int .i64 t178] (fun _ => True) (fun _ => False) rfl rfl ?aP (fun _ hk => hk.elim) ?aF ?aO ?aB ?aS ?aL ?_; (case aP => exact rfl); (case aB => exact (zA HB.out)); (case aF => exact (fun _ _ => trivial)); (case aO => exact (zF HO_3.out)); (case aS => exact (below_size (zA HB.out))); (case aL => have := LMc34.out; omega); intro v199 w36 ho hb hg hat; rw [← Ny198.out] at ho; have n0_ := az (hb); have n1_ := az (ho); clear HB; clear HO_3; have HB := n0_; have HO200 := n1_; clear n0_ n1_; clear ho hb hg hat)); go_roundg k1
       case measure => have := HK1.out; omega
       case rel => exact ⟨(y198), (wrap64 (x4_1 + 1)), zB, H', ⟨zE HK1.out⟩, ⟨zF HO200.out⟩, ⟨zA HB.out⟩⟩
      ·
       rw [if_neg c34] at H; exact absurd H (by simp)
    ·
     rw [if_neg c5] at H; exact absurd H (by simp)
   ·
    rw [if_neg c4] at H; have c4b0 : decide (x4_1 < (l0.length : Int)) = false := decide_eq_false c4; clear c4; obtain rfl := Option.some.inj H; go_wp2; go_ret; exact ⟨_, zG, zF HO_3.out, zA HB.out⟩
def spec_l2Flag.f (a0 : Int) : Option (Bool) := (spec_l1In.f a0 127462 127487).bind fun t131 => (some t131)
theorem spec_l2Flag.calls (a0 : Int) (r : Bool) (w : World) (h : spec_l2Flag.f a0 = some r) :
  Calls Tryz.prog 138 #[.int .i64 a0] w fun e w' => e = .returned (.bool r) ∧ Drawn0 w w' := by
 have H : ((spec_l1In.f a0 127462 127487).bind fun t131 => (some t131)) = some r := h
 clear h
 replace H := Option.bind_eq_some_iff.mp H
 obtain ⟨t131, A20, H⟩ := H
 replace H : (some t131) = some r := H
 have A2 := az A20
 clear A20
 obtain rfl := Option.some.inj H
 go_enter Tryz.func138, Tryz.ntmps138
 go_wp2_with (first | ((with_reducible refine gate_callee (f := 36) rfl ?_); refine goesL_ (some 4) rfl rfl Tryz.func36 (by kernel_rfl) rfl #[.int .i64 a0, .int .i64 127462, .int .i64 127487] rfl (by (try simp only [List.map_toArray, List.map_cons, List.map_nil]); first | done | rfl | (simp only [List.length_drop, List.length_take]; rfl)) ?_; (with_reducible refine (spec_l1In.calls a0 127462 127487 t131 _ A2.out).mono ?_); rintro e w' ⟨rfl, ⟨nd, rfl⟩⟩; refine ⟨_, rfl, ?_⟩))
 go_ret
 exact ⟨zB, zD⟩
mutual
def spec_l2Joins.j0 : Nat → List Int → Int → Int → Bool → Option (Bool)
 | 0, _, _, _, _ => none
 | k + 1, x0, x1, x5, x21 => if x21 = true then (if 0 ≤ (wrap64 (x1 - 1)) then (if (wrap64 (x1 - 1)) < (x0.length : Int) then (if (rd x0 (wrap64 (x1 - 1))) = 13 then (some (x5 == 10)) else (some false)) else (none)) else (none)) else ((spec_RuneBidi.f k x5).bind fun t135 => (if t135 = 9 then (spec_l2Joins.j1 k x0 x1 x5 true) else (spec_l2Joins.j1 k x0 x1 x5 (x5 == 8205))))
def spec_l2Joins.j1 : Nat → List Int → Int → Int → Bool → Option (Bool)
 | 0, _, _, _, _ => none
 | k + 1, x0, x1, x5, x38 => if x38 = true then (some true) else (spec_l2Joins.l0 k x0 x5 0 (wrap64 (x1 - 1)))
def spec_l2Joins.l0 : Nat → List Int → Int → Int → Int → Option (Bool)
 | 0, _, _, _, _ => none
 | k + 1, x0, x5, x6, x7 => if x7 ≥ 0 then (if 0 ≤ x7 then (if x7 < (x0.length : Int) then ((spec_l2Flag.f (rd x0 x7)).bind fun t137 => (if t137 = true then (spec_l2Joins.l0 k x0 x5 (wrap64 (x6 + 1)) (wrap64 (x7 - 1))) else ((spec_l2Flag.f x5).bind fun t138 => (if t138 = true then (some ((Int.tmod x6 2) == 1)) else (some false))))) else (none)) else (none)) else ((spec_l2Flag.f x5).bind fun t139 => (if t139 = true then (some ((Int.tmod x6 2) == 1)) else (some false)))
end
def spec_l2Joins.f (k : Nat) (l0 : List Int) (a1 : Int) : Option (Bool) := if 0 ≤ a1 then (if a1 < (l0.length : Int) then (if (rd l0 a1) = 10 then (spec_l2Joins.j0 k l0 a1 (rd l0 a1) true) else (if 0 ≤ (wrap64 (a1 - 1)) then (if (wrap64 (a1 - 1)) < (l0.length : Int) then (spec_l2Joins.j0 k l0 a1 (rd l0 a1) ((rd l0 (wrap64 (a1 - 1))) == 10)) else (none)) else (none))) else (none)) else (none)
theorem spec_l2Joins.mono_l : ∀ k, (∀ y0 y1 y2 y3, LeO (spec_l2Joins.j0 k y0 y1 y2 y3) (spec_l2Joins.j0 (k + 1) y0 y1 y2 y3)) ∧ (∀ y0 y1 y2 y3, LeO (spec_l2Joins.j1 k y0 y1 y2 y3) (spec_l2Joins.j1 (k + 1) y0 y1 y2 y3)) ∧ (∀ y0 y1 y2 y3, LeO (spec_l2Joins.l0 k y0 y1 y2 y3) (spec_l2Joins.l0 (k + 1) y0 y1 y2 y3))
 | 0 => ⟨fun _ _ _ _ r h => by simp [spec_l2Joins.j0] at h, fun _ _ _ _ r h => by simp [spec_l2Joins.j1] at h, fun _ _ _ _ r h => by simp [spec_l2Joins.l0] at h⟩
 | k + 1 => by
  obtain ⟨ih0, ih1, ih2⟩ := spec_l2Joins.mono_l k; refine ⟨?_, ?_, ?_⟩
  ·
   intro y0 y1 y2 y3; unfold spec_l2Joins.j0
   repeat' first
   | (with_reducible exact ih0 _ _ _ _)
   | (with_reducible exact ih1 _ _ _ _)
   | (with_reducible exact ih2 _ _ _ _)
   | (with_reducible exact spec_RuneBidi.mono _ _)
   | (with_reducible exact LeO.refl _)
   | (with_reducible exact LeO.none _)
   | (with_reducible refine LeO.ite ?_ ?_)
   | (with_reducible refine LeO.bind ?_ (fun _ => ?_))
   | exact ih0 _ _ _ _
   | exact ih1 _ _ _ _
   | exact ih2 _ _ _ _
   | exact spec_RuneBidi.mono _ _
   | exact LeO.none _
   | refine LeO.ite ?_ ?_
   | refine LeO.bind ?_ (fun _ => ?_)
  ·
   intro y0 y1 y2 y3; unfold spec_l2Joins.j1
   repeat' first
   | (with_reducible exact ih0 _ _ _ _)
   | (with_reducible exact ih1 _ _ _ _)
   | (with_reducible exact ih2 _ _ _ _)
   | (with_reducible exact spec_RuneBidi.mono _ _)
   | (with_reducible exact LeO.refl _)
   | (with_reducible exact LeO.none _)
   | (with_reducible refine LeO.ite ?_ ?_)
   | (with_reducible refine LeO.bind ?_ (fun _ => ?_))
   | exact ih0 _ _ _ _
   | exact ih1 _ _ _ _
   | exact ih2 _ _ _ _
   | exact spec_RuneBidi.mono _ _
   | exact LeO.none _
   | refine LeO.ite ?_ ?_
   | refine LeO.bind ?_ (fun _ => ?_)
  ·
   intro y0 y1 y2 y3; unfold spec_l2Joins.l0
   repeat' first
   | (with_reducible exact ih0 _ _ _ _)
   | (with_reducible exact ih1 _ _ _ _)
   | (with_reducible exact ih2 _ _ _ _)
   | (with_reducible exact spec_RuneBidi.mono _ _)
   | (with_reducible exact LeO.refl _)
   | (with_reducible exact LeO.none _)
   | (with_reducible refine LeO.ite ?_ ?_)
   | (with_reducible refine LeO.bind ?_ (fun _ => ?_))
   | exact ih0 _ _ _ _
   | exact ih1 _ _ _ _
   | exact ih2 _ _ _ _
   | exact spec_RuneBidi.mono _ _
   | exact LeO.none _
   | refine LeO.ite ?_ ?_
   | refine LeO.bind ?_ (fun _ => ?_)
theorem spec_l2Joins.mono : ∀ a0 a1 k, LeO (spec_l2Joins.f k a0 a1) (spec_l2Joins.f (k + 1) a0 a1) := by
 intro a0 a1 k; obtain ⟨ih0, ih1, ih2⟩ := spec_l2Joins.mono_l k; unfold spec_l2Joins.f
 repeat' first
   | (with_reducible exact ih0 _ _ _ _)
   | (with_reducible exact ih1 _ _ _ _)
   | (with_reducible exact ih2 _ _ _ _)
   | (with_reducible exact spec_RuneBidi.mono _ _)
   | (with_reducible exact LeO.refl _)
   | (with_reducible exact LeO.none _)
   | (with_reducible refine LeO.ite ?_ ?_)
   | (with_reducible refine LeO.bind ?_ (fun _ => ?_))
   | exact ih0 _ _ _ _
   | exact ih1 _ _ _ _
   | exact ih2 _ _ _ _
   | exact spec_RuneBidi.mono _ _
   | exact LeO.none _
   | refine LeO.ite ?_ ?_
   | refine LeO.bind ?_ (fun _ => ?_)
theorem spec_l2Joins.calls (k : Nat) (A0 : Option Addr) (c0 : Nat) (l0 : List Int) (a1 : Int) (r : Bool) (w : World) (hr0 : Kd.C (Kd.int .i64) w A0 l0.length l0) (hc0 : l0.length ≤ c0) (h : spec_l2Joins.f k l0 a1 = some r) :
  Calls Tryz.prog 124 #[.slice A0 l0.length c0, .int .i64 a1] w fun e w' => e = .returned (.bool r) ∧ Below w.heap.size w w' := by
 have HR0 := az hr0; have HC0 := az hc0; clear hr0 hc0; have HB := az (Below.refl w.heap.size w); have H : (if 0 ≤ a1 then (if a1 < (l0.length : Int) then (if (rd l0 a1) = 10 then (spec_l2Joins.j0 k l0 a1 (rd l0 a1) true) else (if 0 ≤ (wrap64 (a1 - 1)) then (if (wrap64 (a1 - 1)) < (l0.length : Int) then (spec_l2Joins.j0 k l0 a1 (rd l0 a1) ((rd l0 (wrap64 (a1 - 1))) == 10)) else (none)) else (none))) else (none)) else (none)) = some r := h; clear h; by_cases c3 : 0 ≤ a1
 ·
  rw [if_pos c3] at H; have c3b0 : decide (0 ≤ a1) = true := decide_eq_true c3; clear c3; by_cases c4 : a1 < (l0.length : Int)
  ·
   rw [if_pos c4] at H; have c4b0 : decide (a1 < (l0.length : Int)) = true := decide_eq_true c4; clear c4; have HC5 := az H; clear H; have p132 : 0 ≤ (a1 : Int) := of_decide_eq_true (by assumption); have q132 : a1 < (l0.length : Int) := of_decide_eq_true (by assumption); obtain ⟨ad132, e132, hx132_0⟩ := Kd.at_int HR0.out a1 p132 q132
   cases e132
   replace p132 := eq_true p132; replace q132 := eq_true q132; go_enter Tryz.func124, Tryz.ntmps124; go_upto_region 2 with (fail)
   go_cut [21] (fun v21 wc => ∃ (kq : Nat) (x21_4 : Bool), v21 = .bool x21_4 ∧ Aside0 (spec_l2Joins.j0 kq l0 a1 (rd l0 a1) x21_4 = some r) ∧ Aside0 (kq ≤ k) ∧ Aside0 (Below w.heap.size w wc))
   case first =>
    have H := HC5.out; clear HC5; by_cases c6 : (rd l0 a1) = 10
    ·
     rw [if_pos c6] at H; have c6b0 : ((rd l0 a1) == 10) = true := beq_iff_eq.mpr c6; have c6b1 : ((rd l0 a1) != 10) = false := bne_eq_false_iff_eq.mpr c6; clear c6; (first | rw [c6b0] | (simp only [i64_w, i32_w]; rw [c6b0]) | skip); have H' := az H; clear H; go_wp2; go_meet
     case rel => exact ⟨_, (true), zB, H', ⟨zI⟩, ⟨zA HB.out⟩⟩
    ·
     rw [if_neg c6] at H; have c6b0 : ((rd l0 a1) == 10) = false := beq_eq_false_iff_ne.mpr c6; have c6b1 : ((rd l0 a1) != 10) = true := bne_iff_ne.mpr c6; (first | rw [c6b0] | (simp only [i64_w, i32_w]; rw [c6b0]) | skip); obtain ⟨ji7, hji7⟩ : ∃ j_ : Int, (wrap64 (a1 - 1)) = j_ := ⟨_, rfl⟩; replace H : (if 0 ≤ (ji7) then (if (ji7) < (l0.length : Int) then (spec_l2Joins.j0 k l0 a1 (rd l0 a1) ((rd l0 (ji7)) == 10)) else (none)) else (none)) = some r := by first | (rw [hji7] at H; exact H) | (simp only [hji7] at H ⊢; exact H)
     have hji7w : (IntKind.i64.wrap (a1 - 1)) = ji7 := (i64_w _).trans hji7; by_cases c8 : 0 ≤ (ji7)
     ·
      rw [if_pos c8] at H; have c8b0 : decide (0 ≤ (ji7)) = true := decide_eq_true c8; clear c8; by_cases c9 : (ji7) < (l0.length : Int)
      ·
       rw [if_pos c9] at H; have c9b0 : decide ((ji7) < (l0.length : Int)) = true := decide_eq_true c9; clear c9; have H' := az H; clear H; have p133 : 0 ≤ ((ji7) : Int) := of_decide_eq_true (by assumption); have q133 : (ji7) < (l0.length : Int) := of_decide_eq_true (by assumption); obtain ⟨ad133, e133, hx133_0⟩ := Kd.at_int HR0.out (ji7) p133 q133; obtain rfl : ad132 = ad133 := (by injection e133); replace hx133_0 := (HB.out.cell (World.block_lt_of_cell? w _ hx133_0)).trans hx133_0; replace p133 := eq_true p133; replace q133 := eq_true q133; go_wp2; go_meet
       case rel => exact ⟨_, (((rd l0 (ji7)) == 10)), (by first | rfl | (simp; done) | (simp only [← hji7] <;> (first | rfl | simp)) | (simp [*]; done)), H', ⟨zI⟩, ⟨zA HB.out⟩⟩
      ·
       rw [if_neg c9] at H; exact absurd H (by simp)
     ·
      rw [if_neg c8] at H; exact absurd H (by simp)
   case rest =>
    clear HC5; (try clear c1); (try clear p1); (try clear q1); (try clear hx1); (try clear p2); (try clear c3); (try clear c3b0); (try clear c4); (try clear c4b0); (try clear c6); (try clear c6b0); (try clear c6b1); (try clear p6); (try clear c8); (try clear c8b0); (try clear c9); (try clear c9b0); (try clear hx132_0); (try clear hx133_0); (try clear p132); (try clear p133); (try clear q132); (try clear q133); obtain ⟨kq, x21_4, rfl, HA, HJ4, HB⟩ := hcut
    cases kq with
    | zero => exact absurd HA.out (by simp [spec_l2Joins.j0])
    | succ kj4 =>
     have H := HA.out; clear HA; simp only [spec_l2Joins.j0] at H; by_cases c10 : x21_4 = true
     ·
      subst c10; have H1 : (if 0 ≤ (wrap64 (a1 - 1)) then (if (wrap64 (a1 - 1)) < (l0.length : Int) then (if (rd l0 (wrap64 (a1 - 1))) = 13 then (some ((rd l0 a1) == 10)) else (some false)) else (none)) else (none)) = some r := by rw [if_pos rfl] at H; exact H
      clear H; have H := H1; clear H1; obtain ⟨ji11, hji11⟩ : ∃ j_ : Int, (wrap64 (a1 - 1)) = j_ := ⟨_, rfl⟩; replace H : (if 0 ≤ (ji11) then (if (ji11) < (l0.length : Int) then (if (rd l0 (ji11)) = 13 then (some ((rd l0 a1) == 10)) else (some false)) else (none)) else (none)) = some r := by first | (rw [hji11] at H; exact H) | (simp only [hji11] at H ⊢; exact H)
      have hji11w : (IntKind.i64.wrap (a1 - 1)) = ji11 := (i64_w _).trans hji11; by_cases c12 : 0 ≤ (ji11)
      ·
       rw [if_pos c12] at H; have c12b0 : decide (0 ≤ (ji11)) = true := decide_eq_true c12; clear c12; by_cases c13 : (ji11) < (l0.length : Int)
       ·
        rw [if_pos c13] at H; have c13b0 : decide ((ji11) < (l0.length : Int)) = true := decide_eq_true c13; clear c13; by_cases c14 : (rd l0 (ji11)) = 13
        ·
         rw [if_pos c14] at H; have c14b0 : ((rd l0 (ji11)) == 13) = true := beq_iff_eq.mpr c14; have c14b1 : ((rd l0 (ji11)) != 13) = false := bne_eq_false_iff_eq.mpr c14; clear c14; obtain rfl := Option.some.inj H; have p134 : 0 ≤ ((ji11) : Int) := of_decide_eq_true (by assumption); have q134 : (ji11) < (l0.length : Int) := of_decide_eq_true (by assumption); obtain ⟨ad134, e134, hx134_0⟩ := Kd.at_int HR0.out (ji11) p134 q134; obtain rfl : ad132 = ad134 := (by injection e134); replace hx134_0 := (HB.out.cell (World.block_lt_of_cell? w _ hx134_0)).trans hx134_0; replace p134 := eq_true p134; replace q134 := eq_true q134; go_wp2; go_ret; exact ⟨by first | rfl | (simp [errW_none, errW_some] <;> rfl) | (simp only [← hji11]; first | rfl | (simp [errW_none, errW_some] <;> rfl)) | (simp [*, errW_none, errW_some] <;> rfl), zA HB.out⟩
        ·
         rw [if_neg c14] at H; have c14b0 : ((rd l0 (ji11)) == 13) = false := beq_eq_false_iff_ne.mpr c14; have c14b1 : ((rd l0 (ji11)) != 13) = true := bne_iff_ne.mpr c14; obtain rfl := Option.some.inj H; have p134 : 0 ≤ ((ji11) : Int) := of_decide_eq_true (by assumption); have q134 : (ji11) < (l0.length : Int) := of_decide_eq_true (by assumption); obtain ⟨ad134, e134, hx134_0⟩ := Kd.at_int HR0.out (ji11) p134 q134; obtain rfl : ad132 = ad134 := (by injection e134); replace hx134_0 := (HB.out.cell (World.block_lt_of_cell? w _ hx134_0)).trans hx134_0; replace p134 := eq_true p134; replace q134 := eq_true q134; go_wp2; go_ret; exact ⟨by first | rfl | (simp [errW_none, errW_some] <;> rfl) | (simp only [← hji11]; first | rfl | (simp [errW_none, errW_some] <;> rfl)) | (simp [*, errW_none, errW_some] <;> rfl), zA HB.out⟩
       ·
        rw [if_neg c13] at H; exact absurd H (by simp)
      ·
       rw [if_neg c12] at H; exact absurd H (by simp)
     ·
      replace c10 := Bool.eq_false_iff.mpr c10; subst c10; have H1 : ((spec_RuneBidi.f kj4 (rd l0 a1)).bind fun t135 => (if t135 = 9 then (spec_l2Joins.j1 kj4 l0 a1 (rd l0 a1) true) else (spec_l2Joins.j1 kj4 l0 a1 (rd l0 a1) ((rd l0 a1) == 8205)))) = some r := by rw [if_neg (show ¬ (false = true) by decide)] at H; exact H
      clear H; have H := H1; clear H1; have HC15 := az H; clear H; go_upto_region 4 with (fail)
      go_cut [38] (fun v38 wc => ∃ (kq : Nat) (x38_14 : Bool), v38 = .bool x38_14 ∧ Aside0 (spec_l2Joins.j1 kq l0 a1 (rd l0 a1) x38_14 = some r) ∧ Aside0 (kq ≤ kj4) ∧ Aside0 (Below w.heap.size w wc))
      case first =>
       have H := HC15.out; clear HC15; replace H := Option.bind_eq_some_iff.mp H; obtain ⟨t135, A160, H⟩ := H; replace H : (if t135 = 9 then (spec_l2Joins.j1 kj4 l0 a1 (rd l0 a1) true) else (spec_l2Joins.j1 kj4 l0 a1 (rd l0 a1) ((rd l0 a1) == 8205))) = some r := H; have A16 := az A160; clear A160; by_cases c17 : t135 = 9
       ·
        rw [if_pos c17] at H; have c17b0 : (t135 == 9) = true := beq_iff_eq.mpr c17; have c17b1 : (t135 != 9) = false := bne_eq_false_iff_eq.mpr c17; clear c17; (first | rw [c17b0] | (simp only [i64_w, i32_w]; rw [c17b0]) | skip); have H' := az H; clear H; go_wp2_with (first | ((with_reducible refine gate_callee (f := 137) rfl ?_); refine goesL_ (some 33) rfl rfl Tryz.func137 (by kernel_rfl) rfl #[.int .i64 (rd l0 a1)] rfl zC ?_; (with_reducible refine (spec_RuneBidi.calls kj4 (rd l0 a1) t135 _ A16.out).mono ?_); rintro e w18 ⟨rfl, hb⟩; refine ⟨_, rfl, ?_⟩; have n0_ := az (below_step (zA HB.out) hb); clear HB; have HB := n0_; clear n0_; (try clear hb); (try clear hb2); (try clear hk); (try clear hi))); go_meet
        case rel => exact ⟨_, (true), zB, H', ⟨zJ HJ4.out⟩, ⟨zA HB.out⟩⟩
       ·
        rw [if_neg c17] at H; have c17b0 : (t135 == 9) = false := beq_eq_false_iff_ne.mpr c17; have c17b1 : (t135 != 9) = true := bne_iff_ne.mpr c17; (first | rw [c17b0] | (simp only [i64_w, i32_w]; rw [c17b0]) | skip); have H' := az H; clear H; go_wp2_with (first | ((with_reducible refine gate_callee (f := 137) rfl ?_); refine goesL_ (some 33) rfl rfl Tryz.func137 (by kernel_rfl) rfl #[.int .i64 (rd l0 a1)] rfl zC ?_; (with_reducible refine (spec_RuneBidi.calls kj4 (rd l0 a1) t135 _ A16.out).mono ?_); rintro e w19 ⟨rfl, hb⟩; refine ⟨_, rfl, ?_⟩; have n0_ := az (below_step (zA HB.out) hb); clear HB; have HB := n0_; clear n0_; (try clear hb); (try clear hb2); (try clear hk); (try clear hi))); go_meet
        case rel => exact ⟨_, (((rd l0 a1) == 8205)), zB, H', ⟨zJ HJ4.out⟩, ⟨zA HB.out⟩⟩
      case rest =>
       clear HC15; (try clear c1); (try clear p1); (try clear q1); (try clear hx1); (try clear p2); (try clear c3); (try clear c3b0); (try clear c4); (try clear c4b0); (try clear c6); (try clear c6b0); (try clear c6b1); (try clear p6); (try clear c8); (try clear c8b0); (try clear c9); (try clear c9b0); (try clear c10); (try clear c12); (try clear c12b0); (try clear c13); (try clear c13b0); (try clear p13); (try clear q13); (try clear hx13); (try clear c14); (try clear c14b0); (try clear c14b1); (try clear c17); (try clear c17b0); (try clear c17b1); (try clear hx132_0); (try clear hx133_0); (try clear hx134_0); (try clear p1); (try clear p132); (try clear p133); (try clear p134); (try clear p2); (try clear p6); (try clear q1); (try clear q132); (try clear q133); (try clear q134); obtain ⟨kq, x38_14, rfl, HA, HJ14, HB⟩ := hcut
       cases kq with
       | zero => exact absurd HA.out (by simp [spec_l2Joins.j1])
       | succ kj14 =>
        have H := HA.out; clear HA; simp only [spec_l2Joins.j1] at H; by_cases c20 : x38_14 = true
        ·
         subst c20; have H1 : (some true) = some r := by rw [if_pos rfl] at H; exact H
         clear H; have H := H1; clear H1; obtain rfl := Option.some.inj H; go_wp2; go_ret; exact ⟨zG, zA HB.out⟩
        ·
         replace c20 := Bool.eq_false_iff.mpr c20; subst c20; have H1 : (spec_l2Joins.l0 kj14 l0 (rd l0 a1) 0 (wrap64 (a1 - 1))) = some r := by rw [if_neg (show ¬ (false = true) by decide)] at H; exact H
         clear H; have H := H1; clear H1; have H' := az H; clear H; go_wp2; go_loopg [6, 7] kj14 (fun kq v6 v7 w' => ∃ (x6_3 : Int) (x7_3 : Int), v6 = .int .i64 x6_3 ∧ v7 = .int .i64 x7_3 ∧ Aside0 (spec_l2Joins.l0 kq l0 (rd l0 a1) x6_3 x7_3 = some r) ∧ Aside0 (kq ≤ kj14) ∧ Aside0 (Below w.heap.size w w'))
         case atStart => exact ⟨(0), (wrap64 (a1 - 1)), zB, zB, H', ⟨Nat.le_refl _⟩, ⟨zA HB.out⟩⟩
         case round =>
          clear H'; (try clear c1); (try clear p1); (try clear q1); (try clear hx1); (try clear c2); (try clear p2); (try clear c3); (try clear c3b0); (try clear c4); (try clear c4b0); (try clear c6); (try clear c6b0); (try clear c6b1); (try clear p6); (try clear c8); (try clear c8b0); (try clear c9); (try clear c9b0); (try clear c10); (try clear c12); (try clear c12b0); (try clear c13); (try clear c13b0); (try clear p13); (try clear q13); (try clear hx13); (try clear c14); (try clear c14b0); (try clear c14b1); (try clear c17); (try clear c17b0); (try clear c17b1); (try clear c20); (try clear hx132_0); (try clear hx133_0); (try clear hx134_0); (try clear p1); (try clear p13); (try clear p132); (try clear p133); (try clear p134); (try clear p2); (try clear p6); (try clear q1); (try clear q13); (try clear q132); (try clear q133); (try clear q134); obtain ⟨x6_3, x7_3, rfl, rfl, HA, HK3, HB⟩ := hrel
          cases gk with
          | zero => exact absurd HA.out (by simp [spec_l2Joins.l0])
          | succ k3 =>
           have H := HA.out; clear HA; simp only [spec_l2Joins.l0] at H; by_cases c21 : x7_3 ≥ 0
           ·
            rw [if_pos c21] at H; have c21b0 : decide (0 ≤ x7_3) = true := decide_eq_true c21; clear c21; by_cases c22 : 0 ≤ x7_3
            ·
             rw [if_pos c22] at H; have c22b0 : decide (0 ≤ x7_3) = true := decide_eq_true c22; clear c22; by_cases c23 : x7_3 < (l0.length : Int)
             ·
              rw [if_pos c23] at H; have c23b0 : decide (x7_3 < (l0.length : Int)) = true := decide_eq_true c23; clear c23; replace H := Option.bind_eq_some_iff.mp H; obtain ⟨t137, A240, H⟩ := H; replace H : (if t137 = true then (spec_l2Joins.l0 k3 l0 (rd l0 a1) (wrap64 (x6_3 + 1)) (wrap64 (x7_3 - 1))) else ((spec_l2Flag.f (rd l0 a1)).bind fun t138 => (if t138 = true then (some ((Int.tmod x6_3 2) == 1)) else (some false)))) = some r := H; have A24 := az A240; clear A240; by_cases c25 : t137 = true
              ·
               subst c25; have H1 : (spec_l2Joins.l0 k3 l0 (rd l0 a1) (wrap64 (x6_3 + 1)) (wrap64 (x7_3 - 1))) = some r := by rw [if_pos rfl] at H; exact H
               clear H; have H := H1; clear H1; have H' := az H; clear H; have p136 : 0 ≤ (x7_3 : Int) := of_decide_eq_true (by assumption); have q136 : x7_3 < (l0.length : Int) := of_decide_eq_true (by assumption); obtain ⟨ad136, e136, hx136_0⟩ := Kd.at_int HR0.out x7_3 p136 q136; obtain rfl : ad132 = ad136 := (by injection e136); replace hx136_0 := (HB.out.cell (World.block_lt_of_cell? w _ hx136_0)).trans hx136_0; replace p136 := eq_true p136; replace q136 := eq_true q136; go_wp2_with (first | (go_at_call 138; (with_reducible refine (spec_l2Flag.calls (rd l0 x7_3) true _ A24.out).mono ?_); rintro e w' ⟨rfl, ⟨nd, rfl⟩⟩)); go_roundg k3
               case measure => have := HJ4.out; have := HJ14.out; have := HK3.out; omega
               case rel => exact ⟨(wrap64 (x6_3 + 1)), (wrap64 (x7_3 - 1)), zB, zB, H', ⟨by have := HJ4.out; have := HJ14.out; have := HK3.out; omega⟩, ⟨zA HB.out⟩⟩
              ·
               replace c25 := Bool.eq_false_iff.mpr c25; subst c25; have H1 : ((spec_l2Flag.f (rd l0 a1)).bind fun t138 => (if t138 = true then (some ((Int.tmod x6_3 2) == 1)) else (some false))) = some r := by rw [if_neg (show ¬ (false = true) by decide)] at H; exact H
               clear H; have H := H1; clear H1; replace H := Option.bind_eq_some_iff.mp H; obtain ⟨t138, A260, H⟩ := H; replace H : (if t138 = true then (some ((Int.tmod x6_3 2) == 1)) else (some false)) = some r := H; have A26 := az A260; clear A260; by_cases c27 : t138 = true
               ·
                subst c27; have H1 : (some ((Int.tmod x6_3 2) == 1)) = some r := by rw [if_pos rfl] at H; exact H
                clear H; have H := H1; clear H1; obtain rfl := Option.some.inj H; have p136 : 0 ≤ (x7_3 : Int) := of_decide_eq_true (by assumption); have q136 : x7_3 < (l0.length : Int) := of_decide_eq_true (by assumption); obtain ⟨ad136, e136, hx136_0⟩ := Kd.at_int HR0.out x7_3 p136 q136; obtain rfl : ad132 = ad136 := (by injection e136); replace hx136_0 := (HB.out.cell (World.block_lt_of_cell? w _ hx136_0)).trans hx136_0; replace p136 := eq_true p136; replace q136 := eq_true q136; go_wp2_with (first | (go_at_call 138; (with_reducible refine (spec_l2Flag.calls (rd l0 x7_3) false _ A24.out).mono ?_); rintro e w' ⟨rfl, ⟨nd, rfl⟩⟩) | ((with_reducible refine gate_callee (f := 138) rfl ?_); refine goesL_ (some 55) rfl rfl Tryz.func138 (by kernel_rfl) rfl #[.int .i64 (rd l0 a1)] rfl zC ?_; (with_reducible refine (spec_l2Flag.calls (rd l0 a1) true _ A26.out).mono ?_); rintro e w' ⟨rfl, ⟨nd, rfl⟩⟩; refine ⟨_, rfl, ?_⟩)); go_ret; exact ⟨zG, zA HB.out⟩
               ·
                replace c27 := Bool.eq_false_iff.mpr c27; subst c27; have H1 : (some false) = some r := by rw [if_neg (show ¬ (false = true) by decide)] at H; exact H
                clear H; have H := H1; clear H1; obtain rfl := Option.some.inj H; have p136 : 0 ≤ (x7_3 : Int) := of_decide_eq_true (by assumption); have q136 : x7_3 < (l0.length : Int) := of_decide_eq_true (by assumption); obtain ⟨ad136, e136, hx136_0⟩ := Kd.at_int HR0.out x7_3 p136 q136; obtain rfl : ad132 = ad136 := (by injection e136); replace hx136_0 := (HB.out.cell (World.block_lt_of_cell? w _ hx136_0)).trans hx136_0; replace p136 := eq_true p136; replace q136 := eq_true q136; go_wp2_with (first | (go_at_call 138; (with_reducible refine (spec_l2Flag.calls (rd l0 x7_3) false _ A24.out).mono ?_); rintro e w' ⟨rfl, ⟨nd, rfl⟩⟩) | ((with_reducible refine gate_callee (f := 138) rfl ?_); refine goesL_ (some 55) rfl rfl Tryz.func138 (by kernel_rfl) rfl #[.int .i64 (rd l0 a1)] rfl zC ?_; (with_reducible refine (spec_l2Flag.calls (rd l0 a1) false _ A26.out).mono ?_); rintro e w' ⟨rfl, ⟨nd, rfl⟩⟩; refine ⟨_, rfl, ?_⟩)); go_ret; exact ⟨zG, zA HB.out⟩
             ·
              rw [if_neg c23] at H; exact absurd H (by simp)
            ·
             rw [if_neg c22] at H; exact absurd H (by simp)
           ·
            rw [if_neg c21] at H; have c21b0 : decide (0 ≤ x7_3) = false := decide_eq_false c21; clear c21; replace H := Option.bind_eq_some_iff.mp H; obtain ⟨t139, A280, H⟩ := H; replace H : (if t139 = true then (some ((Int.tmod x6_3 2) == 1)) else (some false)) = some r := H; have A28 := az A280; clear A280; by_cases c29 : t139 = true
            ·
             subst c29; have H1 : (some ((Int.tmod x6_3 2) == 1)) = some r := by rw [if_pos rfl] at H; exact H
             clear H; have H := H1; clear H1; obtain rfl := Option.some.inj H; go_wp2_with (first | ((with_reducible refine gate_callee (f := 138) rfl ?_); refine goesL_ (some 55) rfl rfl Tryz.func138 (by kernel_rfl) rfl #[.int .i64 (rd l0 a1)] rfl zC ?_; (with_reducible refine (spec_l2Flag.calls (rd l0 a1) true _ A28.out).mono ?_); rintro e w' ⟨rfl, ⟨nd, rfl⟩⟩; refine ⟨_, rfl, ?_⟩)); go_ret; exact ⟨zG, zA HB.out⟩
            ·
             replace c29 := Bool.eq_false_iff.mpr c29; subst c29; have H1 : (some false) = some r := by rw [if_neg (show ¬ (false = true) by decide)] at H; exact H
             clear H; have H := H1; clear H1; obtain rfl := Option.some.inj H; go_wp2_with (first | ((with_reducible refine gate_callee (f := 138) rfl ?_); refine goesL_ (some 55) rfl rfl Tryz.func138 (by kernel_rfl) rfl #[.int .i64 (rd l0 a1)] rfl zC ?_; (with_reducible refine (spec_l2Flag.calls (rd l0 a1) false _ A28.out).mono ?_); rintro e w' ⟨rfl, ⟨nd, rfl⟩⟩; refine ⟨_, rfl, ?_⟩)); go_ret; exact ⟨zG, zA HB.out⟩
  ·
   rw [if_neg c4] at H; exact absurd H (by simp)
 ·
  rw [if_neg c3] at H; exact absurd H (by simp)
def spec_l5Before.l0 : Nat → List Int → Int → Option (Int)
 | 0, _, _ => none
 | k + 1, x0, x1 => if x1 ≥ 0 then (if 0 ≤ x1 then (if x1 < (x0.length : Int) then (if (rd x0 x1) = 3 then (spec_l5Before.l0 k x0 (wrap64 (x1 - 1))) else (some x1)) else (none)) else (none)) else (some x1)
def spec_l5Before.f (k : Nat) (l0 : List Int) (a1 : Int) : Option (Int) := spec_l5Before.l0 k l0 a1
theorem spec_l5Before.mono_l : ∀ k, (∀ y0 y1, LeO (spec_l5Before.l0 k y0 y1) (spec_l5Before.l0 (k + 1) y0 y1))
 | 0 => fun _ _ r h => by simp [spec_l5Before.l0] at h
 | k + 1 => by
  have ih0 := spec_l5Before.mono_l k
  ·
   intro y0 y1; unfold spec_l5Before.l0
   repeat' first
   | (with_reducible exact ih0 _ _)
   | (with_reducible exact LeO.refl _)
   | (with_reducible exact LeO.none _)
   | (with_reducible refine LeO.ite ?_ ?_)
   | (with_reducible refine LeO.bind ?_ (fun _ => ?_))
   | exact ih0 _ _
   | exact LeO.none _
   | refine LeO.ite ?_ ?_
   | refine LeO.bind ?_ (fun _ => ?_)
theorem spec_l5Before.mono : ∀ a0 a1 k, LeO (spec_l5Before.f k a0 a1) (spec_l5Before.f (k + 1) a0 a1) := by
 intro a0 a1 k; have ih0 := spec_l5Before.mono_l k; unfold spec_l5Before.f
 repeat' first
   | (with_reducible exact ih0 _ _)
   | (with_reducible exact LeO.refl _)
   | (with_reducible exact LeO.none _)
   | (with_reducible refine LeO.ite ?_ ?_)
   | (with_reducible refine LeO.bind ?_ (fun _ => ?_))
   | exact ih0 _ _
   | exact LeO.none _
   | refine LeO.ite ?_ ?_
   | refine LeO.bind ?_ (fun _ => ?_)
theorem spec_l5Before.calls (k : Nat) (A0 : Option Addr) (c0 : Nat) (l0 : List Int) (a1 : Int) (r : Int) (w : World) (hr0 : Kd.C (Kd.int .i64) w A0 l0.length l0) (hc0 : l0.length ≤ c0) (h : spec_l5Before.f k l0 a1 = some r) :
  Calls Tryz.prog 126 #[.slice A0 l0.length c0, .int .i64 a1] w fun e w' => e = .returned (.int .i64 r) ∧ Drawn0 w w' := by
 have HR0 := az hr0; have HC0 := az hc0; clear hr0 hc0; have H : (spec_l5Before.l0 k l0 a1) = some r := h; clear h; have H' := az H; clear H; go_enter Tryz.func126, Tryz.ntmps126; go_wp2; go_loopg [1] k (fun kq v1 w' => ∃ (x1_1 : Int), v1 = .int .i64 x1_1 ∧ Aside0 (spec_l5Before.l0 kq l0 x1_1 = some r) ∧ Aside0 (kq ≤ k) ∧ Drawn0 w w')
 case atStart => exact ⟨(a1), zB, H', ⟨Nat.le_refl _⟩, zD⟩
 case round =>
  clear H'; (try clear c1); (try clear p2); obtain ⟨x1_1, rfl, HA, HK1, ⟨m1, rfl⟩⟩ := hrel
  cases gk with
  | zero => exact absurd HA.out (by simp [spec_l5Before.l0])
  | succ k1 =>
   have H := HA.out; clear HA; simp only [spec_l5Before.l0] at H; by_cases c3 : x1_1 ≥ 0
   ·
    rw [if_pos c3] at H; have c3b0 : decide (0 ≤ x1_1) = true := decide_eq_true c3; clear c3; by_cases c4 : 0 ≤ x1_1
    ·
     rw [if_pos c4] at H; have c4b0 : decide (0 ≤ x1_1) = true := decide_eq_true c4; clear c4; by_cases c5 : x1_1 < (l0.length : Int)
     ·
      rw [if_pos c5] at H; have c5b0 : decide (x1_1 < (l0.length : Int)) = true := decide_eq_true c5; clear c5; by_cases c6 : (rd l0 x1_1) = 3
      ·
       rw [if_pos c6] at H; have c6b0 : ((rd l0 x1_1) == 3) = true := beq_iff_eq.mpr c6; have c6b1 : ((rd l0 x1_1) != 3) = false := bne_eq_false_iff_eq.mpr c6; clear c6; have H' := az H; clear H; have p201 : 0 ≤ (x1_1 : Int) := of_decide_eq_true (by assumption); have q201 : x1_1 < (l0.length : Int) := of_decide_eq_true (by assumption); obtain ⟨ad201, e201, hx201_0⟩ := Kd.at_int HR0.out x1_1 p201 q201
       cases e201
       replace p201 := eq_true p201; replace q201 := eq_true q201; go_wp2; go_roundg k1
       case measure => have := HK1.out; omega
       case rel => exact ⟨(wrap64 (x1_1 - 1)), zB, H', ⟨zE HK1.out⟩, zD⟩
      ·
       rw [if_neg c6] at H; have c6b0 : ((rd l0 x1_1) == 3) = false := beq_eq_false_iff_ne.mpr c6; have c6b1 : ((rd l0 x1_1) != 3) = true := bne_iff_ne.mpr c6; obtain rfl := Option.some.inj H; have p201 : 0 ≤ (x1_1 : Int) := of_decide_eq_true (by assumption); have q201 : x1_1 < (l0.length : Int) := of_decide_eq_true (by assumption); obtain ⟨ad201, e201, hx201_0⟩ := Kd.at_int HR0.out x1_1 p201 q201
       cases e201
       replace p201 := eq_true p201; replace q201 := eq_true q201; go_wp2; go_ret; exact ⟨zB, zD⟩
     ·
      rw [if_neg c5] at H; exact absurd H (by simp)
    ·
     rw [if_neg c4] at H; exact absurd H (by simp)
   ·
    rw [if_neg c3] at H; have c3b0 : decide (0 ≤ x1_1) = false := decide_eq_false c3; clear c3; obtain rfl := Option.some.inj H; go_wp2; go_ret; exact ⟨zB, zD⟩
def spec_l5Never.f (a0 : Int) : Option (Bool) := if a0 = 9 then (some true) else (if a0 = 10 then (some true) else (some (a0 == 13)))
theorem spec_l5Never.calls (a0 : Int) (r : Bool) (w : World) (h : spec_l5Never.f a0 = some r) :
  Calls Tryz.prog 140 #[.int .i64 a0] w fun e w' => e = .returned (.bool r) ∧ Drawn0 w w' := by
 have H : (if a0 = 9 then (some true) else (if a0 = 10 then (some true) else (some (a0 == 13)))) = some r := h
 clear h
 by_cases c2 : a0 = 9
 ·
  rw [if_pos c2] at H
  have c2b0 : (a0 == 9) = true := beq_iff_eq.mpr c2
  have c2b1 : (a0 != 9) = false := bne_eq_false_iff_eq.mpr c2
  clear c2
  obtain rfl := Option.some.inj H
  go_enter Tryz.func140, Tryz.ntmps140
  go_wp2
  go_ret
  exact ⟨zB, zD⟩
 ·
  rw [if_neg c2] at H
  have c2b0 : (a0 == 9) = false := beq_eq_false_iff_ne.mpr c2
  have c2b1 : (a0 != 9) = true := bne_iff_ne.mpr c2
  by_cases c3 : a0 = 10
  ·
   rw [if_pos c3] at H
   have c3b0 : (a0 == 10) = true := beq_iff_eq.mpr c3
   have c3b1 : (a0 != 10) = false := bne_eq_false_iff_eq.mpr c3
   clear c3
   obtain rfl := Option.some.inj H
   go_enter Tryz.func140, Tryz.ntmps140
   go_wp2
   go_ret
   exact ⟨zB, zD⟩
  ·
   rw [if_neg c3] at H
   have c3b0 : (a0 == 10) = false := beq_eq_false_iff_ne.mpr c3
   have c3b1 : (a0 != 10) = true := bne_iff_ne.mpr c3
   obtain rfl := Option.some.inj H
   go_enter Tryz.func140, Tryz.ntmps140
   go_wp2
   go_ret
   exact ⟨zB, zD⟩
def spec_l5Word.f (a0 : Int) : Option (Bool) := if a0 = 1 then (some true) else (some (a0 == 2))
theorem spec_l5Word.calls (a0 : Int) (r : Bool) (w : World) (h : spec_l5Word.f a0 = some r) :
  Calls Tryz.prog 145 #[.int .i64 a0] w fun e w' => e = .returned (.bool r) ∧ Drawn0 w w' := by
 have H : (if a0 = 1 then (some true) else (some (a0 == 2))) = some r := h
 clear h
 by_cases c2 : a0 = 1
 ·
  rw [if_pos c2] at H
  have c2b0 : (a0 == 1) = true := beq_iff_eq.mpr c2
  have c2b1 : (a0 != 1) = false := bne_eq_false_iff_eq.mpr c2
  clear c2
  obtain rfl := Option.some.inj H
  go_enter Tryz.func145, Tryz.ntmps145
  go_wp2
  go_ret
  exact ⟨zB, zD⟩
 ·
  rw [if_neg c2] at H
  have c2b0 : (a0 == 1) = false := beq_eq_false_iff_ne.mpr c2
  have c2b1 : (a0 != 1) = true := bne_iff_ne.mpr c2
  obtain rfl := Option.some.inj H
  go_enter Tryz.func145, Tryz.ntmps145
  go_wp2
  go_ret
  exact ⟨zB, zD⟩
mutual
def spec_l5Inner.j0 : Nat → Int → Int → Bool → Option (Int)
 | 0, _, _, _ => none
 | k + 1, x0, x1, x5 => if x5 = true then (some 0) else (if x1 = 2 then (if x0 = 12 then (spec_l5Inner.j1 k x0 x1 true) else (spec_l5Inner.j1 k x0 x1 (x0 == 13))) else (spec_l5Inner.j1 k x0 x1 false))
def spec_l5Inner.j1 : Nat → Int → Int → Bool → Option (Int)
 | 0, _, _, _ => none
 | k + 1, x0, x1, x12 => if x12 = true then (some 0) else (if x0 = 13 then (spec_l5Inner.j2 k x0 x1 (x1 == 1)) else (spec_l5Inner.j2 k x0 x1 false))
def spec_l5Inner.j2 : Nat → Int → Int → Bool → Option (Int)
 | 0, _, _, _ => none
 | k + 1, x0, x1, x23 => if x23 = true then (some 0) else ((spec_l5Word.f x0).bind fun t204 => (if t204 = true then (if x1 = 8 then (some 0) else (if x0 = 9 then ((spec_l5Word.f x1).bind fun t205 => (if t205 = true then (some 0) else (some 1))) else (some 1))) else (if x0 = 9 then ((spec_l5Word.f x1).bind fun t206 => (if t206 = true then (some 0) else (some 1))) else (some 1))))
end
def spec_l5Inner.f (k : Nat) (a0 : Int) (a1 : Int) : Option (Int) := (spec_l5Word.f a0).bind fun t202 => (if t202 = true then ((spec_l5Word.f a1).bind fun t203 => (spec_l5Inner.j0 k a0 a1 t203)) else (spec_l5Inner.j0 k a0 a1 false))
theorem spec_l5Inner.mono_l : ∀ k, (∀ y0 y1 y2, LeO (spec_l5Inner.j0 k y0 y1 y2) (spec_l5Inner.j0 (k + 1) y0 y1 y2)) ∧ (∀ y0 y1 y2, LeO (spec_l5Inner.j1 k y0 y1 y2) (spec_l5Inner.j1 (k + 1) y0 y1 y2)) ∧ (∀ y0 y1 y2, LeO (spec_l5Inner.j2 k y0 y1 y2) (spec_l5Inner.j2 (k + 1) y0 y1 y2))
 | 0 => ⟨fun _ _ _ r h => by simp [spec_l5Inner.j0] at h, fun _ _ _ r h => by simp [spec_l5Inner.j1] at h, fun _ _ _ r h => by simp [spec_l5Inner.j2] at h⟩
 | k + 1 => by
  obtain ⟨ih0, ih1, ih2⟩ := spec_l5Inner.mono_l k; refine ⟨?_, ?_, ?_⟩
  ·
   intro y0 y1 y2; unfold spec_l5Inner.j0
   repeat' first
   | (with_reducible exact ih0 _ _ _)
   | (with_reducible exact ih1 _ _ _)
   | (with_reducible exact ih2 _ _ _)
   | (with_reducible exact LeO.refl _)
   | (with_reducible exact LeO.none _)
   | (with_reducible refine LeO.ite ?_ ?_)
   | (with_reducible refine LeO.bind ?_ (fun _ => ?_))
   | exact ih0 _ _ _
   | exact ih1 _ _ _
   | exact ih2 _ _ _
   | exact LeO.none _
   | refine LeO.ite ?_ ?_
   | refine LeO.bind ?_ (fun _ => ?_)
  ·
   intro y0 y1 y2; unfold spec_l5Inner.j1
   repeat' first
   | (with_reducible exact ih0 _ _ _)
   | (with_reducible exact ih1 _ _ _)
   | (with_reducible exact ih2 _ _ _)
   | (with_reducible exact LeO.refl _)
   | (with_reducible exact LeO.none _)
   | (with_reducible refine LeO.ite ?_ ?_)
   | (with_reducible refine LeO.bind ?_ (fun _ => ?_))
   | exact ih0 _ _ _
   | exact ih1 _ _ _
   | exact ih2 _ _ _
   | exact LeO.none _
   | refine LeO.ite ?_ ?_
   | refine LeO.bind ?_ (fun _ => ?_)
  ·
   intro y0 y1 y2; unfold spec_l5Inner.j2
   repeat' first
   | (with_reducible exact ih0 _ _ _)
   | (with_reducible exact ih1 _ _ _)
   | (with_reducible exact ih2 _ _ _)
   | (with_reducible exact LeO.refl _)
   | (with_reducible exact LeO.none _)
   | (with_reducible refine LeO.ite ?_ ?_)
   | (with_reducible refine LeO.bind ?_ (fun _ => ?_))
   | exact ih0 _ _ _
   | exact ih1 _ _ _
   | exact ih2 _ _ _
   | exact LeO.none _
   | refine LeO.ite ?_ ?_
   | refine LeO.bind ?_ (fun _ => ?_)
theorem spec_l5Inner.mono : ∀ a0 a1 k, LeO (spec_l5Inner.f k a0 a1) (spec_l5Inner.f (k + 1) a0 a1) := by
 intro a0 a1 k; obtain ⟨ih0, ih1, ih2⟩ := spec_l5Inner.mono_l k; unfold spec_l5Inner.f
 repeat' first
   | (with_reducible exact ih0 _ _ _)
   | (with_reducible exact ih1 _ _ _)
   | (with_reducible exact ih2 _ _ _)
   | (with_reducible exact LeO.refl _)
   | (with_reducible exact LeO.none _)
   | (with_reducible refine LeO.ite ?_ ?_)
   | (with_reducible refine LeO.bind ?_ (fun _ => ?_))
   | exact ih0 _ _ _
   | exact ih1 _ _ _
   | exact ih2 _ _ _
   | exact LeO.none _
   | refine LeO.ite ?_ ?_
   | refine LeO.bind ?_ (fun _ => ?_)
theorem spec_l5Inner.calls (k : Nat) (a0 : Int) (a1 : Int) (r : Int) (w : World) (h : spec_l5Inner.f k a0 a1 = some r) :
  Calls Tryz.prog 141 #[.int .i64 a0, .int .i64 a1] w fun e w' => e = .returned (.int .i64 r) ∧ Drawn0 w w' := by
 have H : ((spec_l5Word.f a0).bind fun t202 => (if t202 = true then ((spec_l5Word.f a1).bind fun t203 => (spec_l5Inner.j0 k a0 a1 t203)) else (spec_l5Inner.j0 k a0 a1 false))) = some r := h; clear h; have HC3 := az H; clear H; go_enter Tryz.func141, Tryz.ntmps141; go_upto_region 1 with (fail)
 go_cut [5] (fun v5 wc => ∃ (kq : Nat) (x5_2 : Bool), v5 = .bool x5_2 ∧ Aside0 (spec_l5Inner.j0 kq a0 a1 x5_2 = some r) ∧ Aside0 (kq ≤ k) ∧ Drawn0 w wc)
 case first =>
  have H := HC3.out; clear HC3; replace H := Option.bind_eq_some_iff.mp H; obtain ⟨t202, A40, H⟩ := H; replace H : (if t202 = true then ((spec_l5Word.f a1).bind fun t203 => (spec_l5Inner.j0 k a0 a1 t203)) else (spec_l5Inner.j0 k a0 a1 false)) = some r := H; have A4 := az A40; clear A40; by_cases c5 : t202 = true
  ·
   subst c5; have H1 : ((spec_l5Word.f a1).bind fun t203 => (spec_l5Inner.j0 k a0 a1 t203)) = some r := by rw [if_pos rfl] at H; exact H
   clear H; have H := H1; clear H1; replace H := Option.bind_eq_some_iff.mp H; obtain ⟨t203, A60, H⟩ := H; replace H : (spec_l5Inner.j0 k a0 a1 t203) = some r := H; have A6 := az A60; clear A60; have H' := az H; clear H; go_wp2_with (first | ((with_reducible refine gate_callee (f := 145) rfl ?_); refine goesL_ (some 7) rfl rfl Tryz.func145 (by kernel_rfl) rfl #[.int .i64 a0] rfl zC ?_; (with_reducible refine (spec_l5Word.calls a0 true _ A4.out).mono ?_); rintro e w' ⟨rfl, ⟨nd, rfl⟩⟩; refine ⟨_, rfl, ?_⟩) | (go_at_call 145; (with_reducible refine (spec_l5Word.calls a1 t203 _ A6.out).mono ?_); rintro e w' ⟨rfl, ⟨nd, rfl⟩⟩)); go_meet
   case rel => exact ⟨_, (t203), zB, H', ⟨zI⟩, zD⟩
  ·
   replace c5 := Bool.eq_false_iff.mpr c5; subst c5; have H1 : (spec_l5Inner.j0 k a0 a1 false) = some r := by rw [if_neg (show ¬ (false = true) by decide)] at H; exact H
   clear H; have H := H1; clear H1; have H' := az H; clear H; go_wp2_with (first | ((with_reducible refine gate_callee (f := 145) rfl ?_); refine goesL_ (some 7) rfl rfl Tryz.func145 (by kernel_rfl) rfl #[.int .i64 a0] rfl zC ?_; (with_reducible refine (spec_l5Word.calls a0 false _ A4.out).mono ?_); rintro e w' ⟨rfl, ⟨nd, rfl⟩⟩; refine ⟨_, rfl, ?_⟩)); go_meet
   case rel => exact ⟨_, (false), zB, H', ⟨zI⟩, zD⟩
 case rest =>
  clear HC3; (try clear c1); (try clear p2); (try clear c5); obtain ⟨kq, x5_2, rfl, HA, HJ2, ⟨mc2, rfl⟩⟩ := hcut
  cases kq with
  | zero => exact absurd HA.out (by simp [spec_l5Inner.j0])
  | succ kj2 =>
   have H := HA.out; clear HA; simp only [spec_l5Inner.j0] at H; by_cases c7 : x5_2 = true
   ·
    subst c7; have H1 : (some 0) = some r := by rw [if_pos rfl] at H; exact H
    clear H; have H := H1; clear H1; obtain rfl := Option.some.inj H; go_wp2; go_ret; exact ⟨zB, zD⟩
   ·
    replace c7 := Bool.eq_false_iff.mpr c7; subst c7; have H1 : (if a1 = 2 then (if a0 = 12 then (spec_l5Inner.j1 kj2 a0 a1 true) else (spec_l5Inner.j1 kj2 a0 a1 (a0 == 13))) else (spec_l5Inner.j1 kj2 a0 a1 false)) = some r := by rw [if_neg (show ¬ (false = true) by decide)] at H; exact H
    clear H; have H := H1; clear H1; have HC8 := az H; clear H; go_upto_region 3 with (fail)
    go_cut [12] (fun v12 wc => ∃ (kq : Nat) (x12_7 : Bool), v12 = .bool x12_7 ∧ Aside0 (spec_l5Inner.j1 kq a0 a1 x12_7 = some r) ∧ Aside0 (kq ≤ kj2) ∧ Drawn0 w wc)
    case first =>
     have H := HC8.out; clear HC8; by_cases c9 : a1 = 2
     ·
      rw [if_pos c9] at H; have c9b0 : (a1 == 2) = true := beq_iff_eq.mpr c9; have c9b1 : (a1 != 2) = false := bne_eq_false_iff_eq.mpr c9; clear c9; (first | rw [c9b0] | (simp only [i64_w, i32_w]; rw [c9b0]) | skip); by_cases c10 : a0 = 12
      ·
       rw [if_pos c10] at H; have c10b0 : (a0 == 12) = true := beq_iff_eq.mpr c10; have c10b1 : (a0 != 12) = false := bne_eq_false_iff_eq.mpr c10; clear c10; have H' := az H; clear H; go_wp2; go_meet
       case rel => exact ⟨_, (true), zB, H', ⟨zJ HJ2.out⟩, zD⟩
      ·
       rw [if_neg c10] at H; have c10b0 : (a0 == 12) = false := beq_eq_false_iff_ne.mpr c10; have c10b1 : (a0 != 12) = true := bne_iff_ne.mpr c10; have H' := az H; clear H; go_wp2; go_meet
       case rel => exact ⟨_, ((a0 == 13)), zB, H', ⟨zJ HJ2.out⟩, zD⟩
     ·
      rw [if_neg c9] at H; have c9b0 : (a1 == 2) = false := beq_eq_false_iff_ne.mpr c9; have c9b1 : (a1 != 2) = true := bne_iff_ne.mpr c9; (first | rw [c9b0] | (simp only [i64_w, i32_w]; rw [c9b0]) | skip); have H' := az H; clear H; go_wp2; go_meet
      case rel => exact ⟨_, (false), zB, H', ⟨zJ HJ2.out⟩, zD⟩
    case rest =>
     clear HC8; (try clear c1); (try clear c2); (try clear p2); (try clear c5); (try clear c7); (try clear c9); (try clear c9b0); (try clear c9b1); (try clear c10); (try clear c10b0); (try clear c10b1); (try clear p2); obtain ⟨kq, x12_7, rfl, HA, HJ7, ⟨mc7, rfl⟩⟩ := hcut
     cases kq with
     | zero => exact absurd HA.out (by simp [spec_l5Inner.j1])
     | succ kj7 =>
      have H := HA.out; clear HA; simp only [spec_l5Inner.j1] at H; by_cases c11 : x12_7 = true
      ·
       subst c11; have H1 : (some 0) = some r := by rw [if_pos rfl] at H; exact H
       clear H; have H := H1; clear H1; obtain rfl := Option.some.inj H; go_wp2; go_ret; exact ⟨zB, zD⟩
      ·
       replace c11 := Bool.eq_false_iff.mpr c11; subst c11; have H1 : (if a0 = 13 then (spec_l5Inner.j2 kj7 a0 a1 (a1 == 1)) else (spec_l5Inner.j2 kj7 a0 a1 false)) = some r := by rw [if_neg (show ¬ (false = true) by decide)] at H; exact H
       clear H; have H := H1; clear H1; have HC12 := az H; clear H; go_upto_region 5 with (fail)
       go_cut [23] (fun v23 wc => ∃ (kq : Nat) (x23_11 : Bool), v23 = .bool x23_11 ∧ Aside0 (spec_l5Inner.j2 kq a0 a1 x23_11 = some r) ∧ Aside0 (kq ≤ kj7) ∧ Drawn0 w wc)
       case first =>
        have H := HC12.out; clear HC12; by_cases c13 : a0 = 13
        ·
         rw [if_pos c13] at H; have c13b0 : (a0 == 13) = true := beq_iff_eq.mpr c13; have c13b1 : (a0 != 13) = false := bne_eq_false_iff_eq.mpr c13; clear c13; (first | rw [c13b0] | (simp only [i64_w, i32_w]; rw [c13b0]) | skip); have H' := az H; clear H; go_wp2; go_meet
         case rel => exact ⟨_, ((a1 == 1)), zB, H', ⟨zO HJ2.out HJ7.out⟩, zD⟩
        ·
         rw [if_neg c13] at H; have c13b0 : (a0 == 13) = false := beq_eq_false_iff_ne.mpr c13; have c13b1 : (a0 != 13) = true := bne_iff_ne.mpr c13; (first | rw [c13b0] | (simp only [i64_w, i32_w]; rw [c13b0]) | skip); have H' := az H; clear H; go_wp2; go_meet
         case rel => exact ⟨_, (false), zB, H', ⟨zO HJ2.out HJ7.out⟩, zD⟩
       case rest =>
        clear HC12; (try clear c1); (try clear c2); (try clear p2); (try clear c5); (try clear c7); (try clear c9); (try clear c9b0); (try clear c9b1); (try clear c10); (try clear c10b0); (try clear c10b1); (try clear c11); (try clear c13); (try clear c13b0); (try clear c13b1); (try clear p2); obtain ⟨kq, x23_11, rfl, HA, HJ11, ⟨mc11, rfl⟩⟩ := hcut
        cases kq with
        | zero => exact absurd HA.out (by simp [spec_l5Inner.j2])
        | succ kj11 =>
         have H := HA.out; clear HA; simp only [spec_l5Inner.j2] at H; by_cases c14 : x23_11 = true
         ·
          subst c14; have H1 : (some 0) = some r := by rw [if_pos rfl] at H; exact H
          clear H; have H := H1; clear H1; obtain rfl := Option.some.inj H; go_wp2; go_ret; exact ⟨zB, zD⟩
         ·
          replace c14 := Bool.eq_false_iff.mpr c14; subst c14; have H1 : ((spec_l5Word.f a0).bind fun t204 => (if t204 = true then (if a1 = 8 then (some 0) else (if a0 = 9 then ((spec_l5Word.f a1).bind fun t205 => (if t205 = true then (some 0) else (some 1))) else (some 1))) else (if a0 = 9 then ((spec_l5Word.f a1).bind fun t206 => (if t206 = true then (some 0) else (some 1))) else (some 1)))) = some r := by rw [if_neg (show ¬ (false = true) by decide)] at H; exact H
          clear H; have H := H1; clear H1; replace H := Option.bind_eq_some_iff.mp H; obtain ⟨t204, A150, H⟩ := H; replace H : (if t204 = true then (if a1 = 8 then (some 0) else (if a0 = 9 then ((spec_l5Word.f a1).bind fun t205 => (if t205 = true then (some 0) else (some 1))) else (some 1))) else (if a0 = 9 then ((spec_l5Word.f a1).bind fun t206 => (if t206 = true then (some 0) else (some 1))) else (some 1))) = some r := H; have A15 := az A150; clear A150; by_cases c16 : t204 = true
          ·
           subst c16; have H1 : (if a1 = 8 then (some 0) else (if a0 = 9 then ((spec_l5Word.f a1).bind fun t205 => (if t205 = true then (some 0) else (some 1))) else (some 1))) = some r := by rw [if_pos rfl] at H; exact H
           clear H; have H := H1; clear H1; by_cases c17 : a1 = 8
           ·
            rw [if_pos c17] at H; have c17b0 : (a1 == 8) = true := beq_iff_eq.mpr c17; have c17b1 : (a1 != 8) = false := bne_eq_false_iff_eq.mpr c17; clear c17; obtain rfl := Option.some.inj H; go_wp2_with (first | ((with_reducible refine gate_callee (f := 145) rfl ?_); refine goesL_ (some 32) rfl rfl Tryz.func145 (by kernel_rfl) rfl #[.int .i64 a0] rfl zC ?_; (with_reducible refine (spec_l5Word.calls a0 true _ A15.out).mono ?_); rintro e w' ⟨rfl, ⟨nd, rfl⟩⟩; refine ⟨_, rfl, ?_⟩)); go_ret; exact ⟨zB, zD⟩
           ·
            rw [if_neg c17] at H; have c17b0 : (a1 == 8) = false := beq_eq_false_iff_ne.mpr c17; have c17b1 : (a1 != 8) = true := bne_iff_ne.mpr c17; by_cases c18 : a0 = 9
            ·
             rw [if_pos c18] at H; have c18b0 : (a0 == 9) = true := beq_iff_eq.mpr c18; have c18b1 : (a0 != 9) = false := bne_eq_false_iff_eq.mpr c18; clear c18; replace H := Option.bind_eq_some_iff.mp H; obtain ⟨t205, A190, H⟩ := H; replace H : (if t205 = true then (some 0) else (some 1)) = some r := H; have A19 := az A190; clear A190; by_cases c20 : t205 = true
             ·
              subst c20; have H1 : (some 0) = some r := by rw [if_pos rfl] at H; exact H
              clear H; have H := H1; clear H1; obtain rfl := Option.some.inj H; go_wp2_with (first | ((with_reducible refine gate_callee (f := 145) rfl ?_); refine goesL_ (some 32) rfl rfl Tryz.func145 (by kernel_rfl) rfl #[.int .i64 a0] rfl zC ?_; (with_reducible refine (spec_l5Word.calls a0 true _ A15.out).mono ?_); rintro e w' ⟨rfl, ⟨nd, rfl⟩⟩; refine ⟨_, rfl, ?_⟩) | (go_at_call 145; (with_reducible refine (spec_l5Word.calls a1 true _ A19.out).mono ?_); rintro e w' ⟨rfl, ⟨nd, rfl⟩⟩)); go_ret; exact ⟨zB, zD⟩
             ·
              replace c20 := Bool.eq_false_iff.mpr c20; subst c20; have H1 : (some 1) = some r := by rw [if_neg (show ¬ (false = true) by decide)] at H; exact H
              clear H; have H := H1; clear H1; obtain rfl := Option.some.inj H; go_wp2_with (first | ((with_reducible refine gate_callee (f := 145) rfl ?_); refine goesL_ (some 32) rfl rfl Tryz.func145 (by kernel_rfl) rfl #[.int .i64 a0] rfl zC ?_; (with_reducible refine (spec_l5Word.calls a0 true _ A15.out).mono ?_); rintro e w' ⟨rfl, ⟨nd, rfl⟩⟩; refine ⟨_, rfl, ?_⟩) | (go_at_call 145; (with_reducible refine (spec_l5Word.calls a1 false _ A19.out).mono ?_); rintro e w' ⟨rfl, ⟨nd, rfl⟩⟩)); go_ret; exact ⟨zB, zD⟩
            ·
             rw [if_neg c18] at H; have c18b0 : (a0 == 9) = false := beq_eq_false_iff_ne.mpr c18; have c18b1 : (a0 != 9) = true := bne_iff_ne.mpr c18; obtain rfl := Option.some.inj H; go_wp2_with (first | ((with_reducible refine gate_callee (f := 145) rfl ?_); refine goesL_ (some 32) rfl rfl Tryz.func145 (by kernel_rfl) rfl #[.int .i64 a0] rfl zC ?_; (with_reducible refine (spec_l5Word.calls a0 true _ A15.out).mono ?_); rintro e w' ⟨rfl, ⟨nd, rfl⟩⟩; refine ⟨_, rfl, ?_⟩)); go_ret; exact ⟨zB, zD⟩
          ·
           replace c16 := Bool.eq_false_iff.mpr c16; subst c16; have H1 : (if a0 = 9 then ((spec_l5Word.f a1).bind fun t206 => (if t206 = true then (some 0) else (some 1))) else (some 1)) = some r := by rw [if_neg (show ¬ (false = true) by decide)] at H; exact H
           clear H; have H := H1; clear H1; by_cases c21 : a0 = 9
           ·
            rw [if_pos c21] at H; have c21b0 : (a0 == 9) = true := beq_iff_eq.mpr c21; have c21b1 : (a0 != 9) = false := bne_eq_false_iff_eq.mpr c21; clear c21; replace H := Option.bind_eq_some_iff.mp H; obtain ⟨t206, A220, H⟩ := H; replace H : (if t206 = true then (some 0) else (some 1)) = some r := H; have A22 := az A220; clear A220; by_cases c23 : t206 = true
            ·
             subst c23; have H1 : (some 0) = some r := by rw [if_pos rfl] at H; exact H
             clear H; have H := H1; clear H1; obtain rfl := Option.some.inj H; go_wp2_with (first | ((with_reducible refine gate_callee (f := 145) rfl ?_); refine goesL_ (some 32) rfl rfl Tryz.func145 (by kernel_rfl) rfl #[.int .i64 a0] rfl zC ?_; (with_reducible refine (spec_l5Word.calls a0 false _ A15.out).mono ?_); rintro e w' ⟨rfl, ⟨nd, rfl⟩⟩; refine ⟨_, rfl, ?_⟩) | (go_at_call 145; (with_reducible refine (spec_l5Word.calls a1 true _ A22.out).mono ?_); rintro e w' ⟨rfl, ⟨nd, rfl⟩⟩)); go_ret; exact ⟨zB, zD⟩
            ·
             replace c23 := Bool.eq_false_iff.mpr c23; subst c23; have H1 : (some 1) = some r := by rw [if_neg (show ¬ (false = true) by decide)] at H; exact H
             clear H; have H := H1; clear H1; obtain rfl := Option.some.inj H; go_wp2_with (first | ((with_reducible refine gate_callee (f := 145) rfl ?_); refine goesL_ (some 32) rfl rfl Tryz.func145 (by kernel_rfl) rfl #[.int .i64 a0] rfl zC ?_; (with_reducible refine (spec_l5Word.calls a0 false _ A15.out).mono ?_); rintro e w' ⟨rfl, ⟨nd, rfl⟩⟩; refine ⟨_, rfl, ?_⟩) | (go_at_call 145; (with_reducible refine (spec_l5Word.calls a1 false _ A22.out).mono ?_); rintro e w' ⟨rfl, ⟨nd, rfl⟩⟩)); go_ret; exact ⟨zB, zD⟩
           ·
            rw [if_neg c21] at H; have c21b0 : (a0 == 9) = false := beq_eq_false_iff_ne.mpr c21; have c21b1 : (a0 != 9) = true := bne_iff_ne.mpr c21; obtain rfl := Option.some.inj H; go_wp2_with (first | ((with_reducible refine gate_callee (f := 145) rfl ?_); refine goesL_ (some 32) rfl rfl Tryz.func145 (by kernel_rfl) rfl #[.int .i64 a0] rfl zC ?_; (with_reducible refine (spec_l5Word.calls a0 false _ A15.out).mono ?_); rintro e w' ⟨rfl, ⟨nd, rfl⟩⟩; refine ⟨_, rfl, ?_⟩)); go_ret; exact ⟨zB, zD⟩
mutual
def spec_l5Place.j0 : Nat → Int → Int → Int → Bool → Option (Int)
 | 0, _, _, _, _ => none
 | k + 1, x0, x1, x2, x10 => if x10 = true then (some 0) else (if x2 = 6 then (some 1) else (if x0 = 5 then (spec_l5Place.j1 k x0 x1 x2 true) else (if x1 = 5 then (if x0 = 3 then (spec_l5Place.j1 k x0 x1 x2 false) else (if x0 = 14 then (spec_l5Place.j1 k x0 x1 x2 false) else (spec_l5Place.j1 k x0 x1 x2 (x0 != 12)))) else (spec_l5Place.j1 k x0 x1 x2 false))))
def spec_l5Place.j1 : Nat → Int → Int → Int → Bool → Option (Int)
 | 0, _, _, _, _ => none
 | k + 1, x0, x1, x2, x24 => if x24 = true then (some 0) else ((spec_l5Never.f x1).bind fun t207 => (if t207 = true then (if x0 = 3 then ((spec_l5Never.f x1).bind fun t208 => (if t208 = true then (if x2 = 0 then (spec_l5Place.j2 k x0 x1 x2 false) else (spec_l5Place.j2 k x0 x1 x2 (x1 != 13))) else (spec_l5Place.j2 k x0 x1 x2 false))) else (spec_l5Place.j2 k x0 x1 x2 true)) else ((spec_l5Never.f x1).bind fun t209 => (if t209 = true then (if x2 = 0 then (spec_l5Place.j2 k x0 x1 x2 false) else (spec_l5Place.j2 k x0 x1 x2 (x1 != 13))) else (spec_l5Place.j2 k x0 x1 x2 false)))))
def spec_l5Place.j2 : Nat → Int → Int → Int → Bool → Option (Int)
 | 0, _, _, _, _ => none
 | k + 1, x0, x1, x2, x43 => if x43 = true then (some 0) else (if x2 = 8 then (some 0) else (if x0 = 3 then (some 1) else (if x0 = 11 then (some 0) else (if x1 = 11 then (some 0) else (if x1 = 14 then (some 0) else (if x1 = 12 then (some 0) else ((spec_l5Inner.f k x0 x1).bind fun t210 => (some t210))))))))
end
def spec_l5Place.f (k : Nat) (a0 : Int) (a1 : Int) (a2 : Int) : Option (Int) := if a0 = 4 then (some 2) else (if a1 = 4 then (spec_l5Place.j0 k a0 a1 a2 true) else (if a1 = 3 then (spec_l5Place.j0 k a0 a1 a2 true) else (spec_l5Place.j0 k a0 a1 a2 (a1 == 6))))
theorem spec_l5Place.mono_l : ∀ k, (∀ y0 y1 y2 y3, LeO (spec_l5Place.j0 k y0 y1 y2 y3) (spec_l5Place.j0 (k + 1) y0 y1 y2 y3)) ∧ (∀ y0 y1 y2 y3, LeO (spec_l5Place.j1 k y0 y1 y2 y3) (spec_l5Place.j1 (k + 1) y0 y1 y2 y3)) ∧ (∀ y0 y1 y2 y3, LeO (spec_l5Place.j2 k y0 y1 y2 y3) (spec_l5Place.j2 (k + 1) y0 y1 y2 y3))
 | 0 => ⟨fun _ _ _ _ r h => by simp [spec_l5Place.j0] at h, fun _ _ _ _ r h => by simp [spec_l5Place.j1] at h, fun _ _ _ _ r h => by simp [spec_l5Place.j2] at h⟩
 | k + 1 => by
  obtain ⟨ih0, ih1, ih2⟩ := spec_l5Place.mono_l k; refine ⟨?_, ?_, ?_⟩
  ·
   intro y0 y1 y2 y3; unfold spec_l5Place.j0
   repeat' first
   | (with_reducible exact ih0 _ _ _ _)
   | (with_reducible exact ih1 _ _ _ _)
   | (with_reducible exact ih2 _ _ _ _)
   | (with_reducible exact spec_l5Inner.mono _ _ _)
   | (with_reducible exact LeO.refl _)
   | (with_reducible exact LeO.none _)
   | (with_reducible refine LeO.ite ?_ ?_)
   | (with_reducible refine LeO.bind ?_ (fun _ => ?_))
   | exact ih0 _ _ _ _
   | exact ih1 _ _ _ _
   | exact ih2 _ _ _ _
   | exact spec_l5Inner.mono _ _ _
   | exact LeO.none _
   | refine LeO.ite ?_ ?_
   | refine LeO.bind ?_ (fun _ => ?_)
  ·
   intro y0 y1 y2 y3; unfold spec_l5Place.j1
   repeat' first
   | (with_reducible exact ih0 _ _ _ _)
   | (with_reducible exact ih1 _ _ _ _)
   | (with_reducible exact ih2 _ _ _ _)
   | (with_reducible exact spec_l5Inner.mono _ _ _)
   | (with_reducible exact LeO.refl _)
   | (with_reducible exact LeO.none _)
   | (with_reducible refine LeO.ite ?_ ?_)
   | (with_reducible refine LeO.bind ?_ (fun _ => ?_))
   | exact ih0 _ _ _ _
   | exact ih1 _ _ _ _
   | exact ih2 _ _ _ _
   | exact spec_l5Inner.mono _ _ _
   | exact LeO.none _
   | refine LeO.ite ?_ ?_
   | refine LeO.bind ?_ (fun _ => ?_)
  ·
   intro y0 y1 y2 y3; unfold spec_l5Place.j2
   repeat' first
   | (with_reducible exact ih0 _ _ _ _)
   | (with_reducible exact ih1 _ _ _ _)
   | (with_reducible exact ih2 _ _ _ _)
   | (with_reducible exact spec_l5Inner.mono _ _ _)
   | (with_reducible exact LeO.refl _)
   | (with_reducible exact LeO.none _)
   | (with_reducible refine LeO.ite ?_ ?_)
   | (with_reducible refine LeO.bind ?_ (fun _ => ?_))
   | exact ih0 _ _ _ _
   | exact ih1 _ _ _ _
   | exact ih2 _ _ _ _
   | exact spec_l5Inner.mono _ _ _
   | exact LeO.none _
   | refine LeO.ite ?_ ?_
   | refine LeO.bind ?_ (fun _ => ?_)
theorem spec_l5Place.mono : ∀ a0 a1 a2 k, LeO (spec_l5Place.f k a0 a1 a2) (spec_l5Place.f (k + 1) a0 a1 a2) := by
 intro a0 a1 a2 k; obtain ⟨ih0, ih1, ih2⟩ := spec_l5Place.mono_l k; unfold spec_l5Place.f
 repeat' first
   | (with_reducible exact ih0 _ _ _ _)
   | (with_reducible exact ih1 _ _ _ _)
   | (with_reducible exact ih2 _ _ _ _)
   | (with_reducible exact spec_l5Inner.mono _ _ _)
   | (with_reducible exact LeO.refl _)
   | (with_reducible exact LeO.none _)
   | (with_reducible refine LeO.ite ?_ ?_)
   | (with_reducible refine LeO.bind ?_ (fun _ => ?_))
   | exact ih0 _ _ _ _
   | exact ih1 _ _ _ _
   | exact ih2 _ _ _ _
   | exact spec_l5Inner.mono _ _ _
   | exact LeO.none _
   | refine LeO.ite ?_ ?_
   | refine LeO.bind ?_ (fun _ => ?_)
theorem spec_l5Place.calls (k : Nat) (a0 : Int) (a1 : Int) (a2 : Int) (r : Int) (w : World) (h : spec_l5Place.f k a0 a1 a2 = some r) :
  Calls Tryz.prog 127 #[.int .i64 a0, .int .i64 a1, .int .i64 a2] w fun e w' => e = .returned (.int .i64 r) ∧ Drawn0 w w' := by
 have H : (if a0 = 4 then (some 2) else (if a1 = 4 then (spec_l5Place.j0 k a0 a1 a2 true) else (if a1 = 3 then (spec_l5Place.j0 k a0 a1 a2 true) else (spec_l5Place.j0 k a0 a1 a2 (a1 == 6))))) = some r := h; clear h; by_cases c4 : a0 = 4
 ·
  rw [if_pos c4] at H; have c4b0 : (a0 == 4) = true := beq_iff_eq.mpr c4; have c4b1 : (a0 != 4) = false := bne_eq_false_iff_eq.mpr c4; clear c4; obtain rfl := Option.some.inj H; go_enter Tryz.func127, Tryz.ntmps127; go_wp2; go_ret; exact ⟨zB, zD⟩
 ·
  rw [if_neg c4] at H; have c4b0 : (a0 == 4) = false := beq_eq_false_iff_ne.mpr c4; have c4b1 : (a0 != 4) = true := bne_iff_ne.mpr c4; have HC5 := az H; clear H; go_enter Tryz.func127, Tryz.ntmps127; go_upto_region 3 with (fail)
  go_cut [10] (fun v10 wc => ∃ (kq : Nat) (x10_4 : Bool), v10 = .bool x10_4 ∧ Aside0 (spec_l5Place.j0 kq a0 a1 a2 x10_4 = some r) ∧ Aside0 (kq ≤ k) ∧ Drawn0 w wc)
  case first =>
   have H := HC5.out; clear HC5; by_cases c6 : a1 = 4
   ·
    rw [if_pos c6] at H; have c6b0 : (a1 == 4) = true := beq_iff_eq.mpr c6; have c6b1 : (a1 != 4) = false := bne_eq_false_iff_eq.mpr c6; clear c6; (first | rw [c6b0] | (simp only [i64_w, i32_w]; rw [c6b0]) | skip); have H' := az H; clear H; go_wp2; go_meet
    case rel => exact ⟨_, (true), zB, H', ⟨zI⟩, zD⟩
   ·
    rw [if_neg c6] at H; have c6b0 : (a1 == 4) = false := beq_eq_false_iff_ne.mpr c6; have c6b1 : (a1 != 4) = true := bne_iff_ne.mpr c6; (first | rw [c6b0] | (simp only [i64_w, i32_w]; rw [c6b0]) | skip); by_cases c7 : a1 = 3
    ·
     rw [if_pos c7] at H; have c7b0 : (a1 == 3) = true := beq_iff_eq.mpr c7; have c7b1 : (a1 != 3) = false := bne_eq_false_iff_eq.mpr c7; clear c7; have H' := az H; clear H; go_wp2; go_meet
     case rel => exact ⟨_, (true), zB, H', ⟨zI⟩, zD⟩
    ·
     rw [if_neg c7] at H; have c7b0 : (a1 == 3) = false := beq_eq_false_iff_ne.mpr c7; have c7b1 : (a1 != 3) = true := bne_iff_ne.mpr c7; have H' := az H; clear H; go_wp2; go_meet
     case rel => exact ⟨_, ((a1 == 6)), zB, H', ⟨zI⟩, zD⟩
  case rest =>
   clear HC5; (try clear c1); (try clear p2); (try clear c4); (try clear c4b0); (try clear c4b1); (try clear c6); (try clear c6b0); (try clear c6b1); (try clear c7); (try clear c7b0); (try clear c7b1); obtain ⟨kq, x10_4, rfl, HA, HJ4, ⟨mc4, rfl⟩⟩ := hcut
   cases kq with
   | zero => exact absurd HA.out (by simp [spec_l5Place.j0])
   | succ kj4 =>
    have H := HA.out; clear HA; simp only [spec_l5Place.j0] at H; by_cases c8 : x10_4 = true
    ·
     subst c8; have H1 : (some 0) = some r := by rw [if_pos rfl] at H; exact H
     clear H; have H := H1; clear H1; obtain rfl := Option.some.inj H; go_wp2; go_ret; exact ⟨zB, zD⟩
    ·
     replace c8 := Bool.eq_false_iff.mpr c8; subst c8; have H1 : (if a2 = 6 then (some 1) else (if a0 = 5 then (spec_l5Place.j1 kj4 a0 a1 a2 true) else (if a1 = 5 then (if a0 = 3 then (spec_l5Place.j1 kj4 a0 a1 a2 false) else (if a0 = 14 then (spec_l5Place.j1 kj4 a0 a1 a2 false) else (spec_l5Place.j1 kj4 a0 a1 a2 (a0 != 12)))) else (spec_l5Place.j1 kj4 a0 a1 a2 false)))) = some r := by rw [if_neg (show ¬ (false = true) by decide)] at H; exact H
     clear H; have H := H1; clear H1; by_cases c9 : a2 = 6
     ·
      rw [if_pos c9] at H; have c9b0 : (a2 == 6) = true := beq_iff_eq.mpr c9; have c9b1 : (a2 != 6) = false := bne_eq_false_iff_eq.mpr c9; clear c9; obtain rfl := Option.some.inj H; go_wp2; go_ret; exact ⟨zB, zD⟩
     ·
      rw [if_neg c9] at H; have c9b0 : (a2 == 6) = false := beq_eq_false_iff_ne.mpr c9; have c9b1 : (a2 != 6) = true := bne_iff_ne.mpr c9; have HC10 := az H; clear H; go_upto_region 7 with (fail)
      go_cut [24] (fun v24 wc => ∃ (kq : Nat) (x24_9 : Bool), v24 = .bool x24_9 ∧ Aside0 (spec_l5Place.j1 kq a0 a1 a2 x24_9 = some r) ∧ Aside0 (kq ≤ kj4) ∧ Drawn0 w wc)
      case first =>
       have H := HC10.out; clear HC10; by_cases c11 : a0 = 5
       ·
        rw [if_pos c11] at H; have c11b0 : (a0 == 5) = true := beq_iff_eq.mpr c11; have c11b1 : (a0 != 5) = false := bne_eq_false_iff_eq.mpr c11; clear c11; (first | rw [c11b0] | (simp only [i64_w, i32_w]; rw [c11b0]) | skip); have H' := az H; clear H; go_wp2; go_meet
        case rel => exact ⟨_, (true), zB, H', ⟨zJ HJ4.out⟩, zD⟩
       ·
        rw [if_neg c11] at H; have c11b0 : (a0 == 5) = false := beq_eq_false_iff_ne.mpr c11; have c11b1 : (a0 != 5) = true := bne_iff_ne.mpr c11; (first | rw [c11b0] | (simp only [i64_w, i32_w]; rw [c11b0]) | skip); by_cases c12 : a1 = 5
        ·
         rw [if_pos c12] at H; have c12b0 : (a1 == 5) = true := beq_iff_eq.mpr c12; have c12b1 : (a1 != 5) = false := bne_eq_false_iff_eq.mpr c12; clear c12; by_cases c13 : a0 = 3
         ·
          rw [if_pos c13] at H; have c13b0 : (a0 == 3) = true := beq_iff_eq.mpr c13; have c13b1 : (a0 != 3) = false := bne_eq_false_iff_eq.mpr c13; clear c13; have H' := az H; clear H; go_wp2; go_meet
          case rel => exact ⟨_, (false), zB, H', ⟨zJ HJ4.out⟩, zD⟩
         ·
          rw [if_neg c13] at H; have c13b0 : (a0 == 3) = false := beq_eq_false_iff_ne.mpr c13; have c13b1 : (a0 != 3) = true := bne_iff_ne.mpr c13; by_cases c14 : a0 = 14
          ·
           rw [if_pos c14] at H; have c14b0 : (a0 == 14) = true := beq_iff_eq.mpr c14; have c14b1 : (a0 != 14) = false := bne_eq_false_iff_eq.mpr c14; clear c14; have H' := az H; clear H; go_wp2; go_meet
           case rel => exact ⟨_, (false), zB, H', ⟨zJ HJ4.out⟩, zD⟩
          ·
           rw [if_neg c14] at H; have c14b0 : (a0 == 14) = false := beq_eq_false_iff_ne.mpr c14; have c14b1 : (a0 != 14) = true := bne_iff_ne.mpr c14; have H' := az H; clear H; go_wp2; go_meet
           case rel => exact ⟨_, ((a0 != 12)), zB, H', ⟨zJ HJ4.out⟩, zD⟩
        ·
         rw [if_neg c12] at H; have c12b0 : (a1 == 5) = false := beq_eq_false_iff_ne.mpr c12; have c12b1 : (a1 != 5) = true := bne_iff_ne.mpr c12; have H' := az H; clear H; go_wp2; go_meet
         case rel => exact ⟨_, (false), zB, H', ⟨zJ HJ4.out⟩, zD⟩
      case rest =>
       clear HC10; (try clear c1); (try clear p2); (try clear c4); (try clear c4b0); (try clear c4b1); (try clear c6); (try clear c6b0); (try clear c6b1); (try clear c7); (try clear c7b0); (try clear c7b1); (try clear c8); (try clear c9); (try clear c9b0); (try clear c9b1); (try clear c11); (try clear c11b0); (try clear c11b1); (try clear c12); (try clear c12b0); (try clear c12b1); (try clear c13); (try clear c13b0); (try clear c13b1); (try clear c14); (try clear c14b0); (try clear c14b1); (try clear p2); obtain ⟨kq, x24_9, rfl, HA, HJ9, ⟨mc9, rfl⟩⟩ := hcut
       cases kq with
       | zero => exact absurd HA.out (by simp [spec_l5Place.j1])
       | succ kj9 =>
        have H := HA.out; clear HA; simp only [spec_l5Place.j1] at H; by_cases c15 : x24_9 = true
        ·
         subst c15; have H1 : (some 0) = some r := by rw [if_pos rfl] at H; exact H
         clear H; have H := H1; clear H1; obtain rfl := Option.some.inj H; go_wp2; go_ret; exact ⟨zB, zD⟩
        ·
         replace c15 := Bool.eq_false_iff.mpr c15; subst c15; have H1 : ((spec_l5Never.f a1).bind fun t207 => (if t207 = true then (if a0 = 3 then ((spec_l5Never.f a1).bind fun t208 => (if t208 = true then (if a2 = 0 then (spec_l5Place.j2 kj9 a0 a1 a2 false) else (spec_l5Place.j2 kj9 a0 a1 a2 (a1 != 13))) else (spec_l5Place.j2 kj9 a0 a1 a2 false))) else (spec_l5Place.j2 kj9 a0 a1 a2 true)) else ((spec_l5Never.f a1).bind fun t209 => (if t209 = true then (if a2 = 0 then (spec_l5Place.j2 kj9 a0 a1 a2 false) else (spec_l5Place.j2 kj9 a0 a1 a2 (a1 != 13))) else (spec_l5Place.j2 kj9 a0 a1 a2 false))))) = some r := by rw [if_neg (show ¬ (false = true) by decide)] at H; exact H
         clear H; have H := H1; clear H1; have HC16 := az H; clear H; go_upto_region 9 with (fail)
         go_cut [43] (fun v43 wc => ∃ (kq : Nat) (x43_15 : Bool), v43 = .bool x43_15 ∧ Aside0 (spec_l5Place.j2 kq a0 a1 a2 x43_15 = some r) ∧ Aside0 (kq ≤ kj9) ∧ Drawn0 w wc)
         case first =>
          have H := HC16.out; clear HC16; replace H := Option.bind_eq_some_iff.mp H; obtain ⟨t207, A170, H⟩ := H; replace H : (if t207 = true then (if a0 = 3 then ((spec_l5Never.f a1).bind fun t208 => (if t208 = true then (if a2 = 0 then (spec_l5Place.j2 kj9 a0 a1 a2 false) else (spec_l5Place.j2 kj9 a0 a1 a2 (a1 != 13))) else (spec_l5Place.j2 kj9 a0 a1 a2 false))) else (spec_l5Place.j2 kj9 a0 a1 a2 true)) else ((spec_l5Never.f a1).bind fun t209 => (if t209 = true then (if a2 = 0 then (spec_l5Place.j2 kj9 a0 a1 a2 false) else (spec_l5Place.j2 kj9 a0 a1 a2 (a1 != 13))) else (spec_l5Place.j2 kj9 a0 a1 a2 false)))) = some r := H; have A17 := az A170; clear A170; by_cases c18 : t207 = true
          ·
           subst c18; have H1 : (if a0 = 3 then ((spec_l5Never.f a1).bind fun t208 => (if t208 = true then (if a2 = 0 then (spec_l5Place.j2 kj9 a0 a1 a2 false) else (spec_l5Place.j2 kj9 a0 a1 a2 (a1 != 13))) else (spec_l5Place.j2 kj9 a0 a1 a2 false))) else (spec_l5Place.j2 kj9 a0 a1 a2 true)) = some r := by rw [if_pos rfl] at H; exact H
           clear H; have H := H1; clear H1; by_cases c19 : a0 = 3
           ·
            rw [if_pos c19] at H; have c19b0 : (a0 == 3) = true := beq_iff_eq.mpr c19; have c19b1 : (a0 != 3) = false := bne_eq_false_iff_eq.mpr c19; clear c19; (first | rw [c19b0] | (simp only [i64_w, i32_w]; rw [c19b0]) | skip); replace H := Option.bind_eq_some_iff.mp H; obtain ⟨t208, A200, H⟩ := H; replace H : (if t208 = true then (if a2 = 0 then (spec_l5Place.j2 kj9 a0 a1 a2 false) else (spec_l5Place.j2 kj9 a0 a1 a2 (a1 != 13))) else (spec_l5Place.j2 kj9 a0 a1 a2 false)) = some r := H; have A20 := az A200; clear A200; by_cases c21 : t208 = true
            ·
             subst c21; have H1 : (if a2 = 0 then (spec_l5Place.j2 kj9 a0 a1 a2 false) else (spec_l5Place.j2 kj9 a0 a1 a2 (a1 != 13))) = some r := by rw [if_pos rfl] at H; exact H
             clear H; have H := H1; clear H1; by_cases c22 : a2 = 0
             ·
              rw [if_pos c22] at H; have c22b0 : (a2 == 0) = true := beq_iff_eq.mpr c22; have c22b1 : (a2 != 0) = false := bne_eq_false_iff_eq.mpr c22; clear c22; have H' := az H; clear H; go_wp2_with (first | ((with_reducible refine gate_callee (f := 140) rfl ?_); refine goesL_ (some 45) rfl rfl Tryz.func140 (by kernel_rfl) rfl #[.int .i64 a1] rfl zC ?_; (with_reducible refine (spec_l5Never.calls a1 true _ A17.out).mono ?_); rintro e w' ⟨rfl, ⟨nd, rfl⟩⟩; refine ⟨_, rfl, ?_⟩) | (go_at_call 140; (with_reducible refine (spec_l5Never.calls a1 true _ A20.out).mono ?_); rintro e w' ⟨rfl, ⟨nd, rfl⟩⟩)); go_meet
              case rel => exact ⟨_, (false), zB, H', ⟨zO HJ4.out HJ9.out⟩, zD⟩
             ·
              rw [if_neg c22] at H; have c22b0 : (a2 == 0) = false := beq_eq_false_iff_ne.mpr c22; have c22b1 : (a2 != 0) = true := bne_iff_ne.mpr c22; have H' := az H; clear H; go_wp2_with (first | ((with_reducible refine gate_callee (f := 140) rfl ?_); refine goesL_ (some 45) rfl rfl Tryz.func140 (by kernel_rfl) rfl #[.int .i64 a1] rfl zC ?_; (with_reducible refine (spec_l5Never.calls a1 true _ A17.out).mono ?_); rintro e w' ⟨rfl, ⟨nd, rfl⟩⟩; refine ⟨_, rfl, ?_⟩) | (go_at_call 140; (with_reducible refine (spec_l5Never.calls a1 true _ A20.out).mono ?_); rintro e w' ⟨rfl, ⟨nd, rfl⟩⟩)); go_meet
              case rel => exact ⟨_, ((a1 != 13)), zB, H', ⟨zO HJ4.out HJ9.out⟩, zD⟩
            ·
             replace c21 := Bool.eq_false_iff.mpr c21; subst c21; have H1 : (spec_l5Place.j2 kj9 a0 a1 a2 false) = some r := by rw [if_neg (show ¬ (false = true) by decide)] at H; exact H
             clear H; have H := H1; clear H1; have H' := az H; clear H; go_wp2_with (first | ((with_reducible refine gate_callee (f := 140) rfl ?_); refine goesL_ (some 45) rfl rfl Tryz.func140 (by kernel_rfl) rfl #[.int .i64 a1] rfl zC ?_; (with_reducible refine (spec_l5Never.calls a1 true _ A17.out).mono ?_); rintro e w' ⟨rfl, ⟨nd, rfl⟩⟩; refine ⟨_, rfl, ?_⟩) | (go_at_call 140; (with_reducible refine (spec_l5Never.calls a1 false _ A20.out).mono ?_); rintro e w' ⟨rfl, ⟨nd, rfl⟩⟩)); go_meet
             case rel => exact ⟨_, (false), zB, H', ⟨zO HJ4.out HJ9.out⟩, zD⟩
           ·
            rw [if_neg c19] at H; have c19b0 : (a0 == 3) = false := beq_eq_false_iff_ne.mpr c19; have c19b1 : (a0 != 3) = true := bne_iff_ne.mpr c19; (first | rw [c19b0] | (simp only [i64_w, i32_w]; rw [c19b0]) | skip); have H' := az H; clear H; go_wp2_with (first | ((with_reducible refine gate_callee (f := 140) rfl ?_); refine goesL_ (some 45) rfl rfl Tryz.func140 (by kernel_rfl) rfl #[.int .i64 a1] rfl zC ?_; (with_reducible refine (spec_l5Never.calls a1 true _ A17.out).mono ?_); rintro e w' ⟨rfl, ⟨nd, rfl⟩⟩; refine ⟨_, rfl, ?_⟩)); go_meet
            case rel => exact ⟨_, (true), zB, H', ⟨zO HJ4.out HJ9.out⟩, zD⟩
          ·
           replace c18 := Bool.eq_false_iff.mpr c18; subst c18; have H1 : ((spec_l5Never.f a1).bind fun t209 => (if t209 = true then (if a2 = 0 then (spec_l5Place.j2 kj9 a0 a1 a2 false) else (spec_l5Place.j2 kj9 a0 a1 a2 (a1 != 13))) else (spec_l5Place.j2 kj9 a0 a1 a2 false))) = some r := by rw [if_neg (show ¬ (false = true) by decide)] at H; exact H
           clear H; have H := H1; clear H1; replace H := Option.bind_eq_some_iff.mp H; obtain ⟨t209, A230, H⟩ := H; replace H : (if t209 = true then (if a2 = 0 then (spec_l5Place.j2 kj9 a0 a1 a2 false) else (spec_l5Place.j2 kj9 a0 a1 a2 (a1 != 13))) else (spec_l5Place.j2 kj9 a0 a1 a2 false)) = some r := H; have A23 := az A230; clear A230; by_cases c24 : t209 = true
           ·
            subst c24; have H1 : (if a2 = 0 then (spec_l5Place.j2 kj9 a0 a1 a2 false) else (spec_l5Place.j2 kj9 a0 a1 a2 (a1 != 13))) = some r := by rw [if_pos rfl] at H; exact H
            clear H; have H := H1; clear H1; by_cases c25 : a2 = 0
            ·
             rw [if_pos c25] at H; have c25b0 : (a2 == 0) = true := beq_iff_eq.mpr c25; have c25b1 : (a2 != 0) = false := bne_eq_false_iff_eq.mpr c25; clear c25; have H' := az H; clear H; go_wp2_with (first | ((with_reducible refine gate_callee (f := 140) rfl ?_); refine goesL_ (some 45) rfl rfl Tryz.func140 (by kernel_rfl) rfl #[.int .i64 a1] rfl zC ?_; (with_reducible refine (spec_l5Never.calls a1 false _ A17.out).mono ?_); rintro e w' ⟨rfl, ⟨nd, rfl⟩⟩; refine ⟨_, rfl, ?_⟩) | (go_at_call 140; (with_reducible refine (spec_l5Never.calls a1 true _ A23.out).mono ?_); rintro e w' ⟨rfl, ⟨nd, rfl⟩⟩)); go_meet
             case rel => exact ⟨_, (false), zB, H', ⟨zO HJ4.out HJ9.out⟩, zD⟩
            ·
             rw [if_neg c25] at H; have c25b0 : (a2 == 0) = false := beq_eq_false_iff_ne.mpr c25; have c25b1 : (a2 != 0) = true := bne_iff_ne.mpr c25; have H' := az H; clear H; go_wp2_with (first | ((with_reducible refine gate_callee (f := 140) rfl ?_); refine goesL_ (some 45) rfl rfl Tryz.func140 (by kernel_rfl) rfl #[.int .i64 a1] rfl zC ?_; (with_reducible refine (spec_l5Never.calls a1 false _ A17.out).mono ?_); rintro e w' ⟨rfl, ⟨nd, rfl⟩⟩; refine ⟨_, rfl, ?_⟩) | (go_at_call 140; (with_reducible refine (spec_l5Never.calls a1 true _ A23.out).mono ?_); rintro e w' ⟨rfl, ⟨nd, rfl⟩⟩)); go_meet
             case rel => exact ⟨_, ((a1 != 13)), zB, H', ⟨zO HJ4.out HJ9.out⟩, zD⟩
           ·
            replace c24 := Bool.eq_false_iff.mpr c24; subst c24; have H1 : (spec_l5Place.j2 kj9 a0 a1 a2 false) = some r := by rw [if_neg (show ¬ (false = true) by decide)] at H; exact H
            clear H; have H := H1; clear H1; have H' := az H; clear H; go_wp2_with (first | ((with_reducible refine gate_callee (f := 140) rfl ?_); refine goesL_ (some 45) rfl rfl Tryz.func140 (by kernel_rfl) rfl #[.int .i64 a1] rfl zC ?_; (with_reducible refine (spec_l5Never.calls a1 false _ A17.out).mono ?_); rintro e w' ⟨rfl, ⟨nd, rfl⟩⟩; refine ⟨_, rfl, ?_⟩) | (go_at_call 140; (with_reducible refine (spec_l5Never.calls a1 false _ A23.out).mono ?_); rintro e w' ⟨rfl, ⟨nd, rfl⟩⟩)); go_meet
            case rel => exact ⟨_, (false), zB, H', ⟨zO HJ4.out HJ9.out⟩, zD⟩
         case rest =>
          clear HC16; (try clear c1); (try clear c2); (try clear p2); (try clear c4); (try clear c4b0); (try clear c4b1); (try clear c6); (try clear c6b0); (try clear c6b1); (try clear c7); (try clear c7b0); (try clear c7b1); (try clear c8); (try clear c9); (try clear c9b0); (try clear c9b1); (try clear c11); (try clear c11b0); (try clear c11b1); (try clear c12); (try clear c12b0); (try clear c12b1); (try clear c13); (try clear c13b0); (try clear c13b1); (try clear c14); (try clear c14b0); (try clear c14b1); (try clear c15); (try clear c18); (try clear c19); (try clear c19b0); (try clear c19b1); (try clear c21); (try clear c22); (try clear c22b0); (try clear c22b1); (try clear c24); (try clear c25); (try clear c25b0); (try clear c25b1); (try clear p2); obtain ⟨kq, x43_15, rfl, HA, HJ15, ⟨mc15, rfl⟩⟩ := hcut
          cases kq with
          | zero => exact absurd HA.out (by simp [spec_l5Place.j2])
          | succ kj15 =>
           have H := HA.out; clear HA; simp only [spec_l5Place.j2] at H; by_cases c26 : x43_15 = true
           ·
            subst c26; have H1 : (some 0) = some r := by rw [if_pos rfl] at H; exact H
            clear H; have H := H1; clear H1; obtain rfl := Option.some.inj H; go_wp2; go_ret; exact ⟨zB, zD⟩
           ·
            replace c26 := Bool.eq_false_iff.mpr c26; subst c26; have H1 : (if a2 = 8 then (some 0) else (if a0 = 3 then (some 1) else (if a0 = 11 then (some 0) else (if a1 = 11 then (some 0) else (if a1 = 14 then (some 0) else (if a1 = 12 then (some 0) else ((spec_l5Inner.f kj15 a0 a1).bind fun t210 => (some t210)))))))) = some r := by rw [if_neg (show ¬ (false = true) by decide)] at H; exact H
            clear H; have H := H1; clear H1; by_cases c27 : a2 = 8
            ·
             rw [if_pos c27] at H; have c27b0 : (a2 == 8) = true := beq_iff_eq.mpr c27; have c27b1 : (a2 != 8) = false := bne_eq_false_iff_eq.mpr c27; clear c27; obtain rfl := Option.some.inj H; go_wp2; go_ret; exact ⟨zB, zD⟩
            ·
             rw [if_neg c27] at H; have c27b0 : (a2 == 8) = false := beq_eq_false_iff_ne.mpr c27; have c27b1 : (a2 != 8) = true := bne_iff_ne.mpr c27; by_cases c28 : a0 = 3
             ·
              rw [if_pos c28] at H; have c28b0 : (a0 == 3) = true := beq_iff_eq.mpr c28; have c28b1 : (a0 != 3) = false := bne_eq_false_iff_eq.mpr c28; clear c28; obtain rfl := Option.some.inj H; go_wp2; go_ret; exact ⟨zB, zD⟩
             ·
              rw [if_neg c28] at H; have c28b0 : (a0 == 3) = false := beq_eq_false_iff_ne.mpr c28; have c28b1 : (a0 != 3) = true := bne_iff_ne.mpr c28; by_cases c29 : a0 = 11
              ·
               rw [if_pos c29] at H; have c29b0 : (a0 == 11) = true := beq_iff_eq.mpr c29; have c29b1 : (a0 != 11) = false := bne_eq_false_iff_eq.mpr c29; clear c29; obtain rfl := Option.some.inj H; go_wp2; go_ret; exact ⟨zB, zD⟩
              ·
               rw [if_neg c29] at H; have c29b0 : (a0 == 11) = false := beq_eq_false_iff_ne.mpr c29; have c29b1 : (a0 != 11) = true := bne_iff_ne.mpr c29; by_cases c30 : a1 = 11
               ·
                rw [if_pos c30] at H; have c30b0 : (a1 == 11) = true := beq_iff_eq.mpr c30; have c30b1 : (a1 != 11) = false := bne_eq_false_iff_eq.mpr c30; clear c30; obtain rfl := Option.some.inj H; go_wp2; go_ret; exact ⟨zB, zD⟩
               ·
                rw [if_neg c30] at H; have c30b0 : (a1 == 11) = false := beq_eq_false_iff_ne.mpr c30; have c30b1 : (a1 != 11) = true := bne_iff_ne.mpr c30; by_cases c31 : a1 = 14
                ·
                 rw [if_pos c31] at H; have c31b0 : (a1 == 14) = true := beq_iff_eq.mpr c31; have c31b1 : (a1 != 14) = false := bne_eq_false_iff_eq.mpr c31; clear c31; obtain rfl := Option.some.inj H; go_wp2; go_ret; exact ⟨zB, zD⟩
                ·
                 rw [if_neg c31] at H; have c31b0 : (a1 == 14) = false := beq_eq_false_iff_ne.mpr c31; have c31b1 : (a1 != 14) = true := bne_iff_ne.mpr c31; by_cases c32 : a1 = 12
                 ·
                  rw [if_pos c32] at H; have c32b0 : (a1 == 12) = true := beq_iff_eq.mpr c32; have c32b1 : (a1 != 12) = false := bne_eq_false_iff_eq.mpr c32; clear c32; obtain rfl := Option.some.inj H; go_wp2; go_ret; exact ⟨zB, zD⟩
                 ·
                  rw [if_neg c32] at H; have c32b0 : (a1 == 12) = false := beq_eq_false_iff_ne.mpr c32; have c32b1 : (a1 != 12) = true := bne_iff_ne.mpr c32; replace H := Option.bind_eq_some_iff.mp H; obtain ⟨t210, A330, H⟩ := H; replace H : (some t210) = some r := H; have A33 := az A330; clear A330; obtain rfl := Option.some.inj H; go_wp2_with (first | ((with_reducible refine gate_callee (f := 141) rfl ?_); refine goesL_ (some 85) rfl rfl Tryz.func141 (by kernel_rfl) rfl #[.int .i64 a0, .int .i64 a1] rfl zC ?_; (with_reducible refine (spec_l5Inner.calls kj15 a0 a1 t210 _ A33.out).mono ?_); rintro e w' ⟨rfl, ⟨nd, rfl⟩⟩; refine ⟨_, rfl, ?_⟩)); go_ret; exact ⟨zB, zD⟩
abbrev q19M0 : Array Bool := #[false, false, false, false, false, false, false, false, false, false, false, false, false, false, false]
abbrev q19M1 : Array Bool := #[true, false, false, false, false, false, false, false, false, false, false, false, false, false, false]
abbrev q19M2 : Array Bool := #[true, true, false, false, false, false, false, false, false, false, false, false, false, false, false]
abbrev q19M3 : Array Bool := #[true, true, true, false, false, false, false, false, false, false, false, false, false, false, false]
abbrev q19M4 : Array Bool := #[true, true, true, true, false, false, false, false, false, false, false, false, false, false, false]
abbrev q19M5 : Array Bool := #[true, true, true, true, false, true, false, false, false, false, false, false, false, false, false]
abbrev q19M6 : Array Bool := #[true, true, true, true, false, true, true, false, false, false, false, false, false, false, false]
abbrev q19M7 : Array Bool := #[true, true, true, true, false, true, true, true, false, false, false, false, false, false, false]
abbrev q19M8 : Array Bool := #[true, true, true, true, false, true, true, true, true, false, false, false, false, false, false]
abbrev q19M9 : Array Bool := #[true, true, true, true, false, true, true, true, true, false, true, false, false, false, false]
abbrev q19M10 : Array Bool := #[true, true, true, true, true, true, true, true, true, false, true, false, false, false, false]
abbrev q19M11 : Array Bool := #[true, true, true, true, true, true, true, true, true, true, true, false, false, false, false]
abbrev q19M12 : Array Bool := #[true, true, true, true, true, true, true, true, true, true, true, true, false, false, false]
abbrev q19M13 : Array Bool := #[true, true, true, true, true, true, true, true, true, true, true, true, true, false, false]
abbrev q19M14 : Array Bool := #[true, true, true, true, true, true, true, true, true, true, true, true, true, true, false]
abbrev q19M15 : Array Bool := #[true, true, true, true, true, true, true, true, true, true, true, true, true, true, true]
theorem q19s {α : Type} (l : List α) (i : Nat) (a : α) : l.toArray.setIfInBounds i a = (l.set i a).toArray := List.setIfInBounds_toArray ..
theorem q19z {α : Type} (a : α) (l : List α) (b : α) : (a :: l).set 0 b = b :: l := List.set_cons_zero ..
theorem q19n {α : Type} (a : α) (l : List α) (i : Nat) (b : α) : (a :: l).set (i + 1) b = a :: l.set i b := List.set_cons_succ ..
mutual
def spec_l5Breaks.l0 : Nat → List Int → List Int → List Int → Int → Option (List Int)
 | 0, _, _, _, _ => none
 | k + 1, x0, x3, x4, x5 => if x5 < (x3.length : Int) then (if (wrap64 (x5 + 1)) = (x3.length : Int) then (if x4.length < 17592186044416 then (spec_l5Breaks.l0 k x0 x3 (x4 ++ [2]) (wrap64 (x5 + 1))) else (none)) else ((spec_l2Joins.f k x0 (wrap64 (x5 + 1))).bind fun t220 => (if t220 = true then (spec_l5Breaks.j1 k x0 x3 x4 x5 true) else (if 0 ≤ (wrap64 (x5 + 1)) then (if (wrap64 (x5 + 1)) < (x0.length : Int) then ((spec_RuneLine.f k (rd x0 (wrap64 (x5 + 1)))).bind fun t222 => (if t222 = 7 then (if 0 ≤ x5 then (if (rd x3 x5) = 3 then (spec_l5Breaks.j1 k x0 x3 x4 x5 false) else (if (rd x3 x5) = 4 then (spec_l5Breaks.j1 k x0 x3 x4 x5 false) else (spec_l5Breaks.j1 k x0 x3 x4 x5 ((rd x3 x5) != 6)))) else (none)) else (spec_l5Breaks.j1 k x0 x3 x4 x5 false))) else (none)) else (none))))) else (some x4)
def spec_l5Breaks.j1 : Nat → List Int → List Int → List Int → Int → Bool → Option (List Int)
 | 0, _, _, _, _, _ => none
 | k + 1, x0, x3, x4, x5, x49 => if x49 = true then (if x4.length < 17592186044416 then (spec_l5Breaks.l0 k x0 x3 (x4 ++ [0]) (wrap64 (x5 + 1))) else (none)) else ((spec_l5Before.f k x3 x5).bind fun t229 => (if t229 ≥ 0 then (if 0 ≤ t229 then (if t229 < (x3.length : Int) then (if 0 ≤ x5 then (if x5 < (x3.length : Int) then (if 0 ≤ (wrap64 (x5 + 1)) then (if (wrap64 (x5 + 1)) < (x3.length : Int) then ((spec_l5Place.f k (rd x3 x5) (rd x3 (wrap64 (x5 + 1))) (rd x3 t229)).bind fun t233 => (if x4.length < 17592186044416 then (spec_l5Breaks.l0 k x0 x3 (x4 ++ [t233]) (wrap64 (x5 + 1))) else (none))) else (none)) else (none)) else (none)) else (none)) else (none)) else (none)) else (if 0 ≤ x5 then (if x5 < (x3.length : Int) then (if 0 ≤ (wrap64 (x5 + 1)) then (if (wrap64 (x5 + 1)) < (x3.length : Int) then ((spec_l5Place.f k (rd x3 x5) (rd x3 (wrap64 (x5 + 1))) 0).bind fun t239 => (if x4.length < 17592186044416 then (spec_l5Breaks.l0 k x0 x3 (x4 ++ [t239]) (wrap64 (x5 + 1))) else (none))) else (none)) else (none)) else (none)) else (none))))
end
def spec_l5Breaks.f (k : Nat) (l0 : List Int) : Option (List Int) := (spec_l5Counts.f k l0).bind fun t211 => (spec_l5Breaks.l0 k l0 t211 (([] : List Int)) 0)
theorem spec_l5Breaks.mono_l : ∀ k, (∀ y0 y1 y2 y3, LeO (spec_l5Breaks.l0 k y0 y1 y2 y3) (spec_l5Breaks.l0 (k + 1) y0 y1 y2 y3)) ∧ (∀ y0 y1 y2 y3 y4, LeO (spec_l5Breaks.j1 k y0 y1 y2 y3 y4) (spec_l5Breaks.j1 (k + 1) y0 y1 y2 y3 y4))
 | 0 => ⟨fun _ _ _ _ r h => by simp [spec_l5Breaks.l0] at h, fun _ _ _ _ _ r h => by simp [spec_l5Breaks.j1] at h⟩
 | k + 1 => by
  obtain ⟨ih0, ih1⟩ := spec_l5Breaks.mono_l k; refine ⟨?_, ?_⟩
  ·
   intro y0 y1 y2 y3; unfold spec_l5Breaks.l0
   repeat' first
   | (with_reducible exact ih0 _ _ _ _)
   | (with_reducible exact ih1 _ _ _ _ _)
   | (with_reducible exact spec_RuneLine.mono _ _)
   | (with_reducible exact spec_l2Joins.mono _ _ _)
   | (with_reducible exact spec_l5Before.mono _ _ _)
   | (with_reducible exact spec_l5Counts.mono _ _)
   | (with_reducible exact spec_l5Place.mono _ _ _ _)
   | (with_reducible exact LeO.refl _)
   | (with_reducible exact LeO.none _)
   | (with_reducible refine LeO.ite ?_ ?_)
   | (with_reducible refine LeO.bind ?_ (fun _ => ?_))
   | exact ih0 _ _ _ _
   | exact ih1 _ _ _ _ _
   | exact spec_RuneLine.mono _ _
   | exact spec_l2Joins.mono _ _ _
   | exact spec_l5Before.mono _ _ _
   | exact spec_l5Counts.mono _ _
   | exact spec_l5Place.mono _ _ _ _
   | exact LeO.none _
   | refine LeO.ite ?_ ?_
   | refine LeO.bind ?_ (fun _ => ?_)
  ·
   intro y0 y1 y2 y3 y4; unfold spec_l5Breaks.j1
   repeat' first
   | (with_reducible exact ih0 _ _ _ _)
   | (with_reducible exact ih1 _ _ _ _ _)
   | (with_reducible exact spec_RuneLine.mono _ _)
   | (with_reducible exact spec_l2Joins.mono _ _ _)
   | (with_reducible exact spec_l5Before.mono _ _ _)
   | (with_reducible exact spec_l5Counts.mono _ _)
   | (with_reducible exact spec_l5Place.mono _ _ _ _)
   | (with_reducible exact LeO.refl _)
   | (with_reducible exact LeO.none _)
   | (with_reducible refine LeO.ite ?_ ?_)
   | (with_reducible refine LeO.bind ?_ (fun _ => ?_))
   | exact ih0 _ _ _ _
   | exact ih1 _ _ _ _ _
   | exact spec_RuneLine.mono _ _
   | exact spec_l2Joins.mono _ _ _
   | exact spec_l5Before.mono _ _ _
   | exact spec_l5Counts.mono _ _
   | exact spec_l5Place.mono _ _ _ _
   | exact LeO.none _
   | refine LeO.ite ?_ ?_
   | refine LeO.bind ?_ (fun _ => ?_)
theorem spec_l5Breaks.mono : ∀ a0 k, LeO (spec_l5Breaks.f k a0) (spec_l5Breaks.f (k + 1) a0) := by
 intro a0 k; obtain ⟨ih0, ih1⟩ := spec_l5Breaks.mono_l k; unfold spec_l5Breaks.f
 repeat' first
   | (with_reducible exact ih0 _ _ _ _)
   | (with_reducible exact ih1 _ _ _ _ _)
   | (with_reducible exact spec_RuneLine.mono _ _)
   | (with_reducible exact spec_l2Joins.mono _ _ _)
   | (with_reducible exact spec_l5Before.mono _ _ _)
   | (with_reducible exact spec_l5Counts.mono _ _)
   | (with_reducible exact spec_l5Place.mono _ _ _ _)
   | (with_reducible exact LeO.refl _)
   | (with_reducible exact LeO.none _)
   | (with_reducible refine LeO.ite ?_ ?_)
   | (with_reducible refine LeO.bind ?_ (fun _ => ?_))
   | exact ih0 _ _ _ _
   | exact ih1 _ _ _ _ _
   | exact spec_RuneLine.mono _ _
   | exact spec_l2Joins.mono _ _ _
   | exact spec_l5Before.mono _ _ _
   | exact spec_l5Counts.mono _ _
   | exact spec_l5Place.mono _ _ _ _
   | exact LeO.none _
   | refine LeO.ite ?_ ?_
   | refine LeO.bind ?_ (fun _ => ?_)
def spec_l5Breaks.T10 : Bool × List (List Nat × List Nat) := (true, [([], []), ([], []), ([], []), ([1, 2], [1, 2]), ([3], [3]), ([], []), ([], []), ([6], [6]), ([5, 7], [5, 7]), ([8], [8]), ([], []), ([4, 9, 10], [4, 9, 10]), ([11], [11]), ([0, 12, 11], [0, 12]), ([13, 13, 0, 1, 2, 3, 4, 5, 6, 7, 8, 9, 10, 11, 12, 13], [0, 13])])
def spec_l5Breaks.B10 : List Nat := [0, 0, 0, 6, 14, 0, 0, 64, 224, 480, 0, 2046, 4094, 8191, 16383]
theorem spec_l5Breaks.tab10 : rtab .any (opsOf Tryz.f91 10) = spec_l5Breaks.T10 := by kernel_rfl
theorem spec_l5Breaks.bits10 : waitsOk spec_l5Breaks.T10.2 spec_l5Breaks.B10 = true := by kernel_rfl
theorem spec_l5Breaks.calls (k : Nat) (A0 : Option Addr) (c0 : Nat) (l0 : List Int) (r : List Int) (w : World) (hr0 : Kd.C (Kd.int .i64) w A0 l0.length l0) (hc0 : l0.length ≤ c0) (h : spec_l5Breaks.f k l0 = some r) :
  Calls Tryz.prog 91 #[.slice A0 l0.length c0] w fun e w' => ∃ v0_ : Value, e = .returned (v0_) ∧ Kd.R (Kd.int .i64) 3 w' w.heap.size (fun _ => True) v0_ r ∧ Below w.heap.size w w' := by
 have HR0 := az hr0; have HC0 := az hc0; clear hr0 hc0; have HB := az (Below.refl w.heap.size w); have H : ((spec_l5Counts.f k l0).bind fun t211 => (spec_l5Breaks.l0 k l0 t211 (([] : List Int)) 0)) = some r := h; clear h; replace H := Option.bind_eq_some_iff.mp H; obtain ⟨t211, A20, H⟩ := H; replace H : (spec_l5Breaks.l0 k l0 t211 (([] : List Int)) 0) = some r := H; have A2 := az A20; clear A20; obtain ⟨y214, hy214⟩ : ∃ y_ : List Int, y_ = (([] : List Int)) := ⟨_, rfl⟩; replace H : (spec_l5Breaks.l0 k l0 t211 y214 0) = some r := by first | (rw [hy214]; with_reducible exact H) | (have H2_ := (Option.bind_some _ _).symm.trans H; rw [hy214]; with_reducible exact H2_) | (have H2_ := (Option.bind_some _ _).symm.trans H; with_reducible exact H2_) | with_reducible exact H | (rw [hy214]; exact H) | exact H
 have Ny214 := az hy214; clear hy214; have H' := az H; clear H; go_enter Tryz.func91, Tryz.ntmps91; go_wp2_with (first | ((with_reducible refine gate_callee (f := 123) rfl ?_); refine goesL_ (some 9) rfl rfl Tryz.func123 (by kernel_rfl) rfl #[.slice A0 l0.length c0] rfl zC ?_; (with_reducible refine (spec_l5Counts.calls k _ _ l0 t211 _ ?side1 ?side2 A2.out).mono ?_); (case side1 => exact (zN HR0.out)); (case side2 => exact HC0.out); rintro e w3 ⟨v212, rfl, ho0, hb⟩; refine ⟨_, rfl, ?_⟩; have n0_ := az (Kd.R_lower ho0 (below_size (zA HB.out))); have n1_ := az (below_step (zA HB.out) hb); clear HB; have HO213 := n0_; have HB := n1_; clear n0_ n1_; (try clear hb); (try clear hb2); (try clear hk); (try clear hi); (try clear ho0)) | ((with_reducible refine gate_dst (N := 10) rfl ?_); refine Kd.R_lit (Kd.int .i64) _ 3 ?hg (N := 10) ?hd (xs := ([] : List Int)) (inner := []) (ok := fun _ => True) (okp := fun _ => True) ?hr ?hp (fun _ hk => hk) trivial (Below.refl _ _) (Nat.le_refl _) (by simp) ?_; (case hd => rfl); (case hg => rfl); (case hr => first | (go_simp; done) | (go_simp; rfl)); (case hp => exact (Reps.none _ _)); intro v215 w4 ho5 hb hg_ hnew_; clear hg_ hnew_; (first | rw [← Ny214.out] at ho5 | (simp only [Int.reduceToNat] at ho5; rw [← Ny214.out] at ho5)); have n0_ := az (Kd.R_elder' (zF HO213.out) (Kd.R_base ho5) hb); have n1_ := az (Kd.R_lower (Kd.R_new' ho5 (Kd.R_lt (zF HO213.out))) (below_size (zA HB.out))); have n2_ := az (below_step (zA HB.out) hb); clear HO213; clear HB; have HO213 := n0_; have HO216 := n1_; have HB := n2_; clear n0_ n1_ n2_; clear hb ho5)); go_loopg [4, 5] k (fun kq v4 v5 w' => ∃ (x4_1 : List Int) (x5_1 : Int), v5 = .int .i64 x5_1 ∧ Aside0 (spec_l5Breaks.l0 kq l0 t211 x4_1 x5_1 = some r) ∧ Aside0 (kq ≤ k) ∧ Aside0 (Kd.R (Kd.int .i64) 3 w' w.heap.size (fun k_ => some k_ ≠ (v4 : Value).ownBlock) v212 t211) ∧ Aside0 (Kd.R (Kd.int .i64) 3 w' w.heap.size (fun k_ => some k_ ≠ (v212 : Value).ownBlock) v4 x4_1) ∧ Aside0 (Below w.heap.size w w'))
 case atStart => exact ⟨(y214), (0), zB, H', ⟨Nat.le_refl _⟩, ⟨zQ HO213.out⟩, ⟨zQ HO216.out⟩, ⟨zA HB.out⟩⟩
 case round =>
  clear H'; (try clear c1); (try clear p2); obtain ⟨x4_1, x5_1, rfl, HA, HK1, HO_3, HO_4, HB⟩ := hrel
  cases gk with
  | zero => exact absurd HA.out (by simp [spec_l5Breaks.l0])
  | succ k1 =>
   have H := HA.out; clear HA; simp only [spec_l5Breaks.l0] at H; by_cases c6 : x5_1 < (t211.length : Int)
   ·
    rw [if_pos c6] at H; have c6b0 : decide (x5_1 < (t211.length : Int)) = true := decide_eq_true c6; clear c6; by_cases c7 : (wrap64 (x5_1 + 1)) = (t211.length : Int)
    ·
     rw [if_pos c7] at H; have c7b0 : ((wrap64 (x5_1 + 1)) == (t211.length : Int)) = true := beq_iff_eq.mpr c7; have c7b1 : ((wrap64 (x5_1 + 1)) != (t211.length : Int)) = false := bne_eq_false_iff_eq.mpr c7; clear c7; by_cases c8 : x4_1.length < 17592186044416
     ·
      rw [if_pos c8] at H; have LMc8 := az c8; clear c8; obtain ⟨y217, hy217⟩ : ∃ y_ : List Int, y_ = (x4_1 ++ [2]) := ⟨_, rfl⟩; replace H : (spec_l5Breaks.l0 k1 l0 t211 y217 (wrap64 (x5_1 + 1))) = some r := by first | (rw [hy217]; with_reducible exact H) | (have H2_ := (Option.bind_some _ _).symm.trans H; rw [hy217]; with_reducible exact H2_) | (have H2_ := (Option.bind_some _ _).symm.trans H; with_reducible exact H2_) | with_reducible exact H | (rw [hy217]; exact H) | exact H
      have Ny217 := az hy217; clear hy217; have H' := az H; clear H; obtain ⟨Ao9, co9, eo9⟩ := Kd.R_slice HO_3.out; subst eo9; go_wp2_with (first | ((with_reducible refine gate_builtin (b := .append) (xs := #[.tmp 46, .tmp 47]) rfl ?_); at_builtin; refine Kd.R_append (Kd.int .i64) (w0 := w) w.heap.size rfl (.tmp 46) (.tmp 47) 22 3 (.int .i64 0) 8 rfl Tryz.underlying22 info3 rfl (by decide) (by omega) u4 x4_1 2 [.int .i64 2] (fun k_ => some k_ ≠ (.slice Ao9 t211.length co9 : Value).ownBlock) (fun _ => False) rfl rfl ?aP (fun _ hk => hk.elim) ?aF ?aO ?aB ?aS ?aL ?_; (case aP => exact rfl); (case aB => exact (zA HB.out)); (case aF => exact (fun k_ hk => Kd.fresh' (Kd.R_lt (zF HO_3.out)) k_ hk)); (case aO => exact (zF HO_4.out)); (case aS => exact (below_size (zA HB.out))); (case aL => have := LMc8.out; omega); intro v218 w10 ho hb hg hat; rw [← Ny217.out] at ho; have n0_ := az (Kd.R_after (ok := (fun _ => True)) (zV HO_3.out) hg hat); have n1_ := az (hb); have n2_ := az (ho); clear HO_3; clear HB; clear HO_4; have HO_3 := n0_; have HB := n1_; have HO219 := n2_; clear n0_ n1_ n2_; clear ho hb hg hat)); go_roundg k1
      case measure => have := HK1.out; omega
      case rel => exact ⟨(y217), (wrap64 (x5_1 + 1)), zB, H', ⟨zE HK1.out⟩, ⟨zQ HO_3.out⟩, ⟨zF HO219.out⟩, ⟨zA HB.out⟩⟩
     ·
      rw [if_neg c8] at H; exact absurd H (by simp)
    ·
     rw [if_neg c7] at H; have c7b0 : ((wrap64 (x5_1 + 1)) == (t211.length : Int)) = false := beq_eq_false_iff_ne.mpr c7; have c7b1 : ((wrap64 (x5_1 + 1)) != (t211.length : Int)) = true := bne_iff_ne.mpr c7; have HC11 := az H; clear H; obtain ⟨Ao12, co12, eo12⟩ := Kd.R_slice HO_3.out; subst eo12; go_upto_region 13 with (fail)
     go_cut [49] (fun v49 wc => ∃ (kq : Nat) (x49_10 : Bool), v49 = .bool x49_10 ∧ Aside0 (spec_l5Breaks.j1 kq l0 t211 x4_1 x5_1 x49_10 = some r) ∧ Aside0 (kq ≤ k1) ∧ Aside0 (Kd.R (Kd.int .i64) 3 wc w.heap.size (fun k_ => some k_ ≠ (u4 : Value).ownBlock) (.slice Ao12 t211.length co12) t211) ∧ Aside0 (Kd.R (Kd.int .i64) 3 wc w.heap.size (fun k_ => some k_ ≠ ((.slice Ao12 t211.length co12) : Value).ownBlock) u4 x4_1) ∧ Aside0 (Below w.heap.size w wc))
     case first =>
      have H := HC11.out; clear HC11; replace H := Option.bind_eq_some_iff.mp H; obtain ⟨t220, A130, H⟩ := H; replace H : (if t220 = true then (spec_l5Breaks.j1 k1 l0 t211 x4_1 x5_1 true) else (if 0 ≤ (wrap64 (x5_1 + 1)) then (if (wrap64 (x5_1 + 1)) < (l0.length : Int) then ((spec_RuneLine.f k1 (rd l0 (wrap64 (x5_1 + 1)))).bind fun t222 => (if t222 = 7 then (if 0 ≤ x5_1 then (if (rd t211 x5_1) = 3 then (spec_l5Breaks.j1 k1 l0 t211 x4_1 x5_1 false) else (if (rd t211 x5_1) = 4 then (spec_l5Breaks.j1 k1 l0 t211 x4_1 x5_1 false) else (spec_l5Breaks.j1 k1 l0 t211 x4_1 x5_1 ((rd t211 x5_1) != 6)))) else (none)) else (spec_l5Breaks.j1 k1 l0 t211 x4_1 x5_1 false))) else (none)) else (none))) = some r := H; have A13 := az A130; clear A130; by_cases c14 : t220 = true
      ·
       subst c14; have H1 : (spec_l5Breaks.j1 k1 l0 t211 x4_1 x5_1 true) = some r := by rw [if_pos rfl] at H; exact H
       clear H; have H := H1; clear H1; have H' := az H; clear H; go_wp2_with (first | ((with_reducible refine gate_callee (f := 124) rfl ?_); refine goesL_ (some 53) rfl rfl Tryz.func124 (by kernel_rfl) rfl #[.slice A0 l0.length c0, .int .i64 (wrap64 (x5_1 + 1))] rfl zC ?_; (with_reducible refine (spec_l2Joins.calls k1 _ _ l0 (wrap64 (x5_1 + 1)) true _ ?side1 ?side2 A13.out).mono ?_); (case side1 => exact (zM HR0.out HB.out)); (case side2 => exact HC0.out); rintro e w15 ⟨rfl, hb⟩; refine ⟨_, rfl, ?_⟩; have n0_ := az (Kd.R_below (zF HO_3.out) hb); have n1_ := az (Kd.R_below (zF HO_4.out) hb); have n2_ := az (below_step (zA HB.out) hb); clear HO_3; clear HO_4; clear HB; have HO_3 := n0_; have HO_4 := n1_; have HB := n2_; clear n0_ n1_ n2_; (try clear hb); (try clear hb2); (try clear hk); (try clear hi))); go_meet
       case rel => exact ⟨_, (true), zB, H', ⟨zJ HK1.out⟩, ⟨zF HO_3.out⟩, ⟨zF HO_4.out⟩, ⟨zA HB.out⟩⟩
      ·
       replace c14 := Bool.eq_false_iff.mpr c14; subst c14; have H1 : (if 0 ≤ (wrap64 (x5_1 + 1)) then (if (wrap64 (x5_1 + 1)) < (l0.length : Int) then ((spec_RuneLine.f k1 (rd l0 (wrap64 (x5_1 + 1)))).bind fun t222 => (if t222 = 7 then (if 0 ≤ x5_1 then (if (rd t211 x5_1) = 3 then (spec_l5Breaks.j1 k1 l0 t211 x4_1 x5_1 false) else (if (rd t211 x5_1) = 4 then (spec_l5Breaks.j1 k1 l0 t211 x4_1 x5_1 false) else (spec_l5Breaks.j1 k1 l0 t211 x4_1 x5_1 ((rd t211 x5_1) != 6)))) else (none)) else (spec_l5Breaks.j1 k1 l0 t211 x4_1 x5_1 false))) else (none)) else (none)) = some r := by rw [if_neg (show ¬ (false = true) by decide)] at H; exact H
       clear H; have H := H1; clear H1; obtain ⟨ji16, hji16⟩ : ∃ j_ : Int, (wrap64 (x5_1 + 1)) = j_ := ⟨_, rfl⟩; replace H : (if 0 ≤ (ji16) then (if (ji16) < (l0.length : Int) then ((spec_RuneLine.f k1 (rd l0 (ji16))).bind fun t222 => (if t222 = 7 then (if 0 ≤ x5_1 then (if (rd t211 x5_1) = 3 then (spec_l5Breaks.j1 k1 l0 t211 x4_1 x5_1 false) else (if (rd t211 x5_1) = 4 then (spec_l5Breaks.j1 k1 l0 t211 x4_1 x5_1 false) else (spec_l5Breaks.j1 k1 l0 t211 x4_1 x5_1 ((rd t211 x5_1) != 6)))) else (none)) else (spec_l5Breaks.j1 k1 l0 t211 x4_1 x5_1 false))) else (none)) else (none)) = some r := by first | (rw [hji16] at H; exact H) | (simp only [hji16] at H ⊢; exact H)
       (try rw [hji16] at c7b0); (try rw [hji16] at c7b1); (try rw [hji16] at A13); have hji16w : (IntKind.i64.wrap (x5_1 + 1)) = ji16 := (i64_w _).trans hji16; by_cases c17 : 0 ≤ (ji16)
       ·
        rw [if_pos c17] at H; have c17b0 : decide (0 ≤ (ji16)) = true := decide_eq_true c17; clear c17; (first | rw [c17b0] | (simp only [i64_w, i32_w]; rw [c17b0]) | skip); by_cases c18 : (ji16) < (l0.length : Int)
        ·
         rw [if_pos c18] at H; have c18b0 : decide ((ji16) < (l0.length : Int)) = true := decide_eq_true c18; clear c18; replace H := Option.bind_eq_some_iff.mp H; obtain ⟨t222, A190, H⟩ := H; replace H : (if t222 = 7 then (if 0 ≤ x5_1 then (if (rd t211 x5_1) = 3 then (spec_l5Breaks.j1 k1 l0 t211 x4_1 x5_1 false) else (if (rd t211 x5_1) = 4 then (spec_l5Breaks.j1 k1 l0 t211 x4_1 x5_1 false) else (spec_l5Breaks.j1 k1 l0 t211 x4_1 x5_1 ((rd t211 x5_1) != 6)))) else (none)) else (spec_l5Breaks.j1 k1 l0 t211 x4_1 x5_1 false)) = some r := H; have A19 := az A190; clear A190; by_cases c20 : t222 = 7
         ·
          rw [if_pos c20] at H; have c20b0 : (t222 == 7) = true := beq_iff_eq.mpr c20; have c20b1 : (t222 != 7) = false := bne_eq_false_iff_eq.mpr c20; clear c20; by_cases c21 : 0 ≤ x5_1
          ·
           rw [if_pos c21] at H; have c21b0 : decide (0 ≤ x5_1) = true := decide_eq_true c21; clear c21; by_cases c22 : (rd t211 x5_1) = 3
           ·
            rw [if_pos c22] at H; have c22b0 : ((rd t211 x5_1) == 3) = true := beq_iff_eq.mpr c22; have c22b1 : ((rd t211 x5_1) != 3) = false := bne_eq_false_iff_eq.mpr c22; clear c22; have H' := az H; clear H; go_wp2_with (first | ((with_reducible refine gate_callee (f := 124) rfl ?_); refine goesL_ (some 53) rfl rfl Tryz.func124 (by kernel_rfl) rfl #[.slice A0 l0.length c0, .int .i64 ji16] rfl (by (try simp only [List.map_toArray, List.map_cons, List.map_nil]); first | done | (simp only [hji16]; rfl) | rfl | (simp only [List.length_drop, List.length_take]; rfl)) ?_; (with_reducible refine (spec_l2Joins.calls k1 _ _ l0 ji16 false _ ?side1 ?side2 A13.out).mono ?_); (case side1 => exact (zM HR0.out HB.out)); (case side2 => exact HC0.out); rintro e w23 ⟨rfl, hb⟩; refine ⟨_, rfl, ?_⟩; have n0_ := az (Kd.R_below (zF HO_3.out) hb); have n1_ := az (Kd.R_below (zF HO_4.out) hb); have n2_ := az (below_step (zA HB.out) hb); clear HO_3; clear HO_4; clear HB; have HO_3 := n0_; have HO_4 := n1_; have HB := n2_; clear n0_ n1_ n2_; (try clear hb); (try clear hb2); (try clear hk); (try clear hi); have p221 : 0 ≤ ((ji16) : Int) := of_decide_eq_true (by assumption); have q221 : (ji16) < (l0.length : Int) := of_decide_eq_true (by assumption); obtain ⟨ad221, e221, hx221_0⟩ := Kd.at_int HR0.out (ji16) p221 q221; cases e221; replace hx221_0 := (HB.out.cell (World.block_lt_of_cell? w _ hx221_0)).trans hx221_0; replace p221 := eq_true p221; replace q221 := eq_true q221) | (go_at_call 125; (with_reducible refine (spec_RuneLine.calls k1 (rd l0 (ji16)) t222 _ A19.out).mono ?_); rintro e w24 ⟨rfl, hb⟩; have n0_ := az (Kd.R_below (zF HO_3.out) hb); have n1_ := az (Kd.R_below (zF HO_4.out) hb); have n2_ := az (below_step (zA HB.out) hb); clear HO_3; clear HO_4; clear HB; have HO_3 := n0_; have HO_4 := n1_; have HB := n2_; clear n0_ n1_ n2_; (try clear hb); (try clear hb2); (try clear hk); (try clear hi); have p223 : 0 ≤ (x5_1 : Int) := of_decide_eq_true (by assumption); have q223 : x5_1 < (t211.length : Int) := of_decide_eq_true (by assumption); obtain ⟨ad223, e223, hx223_0⟩ := Kd.at_int (Kd.R_reads' HO_3.out).2.2 x5_1 p223 q223; cases e223; replace p223 := eq_true p223; replace q223 := eq_true q223)); go_meet
            case rel => exact ⟨_, (false), zB, H', ⟨zJ HK1.out⟩, ⟨zF HO_3.out⟩, ⟨zF HO_4.out⟩, ⟨zA HB.out⟩⟩
           ·
            rw [if_neg c22] at H; have c22b0 : ((rd t211 x5_1) == 3) = false := beq_eq_false_iff_ne.mpr c22; have c22b1 : ((rd t211 x5_1) != 3) = true := bne_iff_ne.mpr c22; by_cases c25 : (rd t211 x5_1) = 4
            ·
             rw [if_pos c25] at H; have c25b0 : ((rd t211 x5_1) == 4) = true := beq_iff_eq.mpr c25; have c25b1 : ((rd t211 x5_1) != 4) = false := bne_eq_false_iff_eq.mpr c25; clear c25; have H' := az H; clear H; go_wp2_with (first | ((with_reducible refine gate_callee (f := 124) rfl ?_); refine goesL_ (some 53) rfl rfl Tryz.func124 (by kernel_rfl) rfl #[.slice A0 l0.length c0, .int .i64 ji16] rfl (by (try simp only [List.map_toArray, List.map_cons, List.map_nil]); first | done | (simp only [hji16]; rfl) | rfl | (simp only [List.length_drop, List.length_take]; rfl)) ?_; (with_reducible refine (spec_l2Joins.calls k1 _ _ l0 ji16 false _ ?side1 ?side2 A13.out).mono ?_); (case side1 => exact (zM HR0.out HB.out)); (case side2 => exact HC0.out); rintro e w26 ⟨rfl, hb⟩; refine ⟨_, rfl, ?_⟩; have n0_ := az (Kd.R_below (zF HO_3.out) hb); have n1_ := az (Kd.R_below (zF HO_4.out) hb); have n2_ := az (below_step (zA HB.out) hb); clear HO_3; clear HO_4; clear HB; have HO_3 := n0_; have HO_4 := n1_; have HB := n2_; clear n0_ n1_ n2_; (try clear hb); (try clear hb2); (try clear hk); (try clear hi); have p221 : 0 ≤ ((ji16) : Int) := of_decide_eq_true (by assumption); have q221 : (ji16) < (l0.length : Int) := of_decide_eq_true (by assumption); obtain ⟨ad221, e221, hx221_0⟩ := Kd.at_int HR0.out (ji16) p221 q221; cases e221; replace hx221_0 := (HB.out.cell (World.block_lt_of_cell? w _ hx221_0)).trans hx221_0; replace p221 := eq_true p221; replace q221 := eq_true q221) | (go_at_call 125; (with_reducible refine (spec_RuneLine.calls k1 (rd l0 (ji16)) t222 _ A19.out).mono ?_); rintro e w27 ⟨rfl, hb⟩; have n0_ := az (Kd.R_below (zF HO_3.out) hb); have n1_ := az (Kd.R_below (zF HO_4.out) hb); have n2_ := az (below_step (zA HB.out) hb); clear HO_3; clear HO_4; clear HB; have HO_3 := n0_; have HO_4 := n1_; have HB := n2_; clear n0_ n1_ n2_; (try clear hb); (try clear hb2); (try clear hk); (try clear hi); have p223 : 0 ≤ (x5_1 : Int) := of_decide_eq_true (by assumption); have q223 : x5_1 < (t211.length : Int) := of_decide_eq_true (by assumption); obtain ⟨ad223, e223, hx223_0⟩ := Kd.at_int (Kd.R_reads' HO_3.out).2.2 x5_1 p223 q223; cases e223; replace p223 := eq_true p223; replace q223 := eq_true q223; have p224 : 0 ≤ (x5_1 : Int) := of_decide_eq_true (by assumption); have q224 : x5_1 < (t211.length : Int) := of_decide_eq_true (by assumption); obtain ⟨ad224, e224, hx224_0⟩ := Kd.at_int (Kd.R_reads' HO_3.out).2.2 x5_1 p224 q224; obtain rfl : ad223 = ad224 := (by injection e224); replace p224 := eq_true p224; replace q224 := eq_true q224)); go_meet
             case rel => exact ⟨_, (false), zB, H', ⟨zJ HK1.out⟩, ⟨zF HO_3.out⟩, ⟨zF HO_4.out⟩, ⟨zA HB.out⟩⟩
            ·
             rw [if_neg c25] at H; have c25b0 : ((rd t211 x5_1) == 4) = false := beq_eq_false_iff_ne.mpr c25; have c25b1 : ((rd t211 x5_1) != 4) = true := bne_iff_ne.mpr c25; have H' := az H; clear H; go_wp2_with (first | ((with_reducible refine gate_callee (f := 124) rfl ?_); refine goesL_ (some 53) rfl rfl Tryz.func124 (by kernel_rfl) rfl #[.slice A0 l0.length c0, .int .i64 ji16] rfl (by (try simp only [List.map_toArray, List.map_cons, List.map_nil]); first | done | (simp only [hji16]; rfl) | rfl | (simp only [List.length_drop, List.length_take]; rfl)) ?_; (with_reducible refine (spec_l2Joins.calls k1 _ _ l0 ji16 false _ ?side1 ?side2 A13.out).mono ?_); (case side1 => exact (zM HR0.out HB.out)); (case side2 => exact HC0.out); rintro e w28 ⟨rfl, hb⟩; refine ⟨_, rfl, ?_⟩; have n0_ := az (Kd.R_below (zF HO_3.out) hb); have n1_ := az (Kd.R_below (zF HO_4.out) hb); have n2_ := az (below_step (zA HB.out) hb); clear HO_3; clear HO_4; clear HB; have HO_3 := n0_; have HO_4 := n1_; have HB := n2_; clear n0_ n1_ n2_; (try clear hb); (try clear hb2); (try clear hk); (try clear hi); have p221 : 0 ≤ ((ji16) : Int) := of_decide_eq_true (by assumption); have q221 : (ji16) < (l0.length : Int) := of_decide_eq_true (by assumption); obtain ⟨ad221, e221, hx221_0⟩ := Kd.at_int HR0.out (ji16) p221 q221; cases e221; replace hx221_0 := (HB.out.cell (World.block_lt_of_cell? w _ hx221_0)).trans hx221_0; replace p221 := eq_true p221; replace q221 := eq_true q221) | (go_at_call 125; (with_reducible refine (spec_RuneLine.calls k1 (rd l0 (ji16)) t222 _ A19.out).mono ?_); rintro e w29 ⟨rfl, hb⟩; have n0_ := az (Kd.R_below (zF HO_3.out) hb); have n1_ := az (Kd.R_below (zF HO_4.out) hb); have n2_ := az (below_step (zA HB.out) hb); clear HO_3; clear HO_4; clear HB; have HO_3 := n0_; have HO_4 := n1_; have HB := n2_; clear n0_ n1_ n2_; (try clear hb); (try clear hb2); (try clear hk); (try clear hi); have p223 : 0 ≤ (x5_1 : Int) := of_decide_eq_true (by assumption); have q223 : x5_1 < (t211.length : Int) := of_decide_eq_true (by assumption); obtain ⟨ad223, e223, hx223_0⟩ := Kd.at_int (Kd.R_reads' HO_3.out).2.2 x5_1 p223 q223; cases e223; replace p223 := eq_true p223; replace q223 := eq_true q223; have p224 : 0 ≤ (x5_1 : Int) := of_decide_eq_true (by assumption); have q224 : x5_1 < (t211.length : Int) := of_decide_eq_true (by assumption); obtain ⟨ad224, e224, hx224_0⟩ := Kd.at_int (Kd.R_reads' HO_3.out).2.2 x5_1 p224 q224; obtain rfl : ad223 = ad224 := (by injection e224); replace p224 := eq_true p224; replace q224 := eq_true q224; have p225 : 0 ≤ (x5_1 : Int) := of_decide_eq_true (by assumption); have q225 : x5_1 < (t211.length : Int) := of_decide_eq_true (by assumption); obtain ⟨ad225, e225, hx225_0⟩ := Kd.at_int (Kd.R_reads' HO_3.out).2.2 x5_1 p225 q225; obtain rfl : ad223 = ad225 := (by injection e225); replace p225 := eq_true p225; replace q225 := eq_true q225))
             go_meet
             case rel => exact ⟨_, (((rd t211 x5_1) != 6)), zB, H', ⟨zJ HK1.out⟩, ⟨zF HO_3.out⟩, ⟨zF HO_4.out⟩, ⟨zA HB.out⟩⟩
          ·
           rw [if_neg c21] at H; exact absurd H (by simp)
         ·
          rw [if_neg c20] at H; have c20b0 : (t222 == 7) = false := beq_eq_false_iff_ne.mpr c20; have c20b1 : (t222 != 7) = true := bne_iff_ne.mpr c20; have H' := az H; clear H; go_wp2_with (first | ((with_reducible refine gate_callee (f := 124) rfl ?_); refine goesL_ (some 53) rfl rfl Tryz.func124 (by kernel_rfl) rfl #[.slice A0 l0.length c0, .int .i64 ji16] rfl (by (try simp only [List.map_toArray, List.map_cons, List.map_nil]); first | done | (simp only [hji16]; rfl) | rfl | (simp only [List.length_drop, List.length_take]; rfl)) ?_; (with_reducible refine (spec_l2Joins.calls k1 _ _ l0 ji16 false _ ?side1 ?side2 A13.out).mono ?_); (case side1 => exact (zM HR0.out HB.out)); (case side2 => exact HC0.out); rintro e w30 ⟨rfl, hb⟩; refine ⟨_, rfl, ?_⟩; have n0_ := az (Kd.R_below (zF HO_3.out) hb); have n1_ := az (Kd.R_below (zF HO_4.out) hb); have n2_ := az (below_step (zA HB.out) hb); clear HO_3; clear HO_4; clear HB; have HO_3 := n0_; have HO_4 := n1_; have HB := n2_; clear n0_ n1_ n2_; (try clear hb); (try clear hb2); (try clear hk); (try clear hi); have p221 : 0 ≤ ((ji16) : Int) := of_decide_eq_true (by assumption); have q221 : (ji16) < (l0.length : Int) := of_decide_eq_true (by assumption); obtain ⟨ad221, e221, hx221_0⟩ := Kd.at_int HR0.out (ji16) p221 q221; cases e221; replace hx221_0 := (HB.out.cell (World.block_lt_of_cell? w _ hx221_0)).trans hx221_0; replace p221 := eq_true p221; replace q221 := eq_true q221) | (go_at_call 125; (with_reducible refine (spec_RuneLine.calls k1 (rd l0 (ji16)) t222 _ A19.out).mono ?_); rintro e w31 ⟨rfl, hb⟩; have n0_ := az (Kd.R_below (zF HO_3.out) hb); have n1_ := az (Kd.R_below (zF HO_4.out) hb); have n2_ := az (below_step (zA HB.out) hb); clear HO_3; clear HO_4; clear HB; have HO_3 := n0_; have HO_4 := n1_; have HB := n2_; clear n0_ n1_ n2_; (try clear hb); (try clear hb2); (try clear hk); (try clear hi))); go_meet
          case rel => exact ⟨_, (false), zB, H', ⟨zJ HK1.out⟩, ⟨zF HO_3.out⟩, ⟨zF HO_4.out⟩, ⟨zA HB.out⟩⟩
        ·
         rw [if_neg c18] at H; exact absurd H (by simp)
       ·
        rw [if_neg c17] at H; exact absurd H (by simp)
     case rest =>
      clear HC11; (try clear c1); (try clear c2); (try clear p2); (try clear q2); (try clear hx2); (try clear c6); (try clear c6b0); (try clear p6); (try clear c7); (try clear c7b0); (try clear c7b1); (try clear c8); (try clear c9); (try clear c12); (try clear c14); (try clear c17); (try clear c17b0); (try clear c18); (try clear c18b0); (try clear c20); (try clear c20b0); (try clear c20b1); (try clear c21); (try clear c21b0); (try clear c22); (try clear c22b0); (try clear c22b1); (try clear p22); (try clear q22); (try clear hx22); (try clear c25); (try clear c25b0); (try clear c25b1); (try clear hx221_0); (try clear hx223_0); (try clear hx224_0); (try clear hx225_0); (try clear p2); (try clear p221); (try clear p223); (try clear p224); (try clear p225); (try clear q221); (try clear q223); (try clear q224); (try clear q225); obtain ⟨kq, x49_10, rfl, HA, HJ10, HO_3, HO_4, HB⟩ := hcut
      cases kq with
      | zero => exact absurd HA.out (by simp [spec_l5Breaks.j1])
      | succ kj10 =>
       have H := HA.out; clear HA; simp only [spec_l5Breaks.j1] at H; by_cases c32 : x49_10 = true
       ·
        subst c32; have H1 : (if x4_1.length < 17592186044416 then (spec_l5Breaks.l0 kj10 l0 t211 (x4_1 ++ [0]) (wrap64 (x5_1 + 1))) else (none)) = some r := by rw [if_pos rfl] at H; exact H
        clear H; have H := H1; clear H1; by_cases c33 : x4_1.length < 17592186044416
        ·
         rw [if_pos c33] at H; have LMc33 := az c33; clear c33; obtain ⟨y226, hy226⟩ : ∃ y_ : List Int, y_ = (x4_1 ++ [0]) := ⟨_, rfl⟩; replace H : (spec_l5Breaks.l0 kj10 l0 t211 y226 (wrap64 (x5_1 + 1))) = some r := by first | (rw [hy226]; with_reducible exact H) | (have H2_ := (Option.bind_some _ _).symm.trans H; rw [hy226]; with_reducible exact H2_) | (have H2_ := (Option.bind_some _ _).symm.trans H; with_reducible exact H2_) | with_reducible exact H | (rw [hy226]; exact H) | exact H
         have Ny226 := az hy226; clear hy226; have H' := az H; clear H; go_wp2_with (first | ((with_reducible refine gate_builtin (b := .append) (xs := #[.tmp 84, .tmp 85]) rfl ?_); at_builtin; refine Kd.R_append (Kd.int .i64) (w0 := w) w.heap.size rfl (.tmp 84) (.tmp 85) 22 3 (.int .i64 0) 8 rfl Tryz.underlying22 info3 rfl (by decide) (by omega) u4 x4_1 0 [.int .i64 0] (fun k_ => some k_ ≠ (.slice Ao12 t211.length co12 : Value).ownBlock) (fun _ => False) rfl rfl ?aP (fun _ hk => hk.elim) ?aF ?aO ?aB ?aS ?aL ?_; (case aP => exact rfl); (case aB => exact (zA HB.out)); (case aF => exact (fun k_ hk => Kd.fresh' (Kd.R_lt (zF HO_3.out)) k_ hk)); (case aO => exact (zF HO_4.out)); (case aS => exact (below_size (zA HB.out))); (case aL => have := LMc33.out; omega); intro v227 w34 ho hb hg hat; rw [← Ny226.out] at ho; have n0_ := az (Kd.R_after (ok := (fun _ => True)) (zV HO_3.out) hg hat); have n1_ := az (hb); have n2_ := az (ho); clear HO_3; clear HB; clear HO_4; have HO_3 := n0_; have HB := n1_; have HO228 := n2_; clear n0_ n1_ n2_; clear ho hb hg hat)); go_roundg kj10
         case measure => have := HK1.out; have := HJ10.out; omega
         case rel => exact ⟨(y226), (wrap64 (x5_1 + 1)), zB, H', ⟨zL HK1.out HJ10.out⟩, ⟨zQ HO_3.out⟩, ⟨zF HO228.out⟩, ⟨zA HB.out⟩⟩
        ·
         rw [if_neg c33] at H; exact absurd H (by simp)
       ·
        replace c32 := Bool.eq_false_iff.mpr c32; subst c32; have H1 : ((spec_l5Before.f kj10 t211 x5_1).bind fun t229 => (if t229 ≥ 0 then (if 0 ≤ t229 then (if t229 < (t211.length : Int) then (if 0 ≤ x5_1 then (if x5_1 < (t211.length : Int) then (if 0 ≤ (wrap64 (x5_1 + 1)) then (if (wrap64 (x5_1 + 1)) < (t211.length : Int) then ((spec_l5Place.f kj10 (rd t211 x5_1) (rd t211 (wrap64 (x5_1 + 1))) (rd t211 t229)).bind fun t233 => (if x4_1.length < 17592186044416 then (spec_l5Breaks.l0 kj10 l0 t211 (x4_1 ++ [t233]) (wrap64 (x5_1 + 1))) else (none))) else (none)) else (none)) else (none)) else (none)) else (none)) else (none)) else (if 0 ≤ x5_1 then (if x5_1 < (t211.length : Int) then (if 0 ≤ (wrap64 (x5_1 + 1)) then (if (wrap64 (x5_1 + 1)) < (t211.length : Int) then ((spec_l5Place.f kj10 (rd t211 x5_1) (rd t211 (wrap64 (x5_1 + 1))) 0).bind fun t239 => (if x4_1.length < 17592186044416 then (spec_l5Breaks.l0 kj10 l0 t211 (x4_1 ++ [t239]) (wrap64 (x5_1 + 1))) else (none))) else (none)) else (none)) else (none)) else (none)))) = some r := by rw [if_neg (show ¬ (false = true) by decide)] at H; exact H
        clear H; have H := H1; clear H1; replace H := Option.bind_eq_some_iff.mp H; obtain ⟨t229, A350, H⟩ := H; replace H : (if t229 ≥ 0 then (if 0 ≤ t229 then (if t229 < (t211.length : Int) then (if 0 ≤ x5_1 then (if x5_1 < (t211.length : Int) then (if 0 ≤ (wrap64 (x5_1 + 1)) then (if (wrap64 (x5_1 + 1)) < (t211.length : Int) then ((spec_l5Place.f kj10 (rd t211 x5_1) (rd t211 (wrap64 (x5_1 + 1))) (rd t211 t229)).bind fun t233 => (if x4_1.length < 17592186044416 then (spec_l5Breaks.l0 kj10 l0 t211 (x4_1 ++ [t233]) (wrap64 (x5_1 + 1))) else (none))) else (none)) else (none)) else (none)) else (none)) else (none)) else (none)) else (if 0 ≤ x5_1 then (if x5_1 < (t211.length : Int) then (if 0 ≤ (wrap64 (x5_1 + 1)) then (if (wrap64 (x5_1 + 1)) < (t211.length : Int) then ((spec_l5Place.f kj10 (rd t211 x5_1) (rd t211 (wrap64 (x5_1 + 1))) 0).bind fun t239 => (if x4_1.length < 17592186044416 then (spec_l5Breaks.l0 kj10 l0 t211 (x4_1 ++ [t239]) (wrap64 (x5_1 + 1))) else (none))) else (none)) else (none)) else (none)) else (none))) = some r := H; have A35 := az A350; clear A350; by_cases c36 : t229 ≥ 0
        ·
         rw [if_pos c36] at H; have c36b0 : decide (0 ≤ t229) = true := decide_eq_true c36; clear c36; by_cases c37 : 0 ≤ t229
         ·
          rw [if_pos c37] at H; have c37b0 : decide (0 ≤ t229) = true := decide_eq_true c37; clear c37; by_cases c38 : t229 < (t211.length : Int)
          ·
           rw [if_pos c38] at H; have c38b0 : decide (t229 < (t211.length : Int)) = true := decide_eq_true c38; clear c38; by_cases c39 : 0 ≤ x5_1
           ·
            rw [if_pos c39] at H; have c39b0 : decide (0 ≤ x5_1) = true := decide_eq_true c39; clear c39; by_cases c40 : x5_1 < (t211.length : Int)
            ·
             rw [if_pos c40] at H; have c40b0 : decide (x5_1 < (t211.length : Int)) = true := decide_eq_true c40; clear c40; obtain ⟨ji41, hji41⟩ : ∃ j_ : Int, (wrap64 (x5_1 + 1)) = j_ := ⟨_, rfl⟩; replace H : (if 0 ≤ (ji41) then (if (ji41) < (t211.length : Int) then ((spec_l5Place.f kj10 (rd t211 x5_1) (rd t211 (ji41)) (rd t211 t229)).bind fun t233 => (if x4_1.length < 17592186044416 then (spec_l5Breaks.l0 kj10 l0 t211 (x4_1 ++ [t233]) ji41) else (none))) else (none)) else (none)) = some r := by first | (rw [hji41] at H; exact H) | (simp only [hji41] at H ⊢; exact H)
             (try rw [hji41] at c7b0); (try rw [hji41] at c7b1); (try rw [hji41] at A35); have hji41w : (IntKind.i64.wrap (x5_1 + 1)) = ji41 := (i64_w _).trans hji41; by_cases c42 : 0 ≤ (ji41)
             ·
              rw [if_pos c42] at H; have c42b0 : decide (0 ≤ (ji41)) = true := decide_eq_true c42; clear c42; by_cases c43 : (ji41) < (t211.length : Int)
              ·
               rw [if_pos c43] at H; have c43b0 : decide ((ji41) < (t211.length : Int)) = true := decide_eq_true c43; clear c43; replace H := Option.bind_eq_some_iff.mp H; obtain ⟨t233, A440, H⟩ := H; replace H : (if x4_1.length < 17592186044416 then (spec_l5Breaks.l0 kj10 l0 t211 (x4_1 ++ [t233]) ji41) else (none)) = some r := H; have A44 := az A440; clear A440; by_cases c45 : x4_1.length < 17592186044416
               ·
                rw [if_pos c45] at H; have LMc45 := az c45; clear c45; obtain ⟨y234, hy234⟩ : ∃ y_ : List Int, y_ = (x4_1 ++ [t233]) := ⟨_, rfl⟩; replace H : (spec_l5Breaks.l0 kj10 l0 t211 y234 ji41) = some r := by first | (rw [hy234]; with_reducible exact H) | (have H2_ := (Option.bind_some _ _).symm.trans H; rw [hy234]; with_reducible exact H2_) | (have H2_ := (Option.bind_some _ _).symm.trans H; with_reducible exact H2_) | with_reducible exact H | (rw [hy234]; exact H) | exact H
                have Ny234 := az hy234; clear hy234; have H' := az H; clear H; (try go_wp2_with (first | ((with_reducible refine gate_callee (f := 126) rfl ?_); refine goesL_ (some 19) rfl rfl Tryz.func126 (by kernel_rfl) rfl #[.slice Ao12 t211.length co12, .int .i64 x5_1] rfl zC ?_; (with_reducible refine (spec_l5Before.calls kj10 _ _ t211 x5_1 t229 _ ?side1 ?side2 A35.out).mono ?_); (case side1 => exact (zR HO_3.out)); (case side2 => exact (Kd.R_reads' HO_3.out).2.1); rintro e w' ⟨rfl, ⟨nd, rfl⟩⟩; refine ⟨_, rfl, ?_⟩; have p230 : 0 ≤ (t229 : Int) := of_decide_eq_true (by assumption); have q230 : t229 < (t211.length : Int) := of_decide_eq_true (by assumption); obtain ⟨ad230, e230, hx230_0⟩ := Kd.at_int (Kd.R_reads' HO_3.out).2.2 t229 p230 q230; cases e230; replace p230 := eq_true p230; replace q230 := eq_true q230))); (try (rw [drewN_self wc]; generalize hq_ : World.drewN wc _ = wc; have n0_ : Aside0 (Kd.R (Kd.int .i64) 3 wc w.heap.size (fun k_ => some k_ ≠ (u4 : Value).ownBlock) (.slice (some ad230) t211.length co12) t211) := ⟨by rw [← hq_]; exact (zF HO_3.out)⟩; have n1_ : Aside0 (Kd.R (Kd.int .i64) 3 wc w.heap.size (fun k_ => some k_ ≠ (.slice (some ad230) t211.length co12 : Value).ownBlock) u4 x4_1) := ⟨by rw [← hq_]; exact (zF HO_4.out)⟩; have n2_ : Aside0 (Below w.heap.size w wc) := ⟨by rw [← hq_]; exact (zA HB.out)⟩; clear HO_3 HO_4 HB hq_; have HO_3 := n0_; have HO_4 := n1_; have HB := n2_; clear n0_ n1_ n2_)); have n0_ := az (Kd.R_drew HO_3.out); have n1_ := az (Kd.R_drew HO_4.out); have n2_ := az (below_drew1 HB.out); clear HO_3; clear HO_4; clear HB; have HO_3 := n0_; have HO_4 := n1_; have HB := n2_; clear n0_ n1_ n2_; have p231 : 0 ≤ (x5_1 : Int) := of_decide_eq_true (by assumption); have q231 : x5_1 < (t211.length : Int) := of_decide_eq_true (by assumption); obtain ⟨ad231, e231, hx231_0⟩ := Kd.at_int (Kd.R_reads' HO_3.out).2.2 x5_1 p231 q231; obtain rfl : ad230 = ad231 := (by injection e231); replace p231 := eq_true p231; replace q231 := eq_true q231; have p232 : 0 ≤ ((ji41) : Int) := of_decide_eq_true (by assumption); have q232 : (ji41) < (t211.length : Int) := of_decide_eq_true (by assumption); obtain ⟨ad232, e232, hx232_0⟩ := Kd.at_int (Kd.R_reads' HO_3.out).2.2 (ji41) p232 q232; obtain rfl : ad230 = ad232 := (by injection e232); replace p232 := eq_true p232; replace q232 := eq_true q232; refine start_ (n := 15) (S := fun w' => w'.cell? (ad230.add (x5_1).toNat) = some (.int .i64 (rd t211 x5_1)) ∧ w'.cell? (ad230.add ((ji41)).toNat) = some (.int .i64 (rd t211 (ji41)))) (ds := [12, 13]) q19M0 (by kernel_rfl) rfl rfl ⟨hx231_0, hx232_0⟩ (fun hHeld => ?_); refine with_tabW spec_l5Breaks.tab10 spec_l5Breaks.bits10 (fun HT_ HW_ => ?_); generalize wc.drew = w46 at HO_3 HO_4 HB hx231_0 hx232_0 hHeld ⊢; refine pure_ (i := 0) (N := some 26) (v := ?_) (a' := ?_) q19M1 rfl rfl (any_of HT_.out (by kernel_rfl)) (fun _ _ _ => id) (Or.inl ⟨by rfl, ?_⟩) ?_ ?_; rotate_left; intro w'; go_simp; (with_reducible rfl); rotate_left; simp only [Act.put, q19s, q19z, q19n, i64_w, i32_w]; rfl; refine pure_ (i := 1) (N := some 27) (v := ?_) (a' := ?_) q19M2 rfl rfl (any_of HT_.out (by kernel_rfl)) (fun _ _ _ => id) (Or.inl ⟨by rfl, ?_⟩) ?_ ?_
                rotate_left; intro w'; go_simp; (with_reducible rfl); rotate_left; simp only [Act.put, q19s, q19z, q19n, i64_w, i32_w]; rfl; refine pure_ (i := 2) (N := some 28) (v := ?_) (a' := ?_) q19M3 rfl rfl (any_of HT_.out (by kernel_rfl)) (fun _ _ _ => id) (Or.inl ⟨by rfl, ?_⟩) ?_ ?_; rotate_left; intro w'; go_simp; (with_reducible rfl); rotate_left; simp only [Act.put, q19s, q19z, q19n, i64_w, i32_w]; rfl; refine pure_ (i := 3) (N := some 29) (v := ?_) (a' := ?_) q19M4 rfl rfl (any_of HT_.out (by kernel_rfl)) (fun _ _ _ => id) (Or.inl ⟨by rfl, ?_⟩) ?_ ?_; rotate_left; intro w'; go_simp; (with_reducible rfl); rotate_left; simp only [Act.put, q19s, q19z, q19n, i64_w, i32_w]; rfl; refine pure_ (i := 5) (N := some 31) (v := ?_) (a' := ?_) q19M5 rfl rfl (any_of HT_.out (by kernel_rfl)) (fun _ _ _ => id) (Or.inl ⟨by rfl, ?_⟩) ?_ ?_; rotate_left; intro w'; go_simp; (with_reducible rfl); rotate_left; simp only [Act.put, q19s, q19z, q19n, i64_w, i32_w]; rfl; refine pure_ (i := 6) (N := some 32) (v := ?_) (a' := ?_) q19M6 rfl rfl (any_of HT_.out (by kernel_rfl)) (fun _ _ _ => id) (Or.inl ⟨by rfl, ?_⟩) ?_ ?_; rotate_left; intro w'; go_simp; (with_reducible rfl); rotate_left; simp only [Act.put, q19s, q19z, q19n, i64_w, i32_w]; rfl; refine pure_ (i := 7) (N := some 33) (v := ?_) (a' := ?_) q19M7 rfl rfl (any_of HT_.out (by kernel_rfl)) (fun _ _ _ => id) (Or.inl ⟨by rfl, ?_⟩) ?_ ?_; rotate_left; intro w'; go_simp; (with_reducible rfl); rotate_left; simp only [Act.put, q19s, q19z, q19n, i64_w, i32_w]; rfl; refine pure_ (i := 8) (N := some 34) (v := ?_) (a' := ?_) q19M8 rfl rfl (any_of HT_.out (by kernel_rfl)) (fun _ _ _ => id) (Or.inl ⟨by rfl, ?_⟩) ?_ ?_; rotate_left; intro w'; go_simp; (with_reducible rfl); rotate_left; simp only [Act.put, q19s, q19z, q19n, i64_w, i32_w]; rfl; refine pure_ (i := 10) (N := some 36) (v := ?_) (a' := ?_) q19M9 rfl rfl (any_of HT_.out (by kernel_rfl)) (fun _ _ _ => id) (Or.inl ⟨by rfl, ?_⟩) ?_ ?_; rotate_left; intro w'; go_simp; (with_reducible rfl); rotate_left; simp only [Act.put, q19s, q19z, q19n, i64_w, i32_w]; rfl; refine take_ (i := 4) (N := some 30) (v := ?_) (a' := ?_) q19M10 rfl rfl (take_ofW HT_.out HW_.out (by kernel_rfl)) (fun _ _ _ => id) (Or.inl ⟨by rfl, ?_⟩) hHeld ?_ ?_; rotate_left
                ·
                 rintro w' ⟨s0, s1⟩; go_simp; with_reducible rfl
                rotate_left
                · simp only [Act.put, q19s, q19z, q19n, i64_w, i32_w]; rfl
                refine take_ (i := 9) (N := some 35) (v := ?_) (a' := ?_) q19M11 rfl rfl (take_ofW HT_.out HW_.out (by kernel_rfl)) (fun _ _ _ => id) (Or.inl ⟨by rfl, ?_⟩) hHeld ?_ ?_; rotate_left
                ·
                 rintro w' ⟨s0, s1⟩; go_simp; with_reducible rfl
                rotate_left
                · simp only [Act.put, q19s, q19z, q19n, i64_w, i32_w]; rfl
                refine one_ (i := 11) (N := some 37) q19M12 rfl rfl (one_of HT_.out (by kernel_rfl)) (by decide) (fun K hK => ?_); refine goes_ Tryz.func127 (by kernel_rfl) rfl #[.int .i64 (rd t211 x5_1), .int .i64 (rd t211 (ji41)), .int .i64 (rd t211 t229)] (by rfl) rfl rfl (by (try simp only [List.map_toArray, List.map_cons, List.map_nil]); first | done | (simp only [hji41]; rfl) | rfl | (simp only [List.length_drop, List.length_take]; rfl)) ?_; with_reducible refine (spec_l5Place.calls kj10 (rd t211 x5_1) (rd t211 (ji41)) (rd t211 t229) t233 _ A44.out).mono ?_
                rintro e w' ⟨rfl, ⟨nd, rfl⟩⟩; refine ⟨_, rfl, ?_⟩; refine hK.out _ _ ⟨hHeld.1, hHeld.2⟩ (fun hHeld => ?_); clear hK K; refine norm_ (a' := ?_) ?_ ?_; rotate_left
                ·
                 show Act.put _ (some 37) _ = _; simp only [Act.put, q19s, q19z, q19n, i64_w, i32_w]; rfl
                refine last_ (i := 12) (N := some 38) q19M13 rfl rfl (one_of HT_.out (by kernel_rfl)) (by decide) (fun K hK => ?_); refine value_ (w1 := ?_) (v := ?_) (by rfl) rfl ?_ ?_; rotate_left 2
                ·
                 go_simp; constructor
                 · rfl
                 · rfl
                refine hK.out _ _ ?_; clear hK K; refine norm_ (a' := ?_) ?_ ?_; rotate_left
                ·
                 show Act.put _ (some 38) _ = _; simp only [Act.put, q19s, q19z, q19n, i64_w, i32_w]; rfl
                refine last_ (i := 13) (N := some 39) q19M14 rfl rfl (one_of HT_.out (by kernel_rfl)) (by decide) (fun K hK => ?_); refine Kd.R_append_step (Kd.int .i64) (w0 := w) w.heap.size (by rfl) (.tmp 26) (.tmp 38) 22 3 (.int .i64 0) 8 rfl Tryz.underlying22 info3 rfl (by decide) (by omega) u4 x4_1 t233 [.int .i64 t233] (fun k_ => some k_ ≠ (.slice (some ad230) t211.length co12 : Value).ownBlock) (fun _ => False) rfl rfl ?aP (fun _ hk => hk.elim) ?aF ?aO ?aB ?aS ?aL ?_; (case aP => exact rfl); (case aB => exact (zA HB.out)); (case aF => exact (fun k_ hk => Kd.fresh' (Kd.R_lt (zF HO_3.out)) k_ hk)); (case aO => exact (zF HO_4.out)); (case aS => exact (below_size (zA HB.out))); (case aL => have := LMc45.out; omega); intro v235 w47 ho hb hg hat; rw [← Ny234.out] at ho; have n0_ := az (Kd.R_after (ok := (fun _ => True)) (zV HO_3.out) hg hat); have n1_ := az (hb); have n2_ := az (ho); clear HO_3; clear HB; clear HO_4; have HO_3 := n0_; have HB := n1_; have HO236 := n2_; clear n0_ n1_ n2_; clear ho hb hg hat; refine hK.out _ _ ?_; clear hK K; refine norm_ (a' := ?_) ?_ ?_; rotate_left
                ·
                 show Act.put _ (some 39) _ = _; simp only [Act.put, q19s, q19z, q19n, i64_w, i32_w]; rfl
                refine pure_ (i := 14) (N := some 4) (v := ?_) (a' := ?_) q19M15 rfl rfl (any_of HT_.out (by kernel_rfl)) (fun _ _ _ => id) (Or.inl ⟨by rfl, ?_⟩) ?_ ?_; rotate_left; intro w'; go_simp; (with_reducible rfl); rotate_left; simp only [Act.put, q19s, q19z, q19n, i64_w, i32_w]; rfl; refine done_ (done_of HT_.out (by kernel_rfl)) ?_; (try go_wp2); go_roundg kj10
                case measure => have := HK1.out; have := HJ10.out; omega
                case rel => exact ⟨(y234), (ji41), (by first | rfl | (simp; done) | (simp only [← hji41] <;> (first | rfl | simp)) | (simp [*]; done)), H', ⟨zL HK1.out HJ10.out⟩, ⟨zQ HO_3.out⟩, ⟨zF HO236.out⟩, ⟨zA HB.out⟩⟩
               ·
                rw [if_neg c45] at H; exact absurd H (by simp)
              ·
               rw [if_neg c43] at H; exact absurd H (by simp)
             ·
              rw [if_neg c42] at H; exact absurd H (by simp)
            ·
             rw [if_neg c40] at H; exact absurd H (by simp)
           ·
            rw [if_neg c39] at H; exact absurd H (by simp)
          ·
           rw [if_neg c38] at H; exact absurd H (by simp)
         ·
          rw [if_neg c37] at H; exact absurd H (by simp)
        ·
         rw [if_neg c36] at H; have c36b0 : decide (0 ≤ t229) = false := decide_eq_false c36; clear c36; by_cases c48 : 0 ≤ x5_1
         ·
          rw [if_pos c48] at H; have c48b0 : decide (0 ≤ x5_1) = true := decide_eq_true c48; clear c48; by_cases c49 : x5_1 < (t211.length : Int)
          ·
           rw [if_pos c49] at H; have c49b0 : decide (x5_1 < (t211.length : Int)) = true := decide_eq_true c49; clear c49; obtain ⟨ji50, hji50⟩ : ∃ j_ : Int, (wrap64 (x5_1 + 1)) = j_ := ⟨_, rfl⟩; replace H : (if 0 ≤ (ji50) then (if (ji50) < (t211.length : Int) then ((spec_l5Place.f kj10 (rd t211 x5_1) (rd t211 (ji50)) 0).bind fun t239 => (if x4_1.length < 17592186044416 then (spec_l5Breaks.l0 kj10 l0 t211 (x4_1 ++ [t239]) ji50) else (none))) else (none)) else (none)) = some r := by first | (rw [hji50] at H; exact H) | (simp only [hji50] at H ⊢; exact H)
           (try rw [hji50] at c7b0); (try rw [hji50] at c7b1); (try rw [hji50] at A35); have hji50w : (IntKind.i64.wrap (x5_1 + 1)) = ji50 := (i64_w _).trans hji50; by_cases c51 : 0 ≤ (ji50)
           ·
            rw [if_pos c51] at H; have c51b0 : decide (0 ≤ (ji50)) = true := decide_eq_true c51; clear c51; by_cases c52 : (ji50) < (t211.length : Int)
            ·
             rw [if_pos c52] at H; have c52b0 : decide ((ji50) < (t211.length : Int)) = true := decide_eq_true c52; clear c52; replace H := Option.bind_eq_some_iff.mp H; obtain ⟨t239, A530, H⟩ := H; replace H : (if x4_1.length < 17592186044416 then (spec_l5Breaks.l0 kj10 l0 t211 (x4_1 ++ [t239]) ji50) else (none)) = some r := H; have A53 := az A530; clear A530; by_cases c54 : x4_1.length < 17592186044416
             ·
              rw [if_pos c54] at H; have LMc54 := az c54; clear c54; obtain ⟨y240, hy240⟩ : ∃ y_ : List Int, y_ = (x4_1 ++ [t239]) := ⟨_, rfl⟩; replace H : (spec_l5Breaks.l0 kj10 l0 t211 y240 ji50) = some r := by first | (rw [hy240]; with_reducible exact H) | (have H2_ := (Option.bind_some _ _).symm.trans H; rw [hy240]; with_reducible exact H2_) | (have H2_ := (Option.bind_some _ _).symm.trans H; with_reducible exact H2_) | with_reducible exact H | (rw [hy240]; exact H) | exact H
              have Ny240 := az hy240; clear hy240; have H' := az H; clear H; (try go_wp2_with (first | ((with_reducible refine gate_callee (f := 126) rfl ?_); refine goesL_ (some 19) rfl rfl Tryz.func126 (by kernel_rfl) rfl #[.slice Ao12 t211.length co12, .int .i64 x5_1] rfl zC ?_; (with_reducible refine (spec_l5Before.calls kj10 _ _ t211 x5_1 t229 _ ?side1 ?side2 A35.out).mono ?_); (case side1 => exact (zR HO_3.out)); (case side2 => exact (Kd.R_reads' HO_3.out).2.1); rintro e w' ⟨rfl, ⟨nd, rfl⟩⟩; refine ⟨_, rfl, ?_⟩))); (try (rw [drewN_self wc]; generalize hq_ : World.drewN wc _ = wc; have n0_ : Aside0 (Kd.R (Kd.int .i64) 3 wc w.heap.size (fun k_ => some k_ ≠ (u4 : Value).ownBlock) (.slice Ao12 t211.length co12) t211) := ⟨by rw [← hq_]; exact (zF HO_3.out)⟩; have n1_ : Aside0 (Kd.R (Kd.int .i64) 3 wc w.heap.size (fun k_ => some k_ ≠ (.slice Ao12 t211.length co12 : Value).ownBlock) u4 x4_1) := ⟨by rw [← hq_]; exact (zF HO_4.out)⟩; have n2_ : Aside0 (Below w.heap.size w wc) := ⟨by rw [← hq_]; exact (zA HB.out)⟩; clear HO_3 HO_4 HB hq_; have HO_3 := n0_; have HO_4 := n1_; have HB := n2_; clear n0_ n1_ n2_)); have n0_ := az (Kd.R_drew HO_3.out); have n1_ := az (Kd.R_drew HO_4.out); have n2_ := az (below_drew1 HB.out); clear HO_3; clear HO_4; clear HB; have HO_3 := n0_; have HO_4 := n1_; have HB := n2_; clear n0_ n1_ n2_; have p237 : 0 ≤ (x5_1 : Int) := of_decide_eq_true (by assumption); have q237 : x5_1 < (t211.length : Int) := of_decide_eq_true (by assumption); obtain ⟨ad237, e237, hx237_0⟩ := Kd.at_int (Kd.R_reads' HO_3.out).2.2 x5_1 p237 q237
              cases e237
              replace p237 := eq_true p237; replace q237 := eq_true q237; have p238 : 0 ≤ ((ji50) : Int) := of_decide_eq_true (by assumption); have q238 : (ji50) < (t211.length : Int) := of_decide_eq_true (by assumption); obtain ⟨ad238, e238, hx238_0⟩ := Kd.at_int (Kd.R_reads' HO_3.out).2.2 (ji50) p238 q238; obtain rfl : ad237 = ad238 := (by injection e238); replace p238 := eq_true p238; replace q238 := eq_true q238; refine start_ (n := 15) (S := fun w' => w'.cell? (ad237.add (x5_1).toNat) = some (.int .i64 (rd t211 x5_1)) ∧ w'.cell? (ad237.add ((ji50)).toNat) = some (.int .i64 (rd t211 (ji50)))) (ds := [12, 13]) q19M0 (by kernel_rfl) rfl rfl ⟨hx237_0, hx238_0⟩ (fun hHeld => ?_); refine with_tabW spec_l5Breaks.tab10 spec_l5Breaks.bits10 (fun HT_ HW_ => ?_); generalize wc.drew = w55 at HO_3 HO_4 HB hx237_0 hx238_0 hHeld ⊢; refine pure_ (i := 0) (N := some 26) (v := ?_) (a' := ?_) q19M1 rfl rfl (any_of HT_.out (by kernel_rfl)) (fun _ _ _ => id) (Or.inl ⟨by rfl, ?_⟩) ?_ ?_; rotate_left; intro w'; go_simp; (with_reducible rfl); rotate_left; simp only [Act.put, q19s, q19z, q19n, i64_w, i32_w]; rfl; refine pure_ (i := 1) (N := some 27) (v := ?_) (a' := ?_) q19M2 rfl rfl (any_of HT_.out (by kernel_rfl)) (fun _ _ _ => id) (Or.inl ⟨by rfl, ?_⟩) ?_ ?_; rotate_left; intro w'; go_simp; (with_reducible rfl); rotate_left; simp only [Act.put, q19s, q19z, q19n, i64_w, i32_w]; rfl; refine pure_ (i := 2) (N := some 28) (v := ?_) (a' := ?_) q19M3 rfl rfl (any_of HT_.out (by kernel_rfl)) (fun _ _ _ => id) (Or.inl ⟨by rfl, ?_⟩) ?_ ?_; rotate_left; intro w'; go_simp; (with_reducible rfl); rotate_left; simp only [Act.put, q19s, q19z, q19n, i64_w, i32_w]; rfl; refine pure_ (i := 3) (N := some 29) (v := ?_) (a' := ?_) q19M4 rfl rfl (any_of HT_.out (by kernel_rfl)) (fun _ _ _ => id) (Or.inl ⟨by rfl, ?_⟩) ?_ ?_; rotate_left; intro w'; go_simp; (with_reducible rfl); rotate_left; simp only [Act.put, q19s, q19z, q19n, i64_w, i32_w]; rfl; refine pure_ (i := 5) (N := some 31) (v := ?_) (a' := ?_) q19M5 rfl rfl (any_of HT_.out (by kernel_rfl)) (fun _ _ _ => id) (Or.inl ⟨by rfl, ?_⟩) ?_ ?_; rotate_left; intro w'; go_simp; (with_reducible rfl); rotate_left; simp only [Act.put, q19s, q19z, q19n, i64_w, i32_w]; rfl; refine pure_ (i := 6) (N := some 32) (v := ?_) (a' := ?_) q19M6 rfl rfl (any_of HT_.out (by kernel_rfl)) (fun _ _ _ => id) (Or.inl ⟨by rfl, ?_⟩) ?_ ?_; rotate_left; intro w'; go_simp; (with_reducible rfl); rotate_left; simp only [Act.put, q19s, q19z, q19n, i64_w, i32_w]; rfl; refine pure_ (i := 7) (N := some 33) (v := ?_) (a' := ?_) q19M7 rfl rfl (any_of HT_.out (by kernel_rfl)) (fun _ _ _ => id) (Or.inl ⟨by rfl, ?_⟩) ?_ ?_; rotate_left; intro w'; go_simp; (with_reducible rfl); rotate_left; simp only [Act.put, q19s, q19z, q19n, i64_w, i32_w]; rfl; refine pure_ (i := 8) (N := some 34) (v := ?_) (a' := ?_) q19M8 rfl rfl (any_of HT_.out (by kernel_rfl)) (fun _ _ _ => id) (Or.inl ⟨by rfl, ?_⟩) ?_ ?_; rotate_left; intro w'; go_simp; (with_reducible rfl); rotate_left; simp only [Act.put, q19s, q19z, q19n, i64_w, i32_w]; rfl; refine pure_ (i := 10) (N := some 36) (v := ?_) (a' := ?_) q19M9 rfl rfl (any_of HT_.out (by kernel_rfl)) (fun _ _ _ => id) (Or.inl ⟨by rfl, ?_⟩) ?_ ?_; rotate_left; intro w'; go_simp; (with_reducible rfl); rotate_left; simp only [Act.put, q19s, q19z, q19n, i64_w, i32_w]; rfl; refine take_ (i := 4) (N := some 30) (v := ?_) (a' := ?_) q19M10 rfl rfl (take_ofW HT_.out HW_.out (by kernel_rfl)) (fun _ _ _ => id) (Or.inl ⟨by rfl, ?_⟩) hHeld ?_ ?_; rotate_left
              ·
               rintro w' ⟨s0, s1⟩; go_simp; with_reducible rfl
              rotate_left
              · simp only [Act.put, q19s, q19z, q19n, i64_w, i32_w]; rfl
              refine take_ (i := 9) (N := some 35) (v := ?_) (a' := ?_) q19M11 rfl rfl (take_ofW HT_.out HW_.out (by kernel_rfl)) (fun _ _ _ => id) (Or.inl ⟨by rfl, ?_⟩) hHeld ?_ ?_; rotate_left
              ·
               rintro w' ⟨s0, s1⟩; go_simp; with_reducible rfl
              rotate_left
              · simp only [Act.put, q19s, q19z, q19n, i64_w, i32_w]; rfl
              refine one_ (i := 11) (N := some 37) q19M12 rfl rfl (one_of HT_.out (by kernel_rfl)) (by decide) (fun K hK => ?_); refine goes_ Tryz.func127 (by kernel_rfl) rfl #[.int .i64 (rd t211 x5_1), .int .i64 (rd t211 (ji50)), .int .i64 0] (by rfl) rfl rfl (by (try simp only [List.map_toArray, List.map_cons, List.map_nil]); first | done | (simp only [hji50]; rfl) | rfl | (simp only [List.length_drop, List.length_take]; rfl)) ?_; with_reducible refine (spec_l5Place.calls kj10 (rd t211 x5_1) (rd t211 (ji50)) 0 t239 _ A53.out).mono ?_
              rintro e w' ⟨rfl, ⟨nd, rfl⟩⟩; refine ⟨_, rfl, ?_⟩; refine hK.out _ _ ⟨hHeld.1, hHeld.2⟩ (fun hHeld => ?_); clear hK K; refine norm_ (a' := ?_) ?_ ?_; rotate_left
              ·
               show Act.put _ (some 37) _ = _; simp only [Act.put, q19s, q19z, q19n, i64_w, i32_w]; rfl
              refine last_ (i := 12) (N := some 38) q19M13 rfl rfl (one_of HT_.out (by kernel_rfl)) (by decide) (fun K hK => ?_); refine value_ (w1 := ?_) (v := ?_) (by rfl) rfl ?_ ?_; rotate_left 2
              ·
               go_simp; constructor
               · rfl
               · rfl
              refine hK.out _ _ ?_; clear hK K; refine norm_ (a' := ?_) ?_ ?_; rotate_left
              ·
               show Act.put _ (some 38) _ = _; simp only [Act.put, q19s, q19z, q19n, i64_w, i32_w]; rfl
              refine last_ (i := 13) (N := some 39) q19M14 rfl rfl (one_of HT_.out (by kernel_rfl)) (by decide) (fun K hK => ?_); refine Kd.R_append_step (Kd.int .i64) (w0 := w) w.heap.size (by rfl) (.tmp 26) (.tmp 38) 22 3 (.int .i64 0) 8 rfl Tryz.underlying22 info3 rfl (by decide) (by omega) u4 x4_1 t239 [.int .i64 t239] (fun k_ => some k_ ≠ (.slice (some ad237) t211.length co12 : Value).ownBlock) (fun _ => False) rfl rfl ?aP (fun _ hk => hk.elim) ?aF ?aO ?aB ?aS ?aL ?_; (case aP => exact rfl); (case aB => exact (zA HB.out)); (case aF => exact (fun k_ hk => Kd.fresh' (Kd.R_lt (zF HO_3.out)) k_ hk)); (case aO => exact (zF HO_4.out)); (case aS => exact (below_size (zA HB.out))); (case aL => have := LMc54.out; omega); intro v241 w56 ho hb hg hat; rw [← Ny240.out] at ho; have n0_ := az (Kd.R_after (ok := (fun _ => True)) (zV HO_3.out) hg hat); have n1_ := az (hb); have n2_ := az (ho); clear HO_3; clear HB; clear HO_4; have HO_3 := n0_; have HB := n1_; have HO242 := n2_; clear n0_ n1_ n2_; clear ho hb hg hat; refine hK.out _ _ ?_; clear hK K; refine norm_ (a' := ?_) ?_ ?_; rotate_left
              ·
               show Act.put _ (some 39) _ = _; simp only [Act.put, q19s, q19z, q19n, i64_w, i32_w]; rfl
              refine pure_ (i := 14) (N := some 4) (v := ?_) (a' := ?_) q19M15 rfl rfl (any_of HT_.out (by kernel_rfl)) (fun _ _ _ => id) (Or.inl ⟨by rfl, ?_⟩) ?_ ?_; rotate_left; intro w'; go_simp; (with_reducible rfl); rotate_left; simp only [Act.put, q19s, q19z, q19n, i64_w, i32_w]; rfl; refine done_ (done_of HT_.out (by kernel_rfl)) ?_; (try go_wp2); go_roundg kj10
              case measure => have := HK1.out; have := HJ10.out; omega
              case rel => exact ⟨(y240), (ji50), (by first | rfl | (simp; done) | (simp only [← hji50] <;> (first | rfl | simp)) | (simp [*]; done)), H', ⟨zL HK1.out HJ10.out⟩, ⟨zQ HO_3.out⟩, ⟨zF HO242.out⟩, ⟨zA HB.out⟩⟩
             ·
              rw [if_neg c54] at H; exact absurd H (by simp)
            ·
             rw [if_neg c52] at H; exact absurd H (by simp)
           ·
            rw [if_neg c51] at H; exact absurd H (by simp)
          ·
           rw [if_neg c49] at H; exact absurd H (by simp)
         ·
          rw [if_neg c48] at H; exact absurd H (by simp)
   ·
    rw [if_neg c6] at H; have c6b0 : decide (x5_1 < (t211.length : Int)) = false := decide_eq_false c6; clear c6; obtain rfl := Option.some.inj H; obtain ⟨Ao57, co57, eo57⟩ := Kd.R_slice HO_3.out; subst eo57; go_wp2; go_ret; exact ⟨_, zG, by (with_reducible repeat (first | apply Kd.R_alloc | apply Kd.R_drewN | apply Kd.R_drew)); exact Kd.R_mono HO_4.out (fun _ hk => trivial), zA HB.out⟩
def spec_l1Has.l0 : Nat → List Int → Int → Int → Option (Bool)
 | 0, _, _, _ => none
 | k + 1, x0, x1, x5 => if x5 < (x0.length : Int) then (if 0 ≤ x5 then (if (rd x0 x5) = x1 then (some true) else (spec_l1Has.l0 k x0 x1 (wrap64 (x5 + 1)))) else (none)) else (some false)
def spec_l1Has.f (k : Nat) (l0 : List Int) (a1 : Int) : Option (Bool) := spec_l1Has.l0 k l0 a1 0
theorem spec_l1Has.mono_l : ∀ k, (∀ y0 y1 y2, LeO (spec_l1Has.l0 k y0 y1 y2) (spec_l1Has.l0 (k + 1) y0 y1 y2))
 | 0 => fun _ _ _ r h => by simp [spec_l1Has.l0] at h
 | k + 1 => by
  have ih0 := spec_l1Has.mono_l k
  ·
   intro y0 y1 y2; unfold spec_l1Has.l0
   repeat' first
   | (with_reducible exact ih0 _ _ _)
   | (with_reducible exact LeO.refl _)
   | (with_reducible exact LeO.none _)
   | (with_reducible refine LeO.ite ?_ ?_)
   | (with_reducible refine LeO.bind ?_ (fun _ => ?_))
   | exact ih0 _ _ _
   | exact LeO.none _
   | refine LeO.ite ?_ ?_
   | refine LeO.bind ?_ (fun _ => ?_)
theorem spec_l1Has.mono : ∀ a0 a1 k, LeO (spec_l1Has.f k a0 a1) (spec_l1Has.f (k + 1) a0 a1) := by
 intro a0 a1 k; have ih0 := spec_l1Has.mono_l k; unfold spec_l1Has.f
 repeat' first
   | (with_reducible exact ih0 _ _ _)
   | (with_reducible exact LeO.refl _)
   | (with_reducible exact LeO.none _)
   | (with_reducible refine LeO.ite ?_ ?_)
   | (with_reducible refine LeO.bind ?_ (fun _ => ?_))
   | exact ih0 _ _ _
   | exact LeO.none _
   | refine LeO.ite ?_ ?_
   | refine LeO.bind ?_ (fun _ => ?_)
theorem spec_l1Has.calls (k : Nat) (A0 : Option Addr) (c0 : Nat) (l0 : List Int) (a1 : Int) (r : Bool) (w : World) (hr0 : Kd.C (Kd.int .i64) w A0 l0.length l0) (hc0 : l0.length ≤ c0) (h : spec_l1Has.f k l0 a1 = some r) :
  Calls Tryz.prog 143 #[.slice A0 l0.length c0, .int .i64 a1] w fun e w' => e = .returned (.bool r) ∧ Drawn0 w w' := by
 have HR0 := az hr0; have HC0 := az hc0; clear hr0 hc0; have H : (spec_l1Has.l0 k l0 a1 0) = some r := h; clear h; have H' := az H; clear H; go_enter Tryz.func143, Tryz.ntmps143; go_wp2; go_loopg [5] k (fun kq v5 w' => ∃ (x5_1 : Int), v5 = .int .i64 x5_1 ∧ Aside0 (spec_l1Has.l0 kq l0 a1 x5_1 = some r) ∧ Aside0 (kq ≤ k) ∧ Drawn0 w w')
 case atStart => exact ⟨(0), zB, H', ⟨Nat.le_refl _⟩, zD⟩
 case round =>
  clear H'; (try clear c1); (try clear p2); obtain ⟨x5_1, rfl, HA, HK1, ⟨m1, rfl⟩⟩ := hrel
  cases gk with
  | zero => exact absurd HA.out (by simp [spec_l1Has.l0])
  | succ k1 =>
   have H := HA.out; clear HA; simp only [spec_l1Has.l0] at H; by_cases c3 : x5_1 < (l0.length : Int)
   ·
    rw [if_pos c3] at H; have c3b0 : decide (x5_1 < (l0.length : Int)) = true := decide_eq_true c3; clear c3; by_cases c4 : 0 ≤ x5_1
    ·
     rw [if_pos c4] at H; have c4b0 : decide (0 ≤ x5_1) = true := decide_eq_true c4; clear c4; by_cases c5 : (rd l0 x5_1) = a1
     ·
      rw [if_pos c5] at H; have c5b0 : ((rd l0 x5_1) == a1) = true := beq_iff_eq.mpr c5; have c5b1 : ((rd l0 x5_1) != a1) = false := bne_eq_false_iff_eq.mpr c5; clear c5; obtain rfl := Option.some.inj H; have p141 : 0 ≤ (x5_1 : Int) := of_decide_eq_true (by assumption); have q141 : x5_1 < (l0.length : Int) := of_decide_eq_true (by assumption); obtain ⟨ad141, e141, hx141_0⟩ := Kd.at_int HR0.out x5_1 p141 q141
      cases e141
      replace p141 := eq_true p141; replace q141 := eq_true q141; go_wp2; go_ret; exact ⟨zB, zD⟩
     ·
      rw [if_neg c5] at H; have c5b0 : ((rd l0 x5_1) == a1) = false := beq_eq_false_iff_ne.mpr c5; have c5b1 : ((rd l0 x5_1) != a1) = true := bne_iff_ne.mpr c5; have H' := az H; clear H; have p141 : 0 ≤ (x5_1 : Int) := of_decide_eq_true (by assumption); have q141 : x5_1 < (l0.length : Int) := of_decide_eq_true (by assumption); obtain ⟨ad141, e141, hx141_0⟩ := Kd.at_int HR0.out x5_1 p141 q141
      cases e141
      replace p141 := eq_true p141; replace q141 := eq_true q141; go_wp2; go_roundg k1
      case measure => have := HK1.out; omega
      case rel => exact ⟨(wrap64 (x5_1 + 1)), zB, H', ⟨zE HK1.out⟩, zD⟩
    ·
     rw [if_neg c4] at H; exact absurd H (by simp)
   ·
    rw [if_neg c3] at H; have c3b0 : decide (x5_1 < (l0.length : Int)) = false := decide_eq_false c3; clear c3; obtain rfl := Option.some.inj H; go_wp2; go_ret; exact ⟨zB, zD⟩
end Go.Proofs.YtmcdcogedcbndaaGreat.S
