/- Each letter that has a level is read together with others just once, with such of its level, in order; what has none never: of all drawn letters and levels, for every code. No condition beyond the statement's own. (text 2 of 5 of this claim: functions of the program and of the reference as plain Lean functions, what a call of each comes to, and what follows.) -/
import Derived.Test.YtojehfdioeglgaaZFnLevelRunsA0
set_option maxHeartbeats 16000000
set_option maxRecDepth 100000
namespace Go.Proofs.Ytojehfdioeglgaa.S
open Go.RowKit Go.Proofs.YtojehfdioeglgaaW.PrintWords Go.Proofs.YtojehfdioeglgaaW.PrintLast
set_option linter.unusedVariables false
set_option linter.unusedSimpArgs false
def spec_RuneBidi.j0 : Nat → Int → Bool → Option (Int)
 | 0, _, _ => none
 | k + 1, x0, x3 => if x3 = true then (some 1) else ((spec_l1In.f x0 1488 1514).bind fun t307 => (if t307 = true then (some 2) else ((spec_l1In.f x0 1569 1610).bind fun t308 => (if t308 = true then (some 3) else ((spec_l1In.f x0 48 57).bind fun t309 => (if t309 = true then (some 4) else ((spec_l1In.f x0 1632 1641).bind fun t310 => (if t310 = true then (some 7) else ((spec_l1Signs.f k x0).bind fun t311 => (some t311))))))))))
def spec_RuneBidi.f (k : Nat) (a0 : Int) : Option (Int) := (spec_l1In.f a0 97 122).bind fun t304 => (if t304 = true then (spec_RuneBidi.j0 k a0 true) else ((spec_l1In.f a0 65 90).bind fun t305 => (if t305 = true then (spec_RuneBidi.j0 k a0 true) else ((spec_l1In.f a0 19968 40959).bind fun t306 => (spec_RuneBidi.j0 k a0 t306)))))
theorem spec_RuneBidi.mono_l : ∀ k, (∀ y0 y1, LeO (spec_RuneBidi.j0 k y0 y1) (spec_RuneBidi.j0 (k + 1) y0 y1))
 | 0 => fun _ _ r h => by simp [spec_RuneBidi.j0] at h
 | k + 1 => by
  have ih0 := spec_RuneBidi.mono_l k
  ·
   intro y0 y1; unfold spec_RuneBidi.j0
   repeat' first
   | (with_reducible exact ih0 _ _)
   | (with_reducible exact spec_l1Signs.mono _ _)
   | (with_reducible exact LeO.refl _)
   | (with_reducible exact LeO.none _)
   | (with_reducible refine LeO.ite ?_ ?_)
   | (with_reducible refine LeO.bind ?_ (fun _ => ?_))
   | exact ih0 _ _
   | exact spec_l1Signs.mono _ _
   | exact LeO.none _
   | refine LeO.ite ?_ ?_
   | refine LeO.bind ?_ (fun _ => ?_)
theorem spec_RuneBidi.mono : ∀ a0 k, LeO (spec_RuneBidi.f k a0) (spec_RuneBidi.f (k + 1) a0) := by
 intro a0 k; have ih0 := spec_RuneBidi.mono_l k; unfold spec_RuneBidi.f
 repeat' first
   | (with_reducible exact ih0 _ _)
   | (with_reducible exact spec_l1Signs.mono _ _)
   | (with_reducible exact LeO.refl _)
   | (with_reducible exact LeO.none _)
   | (with_reducible refine LeO.ite ?_ ?_)
   | (with_reducible refine LeO.bind ?_ (fun _ => ?_))
   | exact ih0 _ _
   | exact spec_l1Signs.mono _ _
   | exact LeO.none _
   | refine LeO.ite ?_ ?_
   | refine LeO.bind ?_ (fun _ => ?_)
theorem spec_RuneBidi.calls (k : Nat) (a0 : Int) (r : Int) (w : World) (h : spec_RuneBidi.f k a0 = some r) :
  Calls Try.prog 20 #[.int .i64 a0] w fun e w' => e = .returned (.int .i64 r) ∧ Below w.heap.size w w' := by
 have HB := az (Below.refl w.heap.size w); have H : ((spec_l1In.f a0 97 122).bind fun t304 => (if t304 = true then (spec_RuneBidi.j0 k a0 true) else ((spec_l1In.f a0 65 90).bind fun t305 => (if t305 = true then (spec_RuneBidi.j0 k a0 true) else ((spec_l1In.f a0 19968 40959).bind fun t306 => (spec_RuneBidi.j0 k a0 t306)))))) = some r := h; clear h; have HC2 := az H; clear H; go_enter Try.func20, Try.ntmps20; go_upto_region 1 with (fail)
 go_cut [3] (fun v3 wc => ∃ (kq : Nat) (x3_1 : Bool), v3 = .bool x3_1 ∧ Aside0 (spec_RuneBidi.j0 kq a0 x3_1 = some r) ∧ Aside0 (kq ≤ k) ∧ Aside0 (Below w.heap.size w wc))
 case first =>
  have H := HC2.out; clear HC2; replace H := Option.bind_eq_some_iff.mp H; obtain ⟨t304, A30, H⟩ := H; replace H : (if t304 = true then (spec_RuneBidi.j0 k a0 true) else ((spec_l1In.f a0 65 90).bind fun t305 => (if t305 = true then (spec_RuneBidi.j0 k a0 true) else ((spec_l1In.f a0 19968 40959).bind fun t306 => (spec_RuneBidi.j0 k a0 t306))))) = some r := H; have A3 := az A30; clear A30; by_cases c4 : t304 = true
  ·
   subst c4; have H1 : (spec_RuneBidi.j0 k a0 true) = some r := by rw [if_pos rfl] at H; exact H
   clear H; have H := H1; clear H1; have H' := az H; clear H; go_wp2_with (first | ((with_reducible refine gate_callee (f := 53) rfl ?_); refine goesL_ (some 5) rfl rfl Try.func53 (by kernel_rfl) rfl #[.int .i64 a0, .int .i64 97, .int .i64 122] rfl (by (try simp only [List.map_toArray, List.map_cons, List.map_nil]); first | done | rfl) ?_; (with_reducible refine (spec_l1In.calls a0 97 122 true _ A3.out).mono ?_); rintro e w' ⟨rfl, ⟨nd, rfl⟩⟩; refine ⟨_, rfl, ?_⟩)); go_meet
   case rel => exact ⟨_, (true), (by first | rfl | (simp; done) | (simp [*]; done)), H', ⟨by first | omega | exact Nat.le_refl _⟩, ⟨by repeat (first | (with_reducible first | exact HB.out | apply below_alloc | apply pw_below_drewN | apply below_drew1) | exact HB.out)⟩⟩
  ·
   replace c4 := Bool.eq_false_iff.mpr c4; subst c4; have H1 : ((spec_l1In.f a0 65 90).bind fun t305 => (if t305 = true then (spec_RuneBidi.j0 k a0 true) else ((spec_l1In.f a0 19968 40959).bind fun t306 => (spec_RuneBidi.j0 k a0 t306)))) = some r := by rw [if_neg (show ¬ (false = true) by decide)] at H; exact H
   clear H; have H := H1; clear H1; replace H := Option.bind_eq_some_iff.mp H; obtain ⟨t305, A50, H⟩ := H; replace H : (if t305 = true then (spec_RuneBidi.j0 k a0 true) else ((spec_l1In.f a0 19968 40959).bind fun t306 => (spec_RuneBidi.j0 k a0 t306))) = some r := H; have A5 := az A50; clear A50; by_cases c6 : t305 = true
   ·
    subst c6; have H1 : (spec_RuneBidi.j0 k a0 true) = some r := by rw [if_pos rfl] at H; exact H
    clear H; have H := H1; clear H1; have H' := az H; clear H; go_wp2_with (first | ((with_reducible refine gate_callee (f := 53) rfl ?_); refine goesL_ (some 5) rfl rfl Try.func53 (by kernel_rfl) rfl #[.int .i64 a0, .int .i64 97, .int .i64 122] rfl (by (try simp only [List.map_toArray, List.map_cons, List.map_nil]); first | done | rfl) ?_; (with_reducible refine (spec_l1In.calls a0 97 122 false _ A3.out).mono ?_); rintro e w' ⟨rfl, ⟨nd, rfl⟩⟩; refine ⟨_, rfl, ?_⟩) | (go_at_call 53; (with_reducible refine (spec_l1In.calls a0 65 90 true _ A5.out).mono ?_); rintro e w' ⟨rfl, ⟨nd, rfl⟩⟩)); go_meet
    case rel => exact ⟨_, (true), (by first | rfl | (simp; done) | (simp [*]; done)), H', ⟨by first | omega | exact Nat.le_refl _⟩, ⟨by repeat (first | (with_reducible first | exact HB.out | apply below_alloc | apply pw_below_drewN | apply below_drew1) | exact HB.out)⟩⟩
   ·
    replace c6 := Bool.eq_false_iff.mpr c6; subst c6; have H1 : ((spec_l1In.f a0 19968 40959).bind fun t306 => (spec_RuneBidi.j0 k a0 t306)) = some r := by rw [if_neg (show ¬ (false = true) by decide)] at H; exact H
    clear H; have H := H1; clear H1; replace H := Option.bind_eq_some_iff.mp H; obtain ⟨t306, A70, H⟩ := H; replace H : (spec_RuneBidi.j0 k a0 t306) = some r := H; have A7 := az A70; clear A70; have H' := az H; clear H; go_wp2_with (first | ((with_reducible refine gate_callee (f := 53) rfl ?_); refine goesL_ (some 5) rfl rfl Try.func53 (by kernel_rfl) rfl #[.int .i64 a0, .int .i64 97, .int .i64 122] rfl (by (try simp only [List.map_toArray, List.map_cons, List.map_nil]); first | done | rfl) ?_; (with_reducible refine (spec_l1In.calls a0 97 122 false _ A3.out).mono ?_); rintro e w' ⟨rfl, ⟨nd, rfl⟩⟩; refine ⟨_, rfl, ?_⟩) | (go_at_call 53; (with_reducible refine (spec_l1In.calls a0 65 90 false _ A5.out).mono ?_); rintro e w' ⟨rfl, ⟨nd, rfl⟩⟩) | (go_at_call 53; (with_reducible refine (spec_l1In.calls a0 19968 40959 t306 _ A7.out).mono ?_); rintro e w' ⟨rfl, ⟨nd, rfl⟩⟩)); go_meet
    case rel => exact ⟨_, (t306), (by first | rfl | (simp; done) | (simp [*]; done)), H', ⟨by first | omega | exact Nat.le_refl _⟩, ⟨by repeat (first | (with_reducible first | exact HB.out | apply below_alloc | apply pw_below_drewN | apply below_drew1) | exact HB.out)⟩⟩
 case rest =>
  clear HC2; (try clear c2); (try clear p2); (try clear c4); (try clear c5); (try clear c6); obtain ⟨kq, x3_1, rfl, HA, HJ1, HB⟩ := hcut
  cases kq with
  | zero => exact absurd HA.out (by simp [spec_RuneBidi.j0])
  | succ kj1 =>
   have H := HA.out; clear HA; simp only [spec_RuneBidi.j0] at H; by_cases c8 : x3_1 = true
   ·
    subst c8; have H1 : (some 1) = some r := by rw [if_pos rfl] at H; exact H
    clear H; have H := H1; clear H1; obtain rfl := Option.some.inj H; go_wp2; go_ret; exact ⟨by first | rfl | (simp [errW_none, errW_some] <;> rfl) | (simp [*, errW_none, errW_some] <;> rfl), by repeat (first | (with_reducible first | exact HB.out | apply below_alloc | apply pw_below_drewN | apply below_drew1) | exact HB.out)⟩
   ·
    replace c8 := Bool.eq_false_iff.mpr c8; subst c8; have H1 : ((spec_l1In.f a0 1488 1514).bind fun t307 => (if t307 = true then (some 2) else ((spec_l1In.f a0 1569 1610).bind fun t308 => (if t308 = true then (some 3) else ((spec_l1In.f a0 48 57).bind fun t309 => (if t309 = true then (some 4) else ((spec_l1In.f a0 1632 1641).bind fun t310 => (if t310 = true then (some 7) else ((spec_l1Signs.f kj1 a0).bind fun t311 => (some t311)))))))))) = some r := by rw [if_neg (show ¬ (false = true) by decide)] at H; exact H
    clear H; have H := H1; clear H1; replace H := Option.bind_eq_some_iff.mp H; obtain ⟨t307, A90, H⟩ := H; replace H : (if t307 = true then (some 2) else ((spec_l1In.f a0 1569 1610).bind fun t308 => (if t308 = true then (some 3) else ((spec_l1In.f a0 48 57).bind fun t309 => (if t309 = true then (some 4) else ((spec_l1In.f a0 1632 1641).bind fun t310 => (if t310 = true then (some 7) else ((spec_l1Signs.f kj1 a0).bind fun t311 => (some t311))))))))) = some r := H; have A9 := az A90; clear A90; by_cases c10 : t307 = true
    ·
     subst c10; have H1 : (some 2) = some r := by rw [if_pos rfl] at H; exact H
     clear H; have H := H1; clear H1; obtain rfl := Option.some.inj H; go_wp2_with (first | ((with_reducible refine gate_callee (f := 53) rfl ?_); refine goesL_ (some 16) rfl rfl Try.func53 (by kernel_rfl) rfl #[.int .i64 a0, .int .i64 1488, .int .i64 1514] rfl (by (try simp only [List.map_toArray, List.map_cons, List.map_nil]); first | done | rfl) ?_; (with_reducible refine (spec_l1In.calls a0 1488 1514 true _ A9.out).mono ?_); rintro e w' ⟨rfl, ⟨nd, rfl⟩⟩; refine ⟨_, rfl, ?_⟩)); go_ret; exact ⟨by first | rfl | (simp [errW_none, errW_some] <;> rfl) | (simp [*, errW_none, errW_some] <;> rfl), by repeat (first | (with_reducible first | exact HB.out | apply below_alloc | apply pw_below_drewN | apply below_drew1) | exact HB.out)⟩
    ·
     replace c10 := Bool.eq_false_iff.mpr c10; subst c10; have H1 : ((spec_l1In.f a0 1569 1610).bind fun t308 => (if t308 = true then (some 3) else ((spec_l1In.f a0 48 57).bind fun t309 => (if t309 = true then (some 4) else ((spec_l1In.f a0 1632 1641).bind fun t310 => (if t310 = true then (some 7) else ((spec_l1Signs.f kj1 a0).bind fun t311 => (some t311)))))))) = some r := by rw [if_neg (show ¬ (false = true) by decide)] at H; exact H
     clear H; have H := H1; clear H1; replace H := Option.bind_eq_some_iff.mp H; obtain ⟨t308, A110, H⟩ := H; replace H : (if t308 = true then (some 3) else ((spec_l1In.f a0 48 57).bind fun t309 => (if t309 = true then (some 4) else ((spec_l1In.f a0 1632 1641).bind fun t310 => (if t310 = true then (some 7) else ((spec_l1Signs.f kj1 a0).bind fun t311 => (some t311))))))) = some r := H; have A11 := az A110; clear A110; by_cases c12 : t308 = true
     ·
      subst c12; have H1 : (some 3) = some r := by rw [if_pos rfl] at H; exact H
      clear H; have H := H1; clear H1; obtain rfl := Option.some.inj H; go_wp2_with (first | ((with_reducible refine gate_callee (f := 53) rfl ?_); refine goesL_ (some 16) rfl rfl Try.func53 (by kernel_rfl) rfl #[.int .i64 a0, .int .i64 1488, .int .i64 1514] rfl (by (try simp only [List.map_toArray, List.map_cons, List.map_nil]); first | done | rfl) ?_; (with_reducible refine (spec_l1In.calls a0 1488 1514 false _ A9.out).mono ?_); rintro e w' ⟨rfl, ⟨nd, rfl⟩⟩; refine ⟨_, rfl, ?_⟩) | ((with_reducible refine gate_callee (f := 53) rfl ?_); refine goesL_ (some 19) rfl rfl Try.func53 (by kernel_rfl) rfl #[.int .i64 a0, .int .i64 1569, .int .i64 1610] rfl (by (try simp only [List.map_toArray, List.map_cons, List.map_nil]); first | done | rfl) ?_; (with_reducible refine (spec_l1In.calls a0 1569 1610 true _ A11.out).mono ?_); rintro e w' ⟨rfl, ⟨nd, rfl⟩⟩; refine ⟨_, rfl, ?_⟩)); go_ret; exact ⟨by first | rfl | (simp [errW_none, errW_some] <;> rfl) | (simp [*, errW_none, errW_some] <;> rfl), by repeat (first | (with_reducible first | exact HB.out | apply below_alloc | apply pw_below_drewN | apply below_drew1) | exact HB.out)⟩
     ·
      replace c12 := Bool.eq_false_iff.mpr c12; subst c12; have H1 : ((spec_l1In.f a0 48 57).bind fun t309 => (if t309 = true then (some 4) else ((spec_l1In.f a0 1632 1641).bind fun t310 => (if t310 = true then (some 7) else ((spec_l1Signs.f kj1 a0).bind fun t311 => (some t311)))))) = some r := by rw [if_neg (show ¬ (false = true) by decide)] at H; exact H
      clear H; have H := H1; clear H1; replace H := Option.bind_eq_some_iff.mp H; obtain ⟨t309, A130, H⟩ := H; replace H : (if t309 = true then (some 4) else ((spec_l1In.f a0 1632 1641).bind fun t310 => (if t310 = true then (some 7) else ((spec_l1Signs.f kj1 a0).bind fun t311 => (some t311))))) = some r := H; have A13 := az A130; clear A130; by_cases c14 : t309 = true
      ·
       subst c14; have H1 : (some 4) = some r := by rw [if_pos rfl] at H; exact H
       clear H; have H := H1; clear H1; obtain rfl := Option.some.inj H; go_wp2_with (first | ((with_reducible refine gate_callee (f := 53) rfl ?_); refine goesL_ (some 16) rfl rfl Try.func53 (by kernel_rfl) rfl #[.int .i64 a0, .int .i64 1488, .int .i64 1514] rfl (by (try simp only [List.map_toArray, List.map_cons, List.map_nil]); first | done | rfl) ?_; (with_reducible refine (spec_l1In.calls a0 1488 1514 false _ A9.out).mono ?_); rintro e w' ⟨rfl, ⟨nd, rfl⟩⟩; refine ⟨_, rfl, ?_⟩) | ((with_reducible refine gate_callee (f := 53) rfl ?_); refine goesL_ (some 19) rfl rfl Try.func53 (by kernel_rfl) rfl #[.int .i64 a0, .int .i64 1569, .int .i64 1610] rfl (by (try simp only [List.map_toArray, List.map_cons, List.map_nil]); first | done | rfl) ?_; (with_reducible refine (spec_l1In.calls a0 1569 1610 false _ A11.out).mono ?_); rintro e w' ⟨rfl, ⟨nd, rfl⟩⟩; refine ⟨_, rfl, ?_⟩) | ((with_reducible refine gate_callee (f := 53) rfl ?_); refine goesL_ (some 22) rfl rfl Try.func53 (by kernel_rfl) rfl #[.int .i64 a0, .int .i64 48, .int .i64 57] rfl (by (try simp only [List.map_toArray, List.map_cons, List.map_nil]); first | done | rfl) ?_; (with_reducible refine (spec_l1In.calls a0 48 57 true _ A13.out).mono ?_); rintro e w' ⟨rfl, ⟨nd, rfl⟩⟩; refine ⟨_, rfl, ?_⟩)); go_ret; exact ⟨by first | rfl | (simp [errW_none, errW_some] <;> rfl) | (simp [*, errW_none, errW_some] <;> rfl), by repeat (first | (with_reducible first | exact HB.out | apply below_alloc | apply pw_below_drewN | apply below_drew1) | exact HB.out)⟩
      ·
       replace c14 := Bool.eq_false_iff.mpr c14; subst c14; have H1 : ((spec_l1In.f a0 1632 1641).bind fun t310 => (if t310 = true then (some 7) else ((spec_l1Signs.f kj1 a0).bind fun t311 => (some t311)))) = some r := by rw [if_neg (show ¬ (false = true) by decide)] at H; exact H
       clear H; have H := H1; clear H1; replace H := Option.bind_eq_some_iff.mp H; obtain ⟨t310, A150, H⟩ := H; replace H : (if t310 = true then (some 7) else ((spec_l1Signs.f kj1 a0).bind fun t311 => (some t311))) = some r := H; have A15 := az A150; clear A150; by_cases c16 : t310 = true
       ·
        subst c16; have H1 : (some 7) = some r := by rw [if_pos rfl] at H; exact H
        clear H; have H := H1; clear H1; obtain rfl := Option.some.inj H; go_wp2_with (first | ((with_reducible refine gate_callee (f := 53) rfl ?_); refine goesL_ (some 16) rfl rfl Try.func53 (by kernel_rfl) rfl #[.int .i64 a0, .int .i64 1488, .int .i64 1514] rfl (by (try simp only [List.map_toArray, List.map_cons, List.map_nil]); first | done | rfl) ?_; (with_reducible refine (spec_l1In.calls a0 1488 1514 false _ A9.out).mono ?_); rintro e w' ⟨rfl, ⟨nd, rfl⟩⟩; refine ⟨_, rfl, ?_⟩) | ((with_reducible refine gate_callee (f := 53) rfl ?_); refine goesL_ (some 19) rfl rfl Try.func53 (by kernel_rfl) rfl #[.int .i64 a0, .int .i64 1569, .int .i64 1610] rfl (by (try simp only [List.map_toArray, List.map_cons, List.map_nil]); first | done | rfl) ?_; (with_reducible refine (spec_l1In.calls a0 1569 1610 false _ A11.out).mono ?_); rintro e w' ⟨rfl, ⟨nd, rfl⟩⟩; refine ⟨_, rfl, ?_⟩) | ((with_reducible refine gate_callee (f := 53) rfl ?_); refine goesL_ (some 22) rfl rfl Try.func53 (by kernel_rfl) rfl #[.int .i64 a0, .int .i64 48, .int .i64 57] rfl (by (try simp only [List.map_toArray, List.map_cons, List.map_nil]); first | done | rfl) ?_; (with_reducible refine (spec_l1In.calls a0 48 57 false _ A13.out).mono ?_); rintro e w' ⟨rfl, ⟨nd, rfl⟩⟩; refine ⟨_, rfl, ?_⟩) | ((with_reducible refine gate_callee (f := 53) rfl ?_); refine goesL_ (some 25) rfl rfl Try.func53 (by kernel_rfl) rfl #[.int .i64 a0, .int .i64 1632, .int .i64 1641] rfl (by (try simp only [List.map_toArray, List.map_cons, List.map_nil]); first | done | rfl) ?_; (with_reducible refine (spec_l1In.calls a0 1632 1641 true _ A15.out).mono ?_); rintro e w' ⟨rfl, ⟨nd, rfl⟩⟩; refine ⟨_, rfl, ?_⟩)); go_ret; exact ⟨by first | rfl | (simp [errW_none, errW_some] <;> rfl) | (simp [*, errW_none, errW_some] <;> rfl), by repeat (first | (with_reducible first | exact HB.out | apply below_alloc | apply pw_below_drewN | apply below_drew1) | exact HB.out)⟩
       ·
        replace c16 := Bool.eq_false_iff.mpr c16; subst c16; have H1 : ((spec_l1Signs.f kj1 a0).bind fun t311 => (some t311)) = some r := by rw [if_neg (show ¬ (false = true) by decide)] at H; exact H
        clear H; have H := H1; clear H1; replace H := Option.bind_eq_some_iff.mp H; obtain ⟨t311, A170, H⟩ := H; replace H : (some t311) = some r := H; have A17 := az A170; clear A170; obtain rfl := Option.some.inj H; go_wp2_with (first | ((with_reducible refine gate_callee (f := 53) rfl ?_); refine goesL_ (some 16) rfl rfl Try.func53 (by kernel_rfl) rfl #[.int .i64 a0, .int .i64 1488, .int .i64 1514] rfl (by (try simp only [List.map_toArray, List.map_cons, List.map_nil]); first | done | rfl) ?_; (with_reducible refine (spec_l1In.calls a0 1488 1514 false _ A9.out).mono ?_); rintro e w' ⟨rfl, ⟨nd, rfl⟩⟩; refine ⟨_, rfl, ?_⟩) | ((with_reducible refine gate_callee (f := 53) rfl ?_); refine goesL_ (some 19) rfl rfl Try.func53 (by kernel_rfl) rfl #[.int .i64 a0, .int .i64 1569, .int .i64 1610] rfl (by (try simp only [List.map_toArray, List.map_cons, List.map_nil]); first | done | rfl) ?_; (with_reducible refine (spec_l1In.calls a0 1569 1610 false _ A11.out).mono ?_); rintro e w' ⟨rfl, ⟨nd, rfl⟩⟩; refine ⟨_, rfl, ?_⟩) | ((with_reducible refine gate_callee (f := 53) rfl ?_); refine goesL_ (some 22) rfl rfl Try.func53 (by kernel_rfl) rfl #[.int .i64 a0, .int .i64 48, .int .i64 57] rfl (by (try simp only [List.map_toArray, List.map_cons, List.map_nil]); first | done | rfl) ?_; (with_reducible refine (spec_l1In.calls a0 48 57 false _ A13.out).mono ?_); rintro e w' ⟨rfl, ⟨nd, rfl⟩⟩; refine ⟨_, rfl, ?_⟩) | ((with_reducible refine gate_callee (f := 53) rfl ?_); refine goesL_ (some 25) rfl rfl Try.func53 (by kernel_rfl) rfl #[.int .i64 a0, .int .i64 1632, .int .i64 1641] rfl (by (try simp only [List.map_toArray, List.map_cons, List.map_nil]); first | done | rfl) ?_; (with_reducible refine (spec_l1In.calls a0 1632 1641 false _ A15.out).mono ?_); rintro e w' ⟨rfl, ⟨nd, rfl⟩⟩; refine ⟨_, rfl, ?_⟩) | ((with_reducible refine gate_callee (f := 54) rfl ?_); refine goesL_ (some 27) rfl rfl Try.func54 (by kernel_rfl) rfl #[.int .i64 a0] rfl (by (try simp only [List.map_toArray, List.map_cons, List.map_nil]); first | done | rfl) ?_; (with_reducible refine (spec_l1Signs.calls kj1 a0 t311 _ A17.out).mono ?_); rintro e w18 ⟨rfl, hb⟩; refine ⟨_, rfl, ?_⟩; have n0_ := az (below_step (by repeat (first | (with_reducible first | exact HB.out | apply below_alloc | apply pw_below_drewN | apply below_drew1) | exact HB.out)) hb); clear HB; have HB := n0_; clear n0_; (try clear hb); (try clear hb2); (try clear hk); (try clear hi))); go_ret; exact ⟨by first | rfl | (simp [errW_none, errW_some] <;> rfl) | (simp [*, errW_none, errW_some] <;> rfl), by repeat (first | (with_reducible first | exact HB.out | apply below_alloc | apply pw_below_drewN | apply below_drew1) | exact HB.out)⟩
def spec_l1Size.f (a0 : Int) : Option (Int) := (spec_l1In.f a0 0 127).bind fun t288 => (if t288 = true then (some 1) else ((spec_l1In.f a0 128 2047).bind fun t289 => (if t289 = true then (some 2) else ((spec_l1In.f a0 55296 57343).bind fun t290 => (if t290 = true then (some 0) else ((spec_l1In.f a0 2048 65535).bind fun t291 => (if t291 = true then (some 3) else ((spec_l1In.f a0 65536 1114111).bind fun t292 => (if t292 = true then (some 4) else (some 0))))))))))
theorem spec_l1Size.calls (a0 : Int) (r : Int) (w : World) (h : spec_l1Size.f a0 = some r) :
  Calls Try.prog 88 #[.int .i64 a0] w fun e w' => e = .returned (.int .i64 r) ∧ Drawn0 w w' := by
 have H : ((spec_l1In.f a0 0 127).bind fun t288 => (if t288 = true then (some 1) else ((spec_l1In.f a0 128 2047).bind fun t289 => (if t289 = true then (some 2) else ((spec_l1In.f a0 55296 57343).bind fun t290 => (if t290 = true then (some 0) else ((spec_l1In.f a0 2048 65535).bind fun t291 => (if t291 = true then (some 3) else ((spec_l1In.f a0 65536 1114111).bind fun t292 => (if t292 = true then (some 4) else (some 0))))))))))) = some r := h; clear h; replace H := Option.bind_eq_some_iff.mp H; obtain ⟨t288, A20, H⟩ := H; replace H : (if t288 = true then (some 1) else ((spec_l1In.f a0 128 2047).bind fun t289 => (if t289 = true then (some 2) else ((spec_l1In.f a0 55296 57343).bind fun t290 => (if t290 = true then (some 0) else ((spec_l1In.f a0 2048 65535).bind fun t291 => (if t291 = true then (some 3) else ((spec_l1In.f a0 65536 1114111).bind fun t292 => (if t292 = true then (some 4) else (some 0)))))))))) = some r := H; have A2 := az A20; clear A20; by_cases c3 : t288 = true
 ·
  subst c3; have H1 : (some 1) = some r := by rw [if_pos rfl] at H; exact H
  clear H; have H := H1; clear H1; obtain rfl := Option.some.inj H; go_enter Try.func88, Try.ntmps88; go_wp2_with (first | ((with_reducible refine gate_callee (f := 53) rfl ?_); refine goesL_ (some 5) rfl rfl Try.func53 (by kernel_rfl) rfl #[.int .i64 a0, .int .i64 0, .int .i64 127] rfl (by (try simp only [List.map_toArray, List.map_cons, List.map_nil]); first | done | rfl) ?_; (with_reducible refine (spec_l1In.calls a0 0 127 true _ A2.out).mono ?_); rintro e w' ⟨rfl, ⟨nd, rfl⟩⟩; refine ⟨_, rfl, ?_⟩)); go_ret; exact ⟨by first | rfl | (simp; done) | (simp [*]; done), by repeat (first | exact Drawn0.refl _ | apply Drawn0.step)⟩
 ·
  replace c3 := Bool.eq_false_iff.mpr c3; subst c3; have H1 : ((spec_l1In.f a0 128 2047).bind fun t289 => (if t289 = true then (some 2) else ((spec_l1In.f a0 55296 57343).bind fun t290 => (if t290 = true then (some 0) else ((spec_l1In.f a0 2048 65535).bind fun t291 => (if t291 = true then (some 3) else ((spec_l1In.f a0 65536 1114111).bind fun t292 => (if t292 = true then (some 4) else (some 0))))))))) = some r := by rw [if_neg (show ¬ (false = true) by decide)] at H; exact H
  clear H; have H := H1; clear H1; replace H := Option.bind_eq_some_iff.mp H; obtain ⟨t289, A40, H⟩ := H; replace H : (if t289 = true then (some 2) else ((spec_l1In.f a0 55296 57343).bind fun t290 => (if t290 = true then (some 0) else ((spec_l1In.f a0 2048 65535).bind fun t291 => (if t291 = true then (some 3) else ((spec_l1In.f a0 65536 1114111).bind fun t292 => (if t292 = true then (some 4) else (some 0)))))))) = some r := H; have A4 := az A40; clear A40; by_cases c5 : t289 = true
  ·
   subst c5; have H1 : (some 2) = some r := by rw [if_pos rfl] at H; exact H
   clear H; have H := H1; clear H1; obtain rfl := Option.some.inj H; go_enter Try.func88, Try.ntmps88; go_wp2_with (first | ((with_reducible refine gate_callee (f := 53) rfl ?_); refine goesL_ (some 5) rfl rfl Try.func53 (by kernel_rfl) rfl #[.int .i64 a0, .int .i64 0, .int .i64 127] rfl (by (try simp only [List.map_toArray, List.map_cons, List.map_nil]); first | done | rfl) ?_; (with_reducible refine (spec_l1In.calls a0 0 127 false _ A2.out).mono ?_); rintro e w' ⟨rfl, ⟨nd, rfl⟩⟩; refine ⟨_, rfl, ?_⟩) | ((with_reducible refine gate_callee (f := 53) rfl ?_); refine goesL_ (some 8) rfl rfl Try.func53 (by kernel_rfl) rfl #[.int .i64 a0, .int .i64 128, .int .i64 2047] rfl (by (try simp only [List.map_toArray, List.map_cons, List.map_nil]); first | done | rfl) ?_; (with_reducible refine (spec_l1In.calls a0 128 2047 true _ A4.out).mono ?_); rintro e w' ⟨rfl, ⟨nd, rfl⟩⟩; refine ⟨_, rfl, ?_⟩)); go_ret; exact ⟨by first | rfl | (simp; done) | (simp [*]; done), by repeat (first | exact Drawn0.refl _ | apply Drawn0.step)⟩
  ·
   replace c5 := Bool.eq_false_iff.mpr c5; subst c5; have H1 : ((spec_l1In.f a0 55296 57343).bind fun t290 => (if t290 = true then (some 0) else ((spec_l1In.f a0 2048 65535).bind fun t291 => (if t291 = true then (some 3) else ((spec_l1In.f a0 65536 1114111).bind fun t292 => (if t292 = true then (some 4) else (some 0))))))) = some r := by rw [if_neg (show ¬ (false = true) by decide)] at H; exact H
   clear H; have H := H1; clear H1; replace H := Option.bind_eq_some_iff.mp H; obtain ⟨t290, A60, H⟩ := H; replace H : (if t290 = true then (some 0) else ((spec_l1In.f a0 2048 65535).bind fun t291 => (if t291 = true then (some 3) else ((spec_l1In.f a0 65536 1114111).bind fun t292 => (if t292 = true then (some 4) else (some 0)))))) = some r := H; have A6 := az A60; clear A60; by_cases c7 : t290 = true
   ·
    subst c7; have H1 : (some 0) = some r := by rw [if_pos rfl] at H; exact H
    clear H; have H := H1; clear H1; obtain rfl := Option.some.inj H; go_enter Try.func88, Try.ntmps88; go_wp2_with (first | ((with_reducible refine gate_callee (f := 53) rfl ?_); refine goesL_ (some 5) rfl rfl Try.func53 (by kernel_rfl) rfl #[.int .i64 a0, .int .i64 0, .int .i64 127] rfl (by (try simp only [List.map_toArray, List.map_cons, List.map_nil]); first | done | rfl) ?_; (with_reducible refine (spec_l1In.calls a0 0 127 false _ A2.out).mono ?_); rintro e w' ⟨rfl, ⟨nd, rfl⟩⟩; refine ⟨_, rfl, ?_⟩) | ((with_reducible refine gate_callee (f := 53) rfl ?_); refine goesL_ (some 8) rfl rfl Try.func53 (by kernel_rfl) rfl #[.int .i64 a0, .int .i64 128, .int .i64 2047] rfl (by (try simp only [List.map_toArray, List.map_cons, List.map_nil]); first | done | rfl) ?_; (with_reducible refine (spec_l1In.calls a0 128 2047 false _ A4.out).mono ?_); rintro e w' ⟨rfl, ⟨nd, rfl⟩⟩; refine ⟨_, rfl, ?_⟩) | ((with_reducible refine gate_callee (f := 53) rfl ?_); refine goesL_ (some 11) rfl rfl Try.func53 (by kernel_rfl) rfl #[.int .i64 a0, .int .i64 55296, .int .i64 57343] rfl (by (try simp only [List.map_toArray, List.map_cons, List.map_nil]); first | done | rfl) ?_; (with_reducible refine (spec_l1In.calls a0 55296 57343 true _ A6.out).mono ?_); rintro e w' ⟨rfl, ⟨nd, rfl⟩⟩; refine ⟨_, rfl, ?_⟩)); go_ret; exact ⟨by first | rfl | (simp; done) | (simp [*]; done), by repeat (first | exact Drawn0.refl _ | apply Drawn0.step)⟩
   ·
    replace c7 := Bool.eq_false_iff.mpr c7; subst c7; have H1 : ((spec_l1In.f a0 2048 65535).bind fun t291 => (if t291 = true then (some 3) else ((spec_l1In.f a0 65536 1114111).bind fun t292 => (if t292 = true then (some 4) else (some 0))))) = some r := by rw [if_neg (show ¬ (false = true) by decide)] at H; exact H
    clear H; have H := H1; clear H1; replace H := Option.bind_eq_some_iff.mp H; obtain ⟨t291, A80, H⟩ := H; replace H : (if t291 = true then (some 3) else ((spec_l1In.f a0 65536 1114111).bind fun t292 => (if t292 = true then (some 4) else (some 0)))) = some r := H; have A8 := az A80; clear A80; by_cases c9 : t291 = true
    ·
     subst c9; have H1 : (some 3) = some r := by rw [if_pos rfl] at H; exact H
     clear H; have H := H1; clear H1; obtain rfl := Option.some.inj H; go_enter Try.func88, Try.ntmps88; go_wp2_with (first | ((with_reducible refine gate_callee (f := 53) rfl ?_); refine goesL_ (some 5) rfl rfl Try.func53 (by kernel_rfl) rfl #[.int .i64 a0, .int .i64 0, .int .i64 127] rfl (by (try simp only [List.map_toArray, List.map_cons, List.map_nil]); first | done | rfl) ?_; (with_reducible refine (spec_l1In.calls a0 0 127 false _ A2.out).mono ?_); rintro e w' ⟨rfl, ⟨nd, rfl⟩⟩; refine ⟨_, rfl, ?_⟩) | ((with_reducible refine gate_callee (f := 53) rfl ?_); refine goesL_ (some 8) rfl rfl Try.func53 (by kernel_rfl) rfl #[.int .i64 a0, .int .i64 128, .int .i64 2047] rfl (by (try simp only [List.map_toArray, List.map_cons, List.map_nil]); first | done | rfl) ?_; (with_reducible refine (spec_l1In.calls a0 128 2047 false _ A4.out).mono ?_); rintro e w' ⟨rfl, ⟨nd, rfl⟩⟩; refine ⟨_, rfl, ?_⟩) | ((with_reducible refine gate_callee (f := 53) rfl ?_); refine goesL_ (some 11) rfl rfl Try.func53 (by kernel_rfl) rfl #[.int .i64 a0, .int .i64 55296, .int .i64 57343] rfl (by (try simp only [List.map_toArray, List.map_cons, List.map_nil]); first | done | rfl) ?_; (with_reducible refine (spec_l1In.calls a0 55296 57343 false _ A6.out).mono ?_); rintro e w' ⟨rfl, ⟨nd, rfl⟩⟩; refine ⟨_, rfl, ?_⟩) | ((with_reducible refine gate_callee (f := 53) rfl ?_); refine goesL_ (some 14) rfl rfl Try.func53 (by kernel_rfl) rfl #[.int .i64 a0, .int .i64 2048, .int .i64 65535] rfl (by (try simp only [List.map_toArray, List.map_cons, List.map_nil]); first | done | rfl) ?_; (with_reducible refine (spec_l1In.calls a0 2048 65535 true _ A8.out).mono ?_); rintro e w' ⟨rfl, ⟨nd, rfl⟩⟩; refine ⟨_, rfl, ?_⟩)); go_ret; exact ⟨by first | rfl | (simp; done) | (simp [*]; done), by repeat (first | exact Drawn0.refl _ | apply Drawn0.step)⟩
    ·
     replace c9 := Bool.eq_false_iff.mpr c9; subst c9; have H1 : ((spec_l1In.f a0 65536 1114111).bind fun t292 => (if t292 = true then (some 4) else (some 0))) = some r := by rw [if_neg (show ¬ (false = true) by decide)] at H; exact H
     clear H; have H := H1; clear H1; replace H := Option.bind_eq_some_iff.mp H; obtain ⟨t292, A100, H⟩ := H; replace H : (if t292 = true then (some 4) else (some 0)) = some r := H; have A10 := az A100; clear A100; by_cases c11 : t292 = true
     ·
      subst c11; have H1 : (some 4) = some r := by rw [if_pos rfl] at H; exact H
      clear H; have H := H1; clear H1; obtain rfl := Option.some.inj H; go_enter Try.func88, Try.ntmps88; go_wp2_with (first | ((with_reducible refine gate_callee (f := 53) rfl ?_); refine goesL_ (some 5) rfl rfl Try.func53 (by kernel_rfl) rfl #[.int .i64 a0, .int .i64 0, .int .i64 127] rfl (by (try simp only [List.map_toArray, List.map_cons, List.map_nil]); first | done | rfl) ?_; (with_reducible refine (spec_l1In.calls a0 0 127 false _ A2.out).mono ?_); rintro e w' ⟨rfl, ⟨nd, rfl⟩⟩; refine ⟨_, rfl, ?_⟩) | ((with_reducible refine gate_callee (f := 53) rfl ?_); refine goesL_ (some 8) rfl rfl Try.func53 (by kernel_rfl) rfl #[.int .i64 a0, .int .i64 128, .int .i64 2047] rfl (by (try simp only [List.map_toArray, List.map_cons, List.map_nil]); first | done | rfl) ?_; (with_reducible refine (spec_l1In.calls a0 128 2047 false _ A4.out).mono ?_); rintro e w' ⟨rfl, ⟨nd, rfl⟩⟩; refine ⟨_, rfl, ?_⟩) | ((with_reducible refine gate_callee (f := 53) rfl ?_); refine goesL_ (some 11) rfl rfl Try.func53 (by kernel_rfl) rfl #[.int .i64 a0, .int .i64 55296, .int .i64 57343] rfl (by (try simp only [List.map_toArray, List.map_cons, List.map_nil]); first | done | rfl) ?_; (with_reducible refine (spec_l1In.calls a0 55296 57343 false _ A6.out).mono ?_); rintro e w' ⟨rfl, ⟨nd, rfl⟩⟩; refine ⟨_, rfl, ?_⟩) | ((with_reducible refine gate_callee (f := 53) rfl ?_); refine goesL_ (some 14) rfl rfl Try.func53 (by kernel_rfl) rfl #[.int .i64 a0, .int .i64 2048, .int .i64 65535] rfl (by (try simp only [List.map_toArray, List.map_cons, List.map_nil]); first | done | rfl) ?_; (with_reducible refine (spec_l1In.calls a0 2048 65535 false _ A8.out).mono ?_); rintro e w' ⟨rfl, ⟨nd, rfl⟩⟩; refine ⟨_, rfl, ?_⟩) | ((with_reducible refine gate_callee (f := 53) rfl ?_); refine goesL_ (some 17) rfl rfl Try.func53 (by kernel_rfl) rfl #[.int .i64 a0, .int .i64 65536, .int .i64 1114111] rfl (by (try simp only [List.map_toArray, List.map_cons, List.map_nil]); first | done | rfl) ?_; (with_reducible refine (spec_l1In.calls a0 65536 1114111 true _ A10.out).mono ?_); rintro e w' ⟨rfl, ⟨nd, rfl⟩⟩; refine ⟨_, rfl, ?_⟩)); go_ret; exact ⟨by first | rfl | (simp; done) | (simp [*]; done), by repeat (first | exact Drawn0.refl _ | apply Drawn0.step)⟩
     ·
      replace c11 := Bool.eq_false_iff.mpr c11; subst c11; have H1 : (some 0) = some r := by rw [if_neg (show ¬ (false = true) by decide)] at H; exact H
      clear H; have H := H1; clear H1; obtain rfl := Option.some.inj H; go_enter Try.func88, Try.ntmps88; go_wp2_with (first | ((with_reducible refine gate_callee (f := 53) rfl ?_); refine goesL_ (some 5) rfl rfl Try.func53 (by kernel_rfl) rfl #[.int .i64 a0, .int .i64 0, .int .i64 127] rfl (by (try simp only [List.map_toArray, List.map_cons, List.map_nil]); first | done | rfl) ?_; (with_reducible refine (spec_l1In.calls a0 0 127 false _ A2.out).mono ?_); rintro e w' ⟨rfl, ⟨nd, rfl⟩⟩; refine ⟨_, rfl, ?_⟩) | ((with_reducible refine gate_callee (f := 53) rfl ?_); refine goesL_ (some 8) rfl rfl Try.func53 (by kernel_rfl) rfl #[.int .i64 a0, .int .i64 128, .int .i64 2047] rfl (by (try simp only [List.map_toArray, List.map_cons, List.map_nil]); first | done | rfl) ?_; (with_reducible refine (spec_l1In.calls a0 128 2047 false _ A4.out).mono ?_); rintro e w' ⟨rfl, ⟨nd, rfl⟩⟩; refine ⟨_, rfl, ?_⟩) | ((with_reducible refine gate_callee (f := 53) rfl ?_); refine goesL_ (some 11) rfl rfl Try.func53 (by kernel_rfl) rfl #[.int .i64 a0, .int .i64 55296, .int .i64 57343] rfl (by (try simp only [List.map_toArray, List.map_cons, List.map_nil]); first | done | rfl) ?_; (with_reducible refine (spec_l1In.calls a0 55296 57343 false _ A6.out).mono ?_); rintro e w' ⟨rfl, ⟨nd, rfl⟩⟩; refine ⟨_, rfl, ?_⟩) | ((with_reducible refine gate_callee (f := 53) rfl ?_); refine goesL_ (some 14) rfl rfl Try.func53 (by kernel_rfl) rfl #[.int .i64 a0, .int .i64 2048, .int .i64 65535] rfl (by (try simp only [List.map_toArray, List.map_cons, List.map_nil]); first | done | rfl) ?_; (with_reducible refine (spec_l1In.calls a0 2048 65535 false _ A8.out).mono ?_); rintro e w' ⟨rfl, ⟨nd, rfl⟩⟩; refine ⟨_, rfl, ?_⟩) | ((with_reducible refine gate_callee (f := 53) rfl ?_); refine goesL_ (some 17) rfl rfl Try.func53 (by kernel_rfl) rfl #[.int .i64 a0, .int .i64 65536, .int .i64 1114111] rfl (by (try simp only [List.map_toArray, List.map_cons, List.map_nil]); first | done | rfl) ?_; (with_reducible refine (spec_l1In.calls a0 65536 1114111 false _ A10.out).mono ?_); rintro e w' ⟨rfl, ⟨nd, rfl⟩⟩; refine ⟨_, rfl, ?_⟩)); go_ret; exact ⟨by first | rfl | (simp; done) | (simp [*]; done), by repeat (first | exact Drawn0.refl _ | apply Drawn0.step)⟩
def spec_l1Ok.l0 : Nat → List Int → Int → Option (Bool)
 | 0, _, _ => none
 | k + 1, x0, x3 => if x3 < (x0.length : Int) then (if 0 ≤ x3 then ((spec_l1Size.f (rd x0 x3)).bind fun t294 => (if t294 = 0 then (some false) else (spec_l1Ok.l0 k x0 (wrap64 (x3 + 1))))) else (none)) else (some (decide ((x0.length : Int) ≤ 80)))
def spec_l1Ok.f (k : Nat) (l0 : List Int) : Option (Bool) := spec_l1Ok.l0 k l0 0
theorem spec_l1Ok.mono_l : ∀ k, (∀ y0 y1, LeO (spec_l1Ok.l0 k y0 y1) (spec_l1Ok.l0 (k + 1) y0 y1))
 | 0 => fun _ _ r h => by simp [spec_l1Ok.l0] at h
 | k + 1 => by
  have ih0 := spec_l1Ok.mono_l k
  ·
   intro y0 y1; unfold spec_l1Ok.l0
   repeat' first
   | (with_reducible exact ih0 _ _)
   | (with_reducible exact LeO.refl _)
   | (with_reducible exact LeO.none _)
   | (with_reducible refine LeO.ite ?_ ?_)
   | (with_reducible refine LeO.bind ?_ (fun _ => ?_))
   | exact ih0 _ _
   | exact LeO.none _
   | refine LeO.ite ?_ ?_
   | refine LeO.bind ?_ (fun _ => ?_)
theorem spec_l1Ok.mono : ∀ a0 k, LeO (spec_l1Ok.f k a0) (spec_l1Ok.f (k + 1) a0) := by
 intro a0 k; have ih0 := spec_l1Ok.mono_l k; unfold spec_l1Ok.f
 repeat' first
   | (with_reducible exact ih0 _ _)
   | (with_reducible exact LeO.refl _)
   | (with_reducible exact LeO.none _)
   | (with_reducible refine LeO.ite ?_ ?_)
   | (with_reducible refine LeO.bind ?_ (fun _ => ?_))
   | exact ih0 _ _
   | exact LeO.none _
   | refine LeO.ite ?_ ?_
   | refine LeO.bind ?_ (fun _ => ?_)
theorem spec_l1Ok.calls (k : Nat) (A0 : Option Addr) (c0 : Nat) (l0 : List Int) (r : Bool) (w : World) (hr0 : Kd.C (Kd.int .i64) w A0 l0.length l0) (hc0 : l0.length ≤ c0) (h : spec_l1Ok.f k l0 = some r) :
  Calls Try.prog 71 #[.slice A0 l0.length c0] w fun e w' => e = .returned (.bool r) ∧ Drawn0 w w' := by
 have HR0 := az hr0; have HC0 := az hc0; clear hr0 hc0; have H : (spec_l1Ok.l0 k l0 0) = some r := h; clear h; have H' := az H; clear H; go_enter Try.func71, Try.ntmps71; go_wp2; go_loopg [3] k (fun kq v3 w' => ∃ (x3_1 : Int), v3 = .int .i64 x3_1 ∧ Aside0 (spec_l1Ok.l0 kq l0 x3_1 = some r) ∧ Aside0 (kq ≤ k) ∧ Drawn0 w w')
 case atStart => exact ⟨(0), (by first | rfl | (simp; done) | (simp [*]; done)), H', ⟨Nat.le_refl _⟩, by repeat (first | exact Drawn0.refl _ | apply Drawn0.step)⟩
 case round =>
  clear H'; obtain ⟨x3_1, rfl, HA, HK1, ⟨m1, rfl⟩⟩ := hrel
  cases gk with
  | zero => exact absurd HA.out (by simp [spec_l1Ok.l0])
  | succ k1 =>
   have H := HA.out; clear HA; simp only [spec_l1Ok.l0] at H; by_cases c2 : x3_1 < (l0.length : Int)
   ·
    rw [if_pos c2] at H; have c2b0 : decide (x3_1 < (l0.length : Int)) = true := decide_eq_true c2; clear c2; by_cases c3 : 0 ≤ x3_1
    ·
     rw [if_pos c3] at H; have c3b0 : decide (0 ≤ x3_1) = true := decide_eq_true c3; clear c3; replace H := Option.bind_eq_some_iff.mp H; obtain ⟨t294, A40, H⟩ := H; replace H : (if t294 = 0 then (some false) else (spec_l1Ok.l0 k1 l0 (wrap64 (x3_1 + 1)))) = some r := H; have A4 := az A40; clear A40; by_cases c5 : t294 = 0
     ·
      rw [if_pos c5] at H; have c5b0 : (t294 == 0) = true := beq_iff_eq.mpr c5; have c5b1 : (t294 != 0) = false := bne_eq_false_iff_eq.mpr c5; clear c5; obtain rfl := Option.some.inj H; have p293 : 0 ≤ (x3_1 : Int) := of_decide_eq_true (by assumption); have q293 : x3_1 < (l0.length : Int) := of_decide_eq_true (by assumption); obtain ⟨ad293, e293, hx293_0⟩ := Kd.at_int HR0.out x3_1 p293 q293
      cases e293
      replace p293 := eq_true p293; replace q293 := eq_true q293; go_wp2_with (first | ((with_reducible refine gate_callee (f := 88) rfl ?_); refine goesL_ (some 14) rfl rfl Try.func88 (by kernel_rfl) rfl #[.int .i64 (rd l0 x3_1)] rfl (by (try simp only [List.map_toArray, List.map_cons, List.map_nil]); first | done | rfl) ?_; (with_reducible refine (spec_l1Size.calls (rd l0 x3_1) t294 _ A4.out).mono ?_); rintro e w' ⟨rfl, ⟨nd, rfl⟩⟩; refine ⟨_, rfl, ?_⟩)); go_ret; exact ⟨by first | rfl | (simp; done) | (simp [*]; done), by repeat (first | exact Drawn0.refl _ | apply Drawn0.step)⟩
     ·
      rw [if_neg c5] at H; have c5b0 : (t294 == 0) = false := beq_eq_false_iff_ne.mpr c5; have c5b1 : (t294 != 0) = true := bne_iff_ne.mpr c5; have H' := az H; clear H; have p293 : 0 ≤ (x3_1 : Int) := of_decide_eq_true (by assumption); have q293 : x3_1 < (l0.length : Int) := of_decide_eq_true (by assumption); obtain ⟨ad293, e293, hx293_0⟩ := Kd.at_int HR0.out x3_1 p293 q293
      cases e293
      replace p293 := eq_true p293; replace q293 := eq_true q293; go_wp2_with (first | ((with_reducible refine gate_callee (f := 88) rfl ?_); refine goesL_ (some 14) rfl rfl Try.func88 (by kernel_rfl) rfl #[.int .i64 (rd l0 x3_1)] rfl (by (try simp only [List.map_toArray, List.map_cons, List.map_nil]); first | done | rfl) ?_; (with_reducible refine (spec_l1Size.calls (rd l0 x3_1) t294 _ A4.out).mono ?_); rintro e w' ⟨rfl, ⟨nd, rfl⟩⟩; refine ⟨_, rfl, ?_⟩)); go_roundg k1
      case measure => have := HK1.out; omega
      case rel => exact ⟨(wrap64 (x3_1 + 1)), (by first | rfl | (simp; done) | (simp [*]; done)), H', ⟨by have := HK1.out; omega⟩, by repeat (first | exact Drawn0.refl _ | apply Drawn0.step)⟩
    ·
     rw [if_neg c3] at H; exact absurd H (by simp)
   ·
    rw [if_neg c2] at H; have c2b0 : decide (x3_1 < (l0.length : Int)) = false := decide_eq_false c2; clear c2; obtain rfl := Option.some.inj H; go_wp2; go_ret; exact ⟨by first | rfl | (simp; done) | (simp [*]; done), by repeat (first | exact Drawn0.refl _ | apply Drawn0.step)⟩
def spec_l3Ok.f (k : Nat) (l0 : List Int) (a1 : Int) : Option (Bool) := (spec_l1Ok.f k l0).bind fun t295 => (if t295 = true then ((spec_l1In.f a1 0 1).bind fun t296 => (some t296)) else (some false))
theorem spec_l3Ok.mono : ∀ a0 a1 k, LeO (spec_l3Ok.f k a0 a1) (spec_l3Ok.f (k + 1) a0 a1) := by
 intro a0 a1 k; unfold spec_l3Ok.f
 repeat' first
   | (with_reducible exact spec_l1Ok.mono _ _)
   | (with_reducible exact LeO.refl _)
   | (with_reducible exact LeO.none _)
   | (with_reducible refine LeO.ite ?_ ?_)
   | (with_reducible refine LeO.bind ?_ (fun _ => ?_))
   | exact spec_l1Ok.mono _ _
   | exact LeO.none _
   | refine LeO.ite ?_ ?_
   | refine LeO.bind ?_ (fun _ => ?_)
theorem spec_l3Ok.calls (k : Nat) (A0 : Option Addr) (c0 : Nat) (l0 : List Int) (a1 : Int) (r : Bool) (w : World) (hr0 : Kd.C (Kd.int .i64) w A0 l0.length l0) (hc0 : l0.length ≤ c0) (h : spec_l3Ok.f k l0 a1 = some r) :
  Calls Try.prog 45 #[.slice A0 l0.length c0, .int .i64 a1] w fun e w' => e = .returned (.bool r) ∧ Drawn0 w w' := by
 have HR0 := az hr0; have HC0 := az hc0; clear hr0 hc0; have H : ((spec_l1Ok.f k l0).bind fun t295 => (if t295 = true then ((spec_l1In.f a1 0 1).bind fun t296 => (some t296)) else (some false))) = some r := h; clear h; replace H := Option.bind_eq_some_iff.mp H; obtain ⟨t295, A30, H⟩ := H; replace H : (if t295 = true then ((spec_l1In.f a1 0 1).bind fun t296 => (some t296)) else (some false)) = some r := H; have A3 := az A30; clear A30; by_cases c4 : t295 = true
 ·
  subst c4; have H1 : ((spec_l1In.f a1 0 1).bind fun t296 => (some t296)) = some r := by rw [if_pos rfl] at H; exact H
  clear H; have H := H1; clear H1; replace H := Option.bind_eq_some_iff.mp H; obtain ⟨t296, A50, H⟩ := H; replace H : (some t296) = some r := H; have A5 := az A50; clear A50; obtain rfl := Option.some.inj H; go_enter Try.func45, Try.ntmps45; go_wp2_with (first | ((with_reducible refine gate_callee (f := 71) rfl ?_); refine goesL_ (some 6) rfl rfl Try.func71 (by kernel_rfl) rfl #[.slice A0 l0.length c0] rfl (by (try simp only [List.map_toArray, List.map_cons, List.map_nil]); first | done | rfl) ?_; (with_reducible refine (spec_l1Ok.calls k _ _ l0 true _ ?side1 ?side2 A3.out).mono ?_); (case side1 => repeat (first | exact HR0.out | (with_reducible refine Kd.C_alloc ?_ _) | (with_reducible refine Kd.C_drewN ?_ _) | (with_reducible refine Kd.C_drew ?_))); (case side2 => exact HC0.out); rintro e w' ⟨rfl, ⟨nd, rfl⟩⟩; refine ⟨_, rfl, ?_⟩) | (go_at_call 53; (with_reducible refine (spec_l1In.calls a1 0 1 t296 _ A5.out).mono ?_); rintro e w' ⟨rfl, ⟨nd, rfl⟩⟩)); go_ret; exact ⟨by first | rfl | (simp; done) | (simp [*]; done), by repeat (first | exact Drawn0.refl _ | apply Drawn0.step)⟩
 ·
  replace c4 := Bool.eq_false_iff.mpr c4; subst c4; have H1 : (some false) = some r := by rw [if_neg (show ¬ (false = true) by decide)] at H; exact H
  clear H; have H := H1; clear H1; obtain rfl := Option.some.inj H; go_enter Try.func45, Try.ntmps45; go_wp2_with (first | ((with_reducible refine gate_callee (f := 71) rfl ?_); refine goesL_ (some 6) rfl rfl Try.func71 (by kernel_rfl) rfl #[.slice A0 l0.length c0] rfl (by (try simp only [List.map_toArray, List.map_cons, List.map_nil]); first | done | rfl) ?_; (with_reducible refine (spec_l1Ok.calls k _ _ l0 false _ ?side1 ?side2 A3.out).mono ?_); (case side1 => repeat (first | exact HR0.out | (with_reducible refine Kd.C_alloc ?_ _) | (with_reducible refine Kd.C_drewN ?_ _) | (with_reducible refine Kd.C_drew ?_))); (case side2 => exact HC0.out); rintro e w' ⟨rfl, ⟨nd, rfl⟩⟩; refine ⟨_, rfl, ?_⟩)); go_ret; exact ⟨by first | rfl | (simp; done) | (simp [*]; done), by repeat (first | exact Drawn0.refl _ | apply Drawn0.step)⟩
def spec_l3Up.f (a0 : Int) (a1 : Bool) : Option (Int) := if (a1 == ((Int.tmod a0 2) == 0)) = true then (some (wrap64 (a0 + 1))) else (some (wrap64 (a0 + 2)))
theorem spec_l3Up.calls (a0 : Int) (a1 : Bool) (r : Int) (w : World) (h : spec_l3Up.f a0 a1 = some r) :
  Calls Try.prog 106 #[.int .i64 a0, .bool a1] w fun e w' => e = .returned (.int .i64 r) ∧ Drawn0 w w' := by
 have H : (if (a1 == ((Int.tmod a0 2) == 0)) = true then (some (wrap64 (a0 + 1))) else (some (wrap64 (a0 + 2)))) = some r := h
 clear h
 by_cases c3 : (a1 == ((Int.tmod a0 2) == 0)) = true
 ·
  rw [if_pos c3] at H
  have c3b0 : (a1 == ((Int.tmod a0 2) == 0)) = true := c3
  (try (have c3b1 : decide (a1 = ((Int.tmod a0 2) == 0)) = true := by simpa using c3))
  (try (have c3b2 : (a1 == ((Int.tmod a0 2) == 0)) = true := by simpa using c3))
  clear c3
  obtain rfl := Option.some.inj H
  go_enter Try.func106, Try.ntmps106
  go_wp2
  go_ret
  exact ⟨by first | rfl | (simp; done) | (simp [*]; done), by repeat (first | exact Drawn0.refl _ | apply Drawn0.step)⟩
 ·
  rw [if_neg c3] at H
  have c3b0 : (a1 == ((Int.tmod a0 2) == 0)) = false := by simpa using c3
  (try (have c3b1 : decide (a1 = ((Int.tmod a0 2) == 0)) = false := by simpa using c3))
  (try (have c3b2 : (a1 == ((Int.tmod a0 2) == 0)) = false := by simpa using c3))
  (try (have c3b3 : ¬ (a1 = ((Int.tmod a0 2) == 0)) := by simpa using c3))
  clear c3
  obtain rfl := Option.some.inj H
  go_enter Try.func106, Try.ntmps106
  go_wp2
  go_ret
  exact ⟨by first | rfl | (simp; done) | (simp [*]; done), by repeat (first | exact Drawn0.refl _ | apply Drawn0.step)⟩
structure WkS where
 lv : List Int
 cl : List Int
 st : List S74
 lost : Int
 sk : Int
 al : Int
def WkS.top (s : WkS) : S74 := s.st.getD (s.st.length - 1) z74
def IsWk (w : World) (base gb : Nat) (A : Option Addr) (c n : Nat) (s : WkS) : Prop := ∃ vl vc vs : Value,
 w.heap[gb]? = some (.cells #[.slice A n c, vl, vc, vs, .int .i64 s.lost, .int .i64 s.sk, .int .i64 s.al] 53 (0, 0)) ∧ Kd.R (Kd.int .i64) 3 w base (fun k => some k ≠ vc.ownBlock) vl s.lv ∧ Kd.R (Kd.int .i64) 3 w base (fun k => some k ≠ vl.ownBlock) vc s.cl ∧ Kd.R k74 74 w base (fun _ => True) vs s.st ∧ base ≤ gb
theorem IsWk.below {w w1 : World} {base gb : Nat} {A : Option Addr} {c n : Nat} {s : WkS} (h : IsWk w base gb A c n s) (hb : Below w.heap.size w w1) : IsWk w1 base gb A c n s := by
 obtain ⟨vl, vc, vs, h1, h2, h3, h4, h5⟩ := h
 exact ⟨vl, vc, vs, blk_below h1 hb, Kd.R_below h2 hb, Kd.R_below h3 hb, Kd.R_below h4 hb, h5⟩
theorem infoT : (Try.prog.info? 74).map (fun i => (i.zero, i.size, i.bytes)) = some (some (.agg #[.int .i64 0, .int .i64 0, .bool false]), 3, 24) := by kernel_rfl
def upV (l : Int) (r : Bool) : Int := (spec_l3Up.f l r).getD 0
theorem upV_f (l : Int) (r : Bool) : spec_l3Up.f l r = some (upV l r) := by
 unfold upV spec_l3Up.f
 split <;> rfl
def pushS (right : Bool) (side : Int) (alone : Bool) (s : WkS) : WkS :=
 if upV s.top.f0 right ≤ 20 ∧ s.lost = 0 ∧ s.sk = 0 then (if alone = true then { s with al := s.al + 1, st := s.st ++ [⟨upV s.top.f0 right, side, true⟩] } else { s with st := s.st ++ [⟨upV s.top.f0 right, side, false⟩] })
 else if alone = true then { s with lost := s.lost + 1 } else if s.lost = 0 then { s with sk := s.sk + 1 } else s
def dropsS (s : WkS) : WkS :=
 if 0 < s.lost then s else if 0 < s.sk then { s with sk := s.sk - 1 } else if s.top.f2 = false ∧ 1 < s.st.length then { s with st := s.st.take (s.st.length - 1) } else s
def hereS (i : Nat) (c : Int) (s : WkS) : WkS := { s with lv := s.lv.set i s.top.f0, cl := s.cl.set i (if s.top.f1 = 0 then c else s.top.f1) }
def popA (st : List S74) : Nat → List S74
 | 0 => []
 | n + 1 => if (st.getD n z74).f2 = true then st.take n else popA st n
def endsS (s : WkS) : WkS := if 0 < s.lost then { s with lost := s.lost - 1 } else if s.al = 0 then s else { s with sk := 0, st := popA s.st s.st.length, al := s.al - 1 }
def Wb (s : WkS) : Prop := 0 ≤ s.lost ∧ s.lost ≤ 1000 ∧ 0 ≤ s.sk ∧ s.sk ≤ 1000 ∧ 0 ≤ s.al ∧ s.al ≤ 1000 ∧ 1 ≤ s.st.length ∧ s.st.length ≤ 1000
theorem upQ (l : Int) (b : Bool) (w : World) (n : Nat) : Calls Try.prog 106 #[.int .i64 l, .bool b] (w.drewN n) fun e w'' => e = .returned (.int .i64 (upV l b)) ∧ ∃ m, w'' = w.drewN m :=
 Calls.quiet_of ((spec_l3Up.calls l b (upV l b) (w.drewN n) (upV_f l b)).mono fun _ _ ⟨he, hd⟩ => ⟨he, hd.out⟩)
theorem IsWk.put {w0 w : World} {gb c n : Nat} {A : Option Addr} {s : WkS} {vl vc vs : Value} {a4 a5 a6 : Int} (h1 : w.heap[gb]? = some (.cells #[.slice A n c, vl, vc, vs, .int .i64 a4, .int .i64 a5, .int .i64 a6] 53 (0, 0))) (hL : Kd.R (Kd.int .i64) 3 w w0.heap.size (fun k => some k ≠ vc.ownBlock) vl s.lv) (hC : Kd.R (Kd.int .i64) 3 w w0.heap.size (fun k => some k ≠ vl.ownBlock) vc s.cl)
  (hbg : w0.heap.size ≤ gb) (hB : Below w0.heap.size w0 w) (m j : Nat) (u vs' : Value) (hS : Kd.R k74 74 w w0.heap.size (fun _ => True) vs' s.st) (hj : (#[.slice A n c, vl, vc, vs, .int .i64 a4, .int .i64 a5, .int .i64 a6] : Array Value).setIfInBounds j u = #[.slice A n c, vl, vc, vs', .int .i64 s.lost, .int .i64 s.sk, .int .i64 s.al]) :
  IsWk ((w.drewN m).setCell ⟨gb, j, none⟩ u) w0.heap.size gb A c n s ∧ Below w0.heap.size w0 ((w.drewN m).setCell ⟨gb, j, none⟩ u) := by
 have h1' : (w.drewN m).heap[gb]? = some (.cells #[.slice A n c, vl, vc, vs, .int .i64 a4, .int .i64 a5, .int .i64 a6] 53 (0, 0)) := h1
 refine ⟨⟨vl, vc, vs', by have h := blk_set h1' j u; rwa [hj] at h, Kd.R_set (Kd.R_drewN hL m) h1' (by decide) j _, Kd.R_set (Kd.R_drewN hC m) h1' (by decide) j _, Kd.R_set (Kd.R_drewN hS m) h1' (by decide) j _, hbg⟩, (pw_below_drewN hB m).setCell (p := ⟨gb, j, none⟩) hbg _⟩
theorem IsWk.same {w0 w : World} {gb c n : Nat} {A : Option Addr} {s : WkS} {vl vc vs : Value} (h1 : w.heap[gb]? = some (.cells #[.slice A n c, vl, vc, vs, .int .i64 s.lost, .int .i64 s.sk, .int .i64 s.al] 53 (0, 0))) (hL : Kd.R (Kd.int .i64) 3 w w0.heap.size (fun k => some k ≠ vc.ownBlock) vl s.lv) (hC : Kd.R (Kd.int .i64) 3 w w0.heap.size (fun k => some k ≠ vl.ownBlock) vc s.cl)
  (hbg : w0.heap.size ≤ gb) (hB : Below w0.heap.size w0 w) (m : Nat) (hS : Kd.R k74 74 w w0.heap.size (fun _ => True) vs s.st) : IsWk (w.drewN m) w0.heap.size gb A c n s ∧ Below w0.heap.size w0 (w.drewN m) :=
 ⟨⟨vl, vc, vs, h1, Kd.R_drewN hL m, Kd.R_drewN hC m, Kd.R_drewN hS m, hbg⟩, pw_below_drewN hB m⟩
theorem drops_calls (w0 w : World) (gb : Nat) (A : Option Addr) (c n : Nat) (s : WkS) (hB : Below w0.heap.size w0 w) (hs : IsWk w w0.heap.size gb A c n s) (hw : Wb s) :
  Calls Try.prog 90 #[.pointer (some ⟨gb, 0, none⟩)] w fun e w' => e = .returned (.tuple #[]) ∧ IsWk w' w0.heap.size gb A c n (dropsS s) ∧ Below w0.heap.size w0 w' := by
 obtain ⟨vl, vc, vs, h1, hL, hC, hS, hbg⟩ := hs
 obtain ⟨As, cs, hvs, hlcs, hSC⟩ := Kd.R_reads hS
 subst hvs
 obtain ⟨b1, b2, b3, b4, b5, b6, b7, b8⟩ := hw
 have hc3 := (blk_cell h1 3).trans (show (#[.slice A n c, vl, vc, .slice As s.st.length cs, .int .i64 s.lost, .int .i64 s.sk, .int .i64 s.al] : Array Value)[3]? = some (.slice As s.st.length cs) from rfl)
 have hc4 := (blk_cell h1 4).trans (show (#[.slice A n c, vl, vc, .slice As s.st.length cs, .int .i64 s.lost, .int .i64 s.sk, .int .i64 s.al] : Array Value)[4]? = some (.int .i64 s.lost) from rfl)
 have hc5 := (blk_cell h1 5).trans (show (#[.slice A n c, vl, vc, .slice As s.st.length cs, .int .i64 s.lost, .int .i64 s.sk, .int .i64 s.al] : Array Value)[5]? = some (.int .i64 s.sk) from rfl)
 have hc6 := (blk_cell h1 6).trans (show (#[.slice A n c, vl, vc, .slice As s.st.length cs, .int .i64 s.lost, .int .i64 s.sk, .int .i64 s.al] : Array Value)[6]? = some (.int .i64 s.al) from rfl)
 obtain ⟨ad, e1, y0, y1, y2⟩ := at_T74 hSC ((s.st.length - 1 : Nat) : Int) (by omega) (by omega)
 subst e1
 rw [Int.toNat_natCast] at y0 y1 y2
 have hrd : rd_T74 s.st ((s.st.length - 1 : Nat) : Int) = s.top := by simp only [rd_T74, Int.toNat_natCast, WkS.top]
 rw [hrd] at y0 y1 y2
 clear hrd
 have hf3 := blk_frozen h1 3
 have hf4 := blk_frozen h1 4
 have hf5 := blk_frozen h1 5
 have hf6 := blk_frozen h1 6
 have hw1 : IntKind.i64.wrap ((s.st.length : Int) - 1) = (s.st.length : Int) - 1 := IntWalk.i64_in _ (by omega)
 have hw2 : ((s.st.length : Int) - 1).toNat = s.st.length - 1 := by omega
 have hw3 : 0 ≤ (s.st.length : Int) - 1 := by omega
 have hw4 : (s.st.length : Int) - 1 < (s.st.length : Int) := by omega
 have hw5 : (s.st.length : Int) - 1 ≤ (s.st.length : Int) := by omega
 have H1 := az h1
 have HL := az hL
 have HC := az hC
 have HS := az hS
 have HB := az hB
 have HG := az hbg
 have HLC := az hlcs
 clear h1 hL hC hS hB hbg hSC hlcs
 unfold dropsS
 by_cases c1 : 0 < s.lost
 ·
  rw [if_pos c1]
  have c1b : decide (0 < s.lost) = true := decide_eq_true c1
  clear c1
  go_enter Try.func90, Try.ntmps90
  go_wp2
  ((try simp only [Exit.inBlock, Exit.then]); refine bodyPost_ret (results_none rfl _ _ _) rfl ?_)
  exact ⟨rfl, IsWk.same H1.out HL.out HC.out HG.out HB.out 0 HS.out⟩
 ·
  have hl0 : s.lost = 0 := by omega
  rw [if_neg c1]
  have c1b : decide (0 < s.lost) = false := decide_eq_false c1
  clear c1
  by_cases c2 : 0 < s.sk
  ·
   rw [if_pos c2]
   have c2b : decide (0 < s.sk) = true := decide_eq_true c2
   clear hl0 c2
   go_enter Try.func90, Try.ntmps90
   go_wp2
   ((try simp only [Exit.inBlock, Exit.then]); refine bodyPost_ret (results_none rfl _ _ _) rfl ?_)
   exact ⟨rfl, IsWk.put (s := { s with sk := s.sk - 1 }) H1.out HL.out HC.out HG.out HB.out 0 5 (.int .i64 (s.sk - 1)) _ HS.out (by simp)⟩
  ·
   rw [if_neg c2]
   have c2b : decide (0 < s.sk) = false := decide_eq_false c2
   clear hl0 c2
   generalize s.top = tp at y0 y1 y2
   cases h2 : tp.f2 with
   | true =>
    rw [h2] at y2
    rw [if_neg (fun h => absurd h.1 (by decide))]
    clear h2
    go_enter Try.func90, Try.ntmps90
    go_wp2
    go_quiet (fail)
    go_wp2
    go_end0
    exact ⟨rfl, IsWk.same H1.out HL.out HC.out HG.out HB.out _ HS.out⟩
   | false =>
    rw [h2] at y2
    by_cases c3 : 1 < s.st.length
    ·
     rw [if_pos ⟨rfl, c3⟩]
     have c3b : decide (1 < (s.st.length : Int)) = true := decide_eq_true (by omega)
     have c3c : (1 : Int) < (s.st.length : Int) := by omega
     have hcut : ∀ W : World, (Instr.slice 51 (.slice (some ad) s.st.length cs) none (some (.int .i64 ((s.st.length : Int) - 1))) none).run Try.prog W = .ok (.slice (some ad) (s.st.length - 1) cs) W := by
      intro W
      obtain ⟨i0, hi0, _, _, _⟩ := info_parts infoT
      have h := cut_to (P := Try.prog) 51 74 .i64 Try.underlying51 hi0 (some ad) s.st.length cs ((s.st.length : Int) - 1) (by omega) (by omega) HLC.out W
      rwa [show ((s.st.length : Int) - 1).toNat = s.st.length - 1 by omega] at h
     have HTk := az (Kd.R_take (m := s.st.length - 1) HS.out (by omega))
     clear h2
     go_enter Try.func90, Try.ntmps90
     go_wp2
     go_quiet (fail)
     go_wp2
     go_region
     go_wp2
     go_end0
     exact ⟨rfl, IsWk.put (s := { s with st := s.st.take (s.st.length - 1) }) H1.out HL.out HC.out HG.out HB.out (nq + 1) 3 (.slice (some ad) (s.st.length - 1) cs) _ HTk.out (by simp)⟩
    ·
     rw [if_neg (fun h => c3 h.2)]
     have c3b : decide (1 < (s.st.length : Int)) = false := decide_eq_false (by omega)
     clear h2 c3
     go_enter Try.func90, Try.ntmps90
     go_wp2
     go_quiet (fail)
     go_wp2
     go_end0
     exact ⟨rfl, IsWk.same H1.out HL.out HC.out HG.out HB.out _ HS.out⟩
theorem push_calls (w0 w : World) (gb : Nat) (A : Option Addr) (c n : Nat) (s : WkS) (right : Bool) (side : Int) (alone : Bool) (hB : Below w0.heap.size w0 w) (hs : IsWk w w0.heap.size gb A c n s) (hw : Wb s) :
  Calls Try.prog 89 #[.pointer (some ⟨gb, 0, none⟩), .bool right, .int .i64 side, .bool alone] w fun e w' => e = .returned (.tuple #[]) ∧ IsWk w' w0.heap.size gb A c n (pushS right side alone s) ∧ Below w0.heap.size w0 w' := by
 obtain ⟨vl, vc, vs, h1, hL, hC, hS, hbg⟩ := hs
 obtain ⟨As, cs, hvs, hlcs, hSC⟩ := Kd.R_reads hS
 subst hvs
 obtain ⟨b1, b2, b3, b4, b5, b6, b7, b8⟩ := hw
 have hc3 := (blk_cell h1 3).trans (show (#[.slice A n c, vl, vc, .slice As s.st.length cs, .int .i64 s.lost, .int .i64 s.sk, .int .i64 s.al] : Array Value)[3]? = some (.slice As s.st.length cs) from rfl)
 have hc4 := (blk_cell h1 4).trans (show (#[.slice A n c, vl, vc, .slice As s.st.length cs, .int .i64 s.lost, .int .i64 s.sk, .int .i64 s.al] : Array Value)[4]? = some (.int .i64 s.lost) from rfl)
 have hc5 := (blk_cell h1 5).trans (show (#[.slice A n c, vl, vc, .slice As s.st.length cs, .int .i64 s.lost, .int .i64 s.sk, .int .i64 s.al] : Array Value)[5]? = some (.int .i64 s.sk) from rfl)
 have hc6 := (blk_cell h1 6).trans (show (#[.slice A n c, vl, vc, .slice As s.st.length cs, .int .i64 s.lost, .int .i64 s.sk, .int .i64 s.al] : Array Value)[6]? = some (.int .i64 s.al) from rfl)
 obtain ⟨ad, e1, y0, y1, y2⟩ := at_T74 hSC ((s.st.length - 1 : Nat) : Int) (by omega) (by omega)
 subst e1
 rw [Int.toNat_natCast] at y0 y1 y2
 have hrd : rd_T74 s.st ((s.st.length - 1 : Nat) : Int) = s.top := by simp only [rd_T74, Int.toNat_natCast, WkS.top]
 rw [hrd] at y0 y1 y2
 clear hrd
 have hf3 := blk_frozen h1 3
 have hf4 := blk_frozen h1 4
 have hf5 := blk_frozen h1 5
 have hf6 := blk_frozen h1 6
 have hw1 : IntKind.i64.wrap ((s.st.length : Int) - 1) = (s.st.length : Int) - 1 := IntWalk.i64_in _ (by omega)
 have hw2 : ((s.st.length : Int) - 1).toNat = s.st.length - 1 := by omega
 have hw3 : 0 ≤ (s.st.length : Int) - 1 := by omega
 have hw4 : (s.st.length : Int) - 1 < (s.st.length : Int) := by omega
 have hw5 : (s.st.length : Int) - 1 ≤ (s.st.length : Int) := by omega
 have H1 := az h1
 have HL := az hL
 have HC := az hC
 have HS := az hS
 have HB := az hB
 have HG := az hbg
 have HLC := az hlcs
 clear h1 hL hC hS hB hbg hSC hlcs
 unfold pushS
 generalize s.top = tp at y0 y1 y2
 have hup := fun w m => upQ tp.f0 right w m
 generalize upV tp.f0 right = nl at hup
 have HUP := az hup
 clear hup
 by_cases c1 : nl ≤ 20 ∧ s.lost = 0 ∧ s.sk = 0
 ·
  rw [if_pos c1]
  obtain ⟨d1, d2, d3⟩ := c1
  have d1b : decide (nl ≤ 20) = true := decide_eq_true d1
  have d2b : (s.lost == 0) = true := beq_iff_eq.mpr d2
  have d3b : (s.sk == 0) = true := beq_iff_eq.mpr d3
  have HNE0 := az (Kd.R_ne HS.out H1.out (by decide))
  clear d1 d2 d3
  cases alone with
  | false =>
   rw [if_neg (by decide)]
   go_enter Try.func89, Try.ntmps89
   go_wp2
   go_quiet ((go_at_call 106; exact HUP.out _ _))
   have HSW := az (Kd.R_drewN HS.out nq)
   have HLW := az (Kd.R_drewN HL.out nq)
   have HCW := az (Kd.R_drewN HC.out nq)
   have HBW := az (pw_below_drewN HB.out nq)
   have H1W := az (show (w.drewN nq).heap[gb]? = _ from H1.out)
   have HNE := HNE0
   go_wp2_with ((with_reducible refine gate_builtin (b := .append) (xs := #[.tmp 53, .tmp 58]) rfl ?_); at_builtin; refine Kd.R_append k74 (w0 := w0) w0.heap.size rfl (.tmp 53) (.tmp 58) 51 74 (.agg #[.int .i64 0, .int .i64 0, .bool false]) 24 rfl Try.underlying51 infoT rfl (by decide) (by omega) (.slice (some ad) s.st.length cs) s.st ⟨nl, side, false⟩ [.int .i64 nl, .int .i64 side, .bool false] (fun _ => True) (fun _ => False) rfl rfl ?aP (fun _ hk => hk.elim) ?aF ?aO ?aB ?aS ?aL ?_; (case aP => exact k74_mkM _ _ _ (⟨nl, side, false⟩ : S74)); (case aF => exact (fun _ _ => trivial)); (case aO => exact HSW.out); (case aB => exact HBW.out); (case aS => exact HBW.out.size); (case aL => omega); intro v1 w1 ho1 hb1 hg1 hat1; obtain ⟨A1, c1, hv1⟩ := Kd.R_slice ho1; subst hv1; simp only [List.length_append, List.length_cons, List.length_nil, Nat.zero_add] at ho1; have h11 := blk_grown H1W.out hg1 HNE.out; have hc11 := (blk_cell h11 3).trans (show (#[.slice A n c, vl, vc, .slice (some ad) s.st.length cs, .int .i64 s.lost, .int .i64 s.sk, .int .i64 s.al] : Array Value)[3]? = some (.slice (some ad) s.st.length cs) from rfl); have hf11 := blk_frozen h11 3; have H11 := az h11; have HO1 := az ho1; have HB1 := az hb1; have HL1 := az (Kd.R_over' HLW.out (Kd.R_typed HSW.out) (by decide) hg1); have HC1 := az (Kd.R_over' HCW.out (Kd.R_typed HSW.out) (by decide) hg1); clear h11 ho1 hb1 hg1 hat1)
   ((try simp only [Exit.inBlock, Exit.then]); refine bodyPost_ret (results_none rfl _ _ _) rfl ?_)
   exact ⟨rfl, IsWk.put (s := { s with st := s.st ++ [⟨nl, side, false⟩] }) H11.out HL1.out HC1.out HG.out HB1.out 0 3 (.slice A1 (s.st.length + 1) c1) _ HO1.out (by simp)⟩
  | true =>
   rw [if_pos rfl]
   go_enter Try.func89, Try.ntmps89
   go_wp2
   go_quiet ((go_at_call 106; exact HUP.out _ _))
   have H1V := az (show (w.drewN nq).heap[gb]? = _ from H1.out)
   go_wp2_with (first | ((with_reducible refine gate_store (t := 3) (p := 48) rfl ?_); refine store_event (t := 3) (p := 48) (v := ?vo_w10) (w1 := ((w.drewN nq).setCell ⟨gb, 6, none⟩ (.int .i64 (s.al + 1)))) ?hg ?ho ?hn ?hr ?_; (case ho => rfl); (case hg => rfl); (case hn => rfl); (case hr => first | (go_simp; done) | (go_simp; rfl)); intro w10 hw; have HSW := az (show Kd.R k74 74 w10 w0.heap.size (fun _ => True) (.slice (some ad) s.st.length cs) s.st by rw [hw]; exact Kd.R_set (Kd.R_drewN HS.out nq) H1V.out (by decide) 6 (.int .i64 (s.al + 1))); have HLW := az (show Kd.R (Kd.int .i64) 3 w10 w0.heap.size (fun k => some k ≠ vc.ownBlock) vl s.lv by rw [hw]; exact Kd.R_set (Kd.R_drewN HL.out nq) H1V.out (by decide) 6 (.int .i64 (s.al + 1))); have HCW := az (show Kd.R (Kd.int .i64) 3 w10 w0.heap.size (fun k => some k ≠ vl.ownBlock) vc s.cl by rw [hw]; exact Kd.R_set (Kd.R_drewN HC.out nq) H1V.out (by decide) 6 (.int .i64 (s.al + 1))); have HBW := az (show Below w0.heap.size w0 w10 by rw [hw]; exact (pw_below_drewN HB.out nq).setCell (p := ⟨gb, 6, none⟩) HG.out (.int .i64 (s.al + 1))); have h1w : w10.heap[gb]? = some (.cells #[.slice A n c, vl, vc, .slice (some ad) s.st.length cs, .int .i64 s.lost, .int .i64 s.sk, .int .i64 (s.al + 1)] 53 (0, 0)) := (by rw [hw]; simpa using blk_set H1V.out 6 (.int .i64 (s.al + 1))); have hd3 := (blk_cell h1w 3).trans (show (#[.slice A n c, vl, vc, .slice (some ad) s.st.length cs, .int .i64 s.lost, .int .i64 s.sk, .int .i64 (s.al + 1)] : Array Value)[3]? = some (.slice (some ad) s.st.length cs) from rfl); have H1W := az h1w; have HNE := az (Kd.R_ne HSW.out h1w (by decide)); clear h1w hw) | ((with_reducible refine gate_builtin (b := .append) (xs := #[.tmp 53, .tmp 58]) rfl ?_); at_builtin; refine Kd.R_append k74 (w0 := w0) w0.heap.size rfl (.tmp 53) (.tmp 58) 51 74 (.agg #[.int .i64 0, .int .i64 0, .bool false]) 24 rfl Try.underlying51 infoT rfl (by decide) (by omega) (.slice (some ad) s.st.length cs) s.st ⟨nl, side, true⟩ [.int .i64 nl, .int .i64 side, .bool true] (fun _ => True) (fun _ => False) rfl rfl ?aP (fun _ hk => hk.elim) ?aF ?aO ?aB ?aS ?aL ?_; (case aP => exact k74_mkM _ _ _ (⟨nl, side, true⟩ : S74)); (case aF => exact (fun _ _ => trivial)); (case aO => exact HSW.out); (case aB => exact HBW.out); (case aS => exact HBW.out.size); (case aL => omega); intro v1 w1 ho1 hb1 hg1 hat1; obtain ⟨A1, c1, hv1⟩ := Kd.R_slice ho1; subst hv1; simp only [List.length_append, List.length_cons, List.length_nil, Nat.zero_add] at ho1; have h11 := blk_grown H1W.out hg1 HNE.out; have hc11 := (blk_cell h11 3).trans (show (#[.slice A n c, vl, vc, .slice (some ad) s.st.length cs, .int .i64 s.lost, .int .i64 s.sk, .int .i64 (s.al + 1)] : Array Value)[3]? = some (.slice (some ad) s.st.length cs) from rfl); have hf11 := blk_frozen h11 3; have H11 := az h11; have HO1 := az ho1; have HB1 := az hb1; have HL1 := az (Kd.R_over' HLW.out (Kd.R_typed HSW.out) (by decide) hg1); have HC1 := az (Kd.R_over' HCW.out (Kd.R_typed HSW.out) (by decide) hg1); clear h11 ho1 hb1 hg1 hat1))
   ((try simp only [Exit.inBlock, Exit.then]); refine bodyPost_ret (results_none rfl _ _ _) rfl ?_)
   exact ⟨rfl, IsWk.put (s := { s with st := s.st ++ [⟨nl, side, true⟩], al := s.al + 1 }) H11.out HL1.out HC1.out HG.out HB1.out 0 3 (.slice A1 (s.st.length + 1) c1) _ HO1.out (by simp)⟩
 ·
  rw [if_neg c1]
  have key : (decide (nl ≤ 20) = false) ∨ (decide (nl ≤ 20) = true ∧ (s.lost == 0) = false) ∨ (decide (nl ≤ 20) = true ∧ (s.lost == 0) = true ∧ (s.sk == 0) = false) := by
   by_cases d1 : nl ≤ 20
   ·
    by_cases d2 : s.lost = 0
    ·
     right; right
     exact ⟨decide_eq_true d1, beq_iff_eq.mpr d2, beq_eq_false_iff_ne.mpr (fun d3 => c1 ⟨d1, d2, d3⟩)⟩
    ·
     right; left
     exact ⟨decide_eq_true d1, beq_eq_false_iff_ne.mpr d2⟩
   · left; exact decide_eq_false d1
  clear c1
  cases alone with
  | true =>
   rw [if_pos rfl]
   rcases key with k1 | ⟨k1, k2⟩ | ⟨k1, k2, k3⟩
   all_goals
    go_enter Try.func89, Try.ntmps89
    go_wp2
    go_quiet ((go_at_call 106; exact HUP.out _ _))
    go_wp2
    go_end0
    exact ⟨rfl, IsWk.put (s := { s with lost := s.lost + 1 }) H1.out HL.out HC.out HG.out HB.out nq 4 (.int .i64 (s.lost + 1)) _ HS.out (by simp)⟩
  | false =>
   rw [if_neg (by decide)]
   by_cases d2 : s.lost = 0
   ·
    rw [if_pos d2]
    have d2b : (s.lost == 0) = true := beq_iff_eq.mpr d2
    clear d2
    rcases key with k1 | ⟨k1, k2⟩ | ⟨k1, k2, k3⟩
    ·
     go_enter Try.func89, Try.ntmps89
     go_wp2
     go_quiet ((go_at_call 106; exact HUP.out _ _))
     go_wp2
     go_end0
     exact ⟨rfl, IsWk.put (s := { s with sk := s.sk + 1 }) H1.out HL.out HC.out HG.out HB.out nq 5 (.int .i64 (s.sk + 1)) _ HS.out (by simp)⟩
    · rw [d2b] at k2; cases k2
    ·
     go_enter Try.func89, Try.ntmps89
     go_wp2
     go_quiet ((go_at_call 106; exact HUP.out _ _))
     go_wp2
     go_end0
     exact ⟨rfl, IsWk.put (s := { s with sk := s.sk + 1 }) H1.out HL.out HC.out HG.out HB.out nq 5 (.int .i64 (s.sk + 1)) _ HS.out (by simp)⟩
   ·
    rw [if_neg d2]
    have d2b : (s.lost == 0) = false := beq_eq_false_iff_ne.mpr d2
    clear d2
    rcases key with k1 | ⟨k1, k2⟩ | ⟨k1, k2, k3⟩
    ·
     go_enter Try.func89, Try.ntmps89
     go_wp2
     go_quiet ((go_at_call 106; exact HUP.out _ _))
     go_wp2
     go_end0
     exact ⟨rfl, IsWk.same H1.out HL.out HC.out HG.out HB.out _ HS.out⟩
    ·
     go_enter Try.func89, Try.ntmps89
     go_wp2
     go_quiet ((go_at_call 106; exact HUP.out _ _))
     go_wp2
     go_end0
     exact ⟨rfl, IsWk.same H1.out HL.out HC.out HG.out HB.out _ HS.out⟩
    · rw [d2b] at k2; cases k2
theorem hereFin {w0 w : World} {gb c n gl gc cpl cpc : Nat} {A : Option Addr} {s : WkS} {vs : Value} (h1 : w.heap[gb]? = some (.cells #[.slice A n c, .slice (some ⟨gl, 0, none⟩) s.lv.length cpl, .slice (some ⟨gc, 0, none⟩) s.cl.length cpc, vs, .int .i64 s.lost, .int .i64 s.sk, .int .i64 s.al] 53 (0, 0)))
  (hL : Kd.R (Kd.int .i64) 3 w w0.heap.size (fun k => some k ≠ (Value.slice (some ⟨gc, 0, none⟩) s.cl.length cpc).ownBlock) (.slice (some ⟨gl, 0, none⟩) s.lv.length cpl) s.lv) (hC : Kd.R (Kd.int .i64) 3 w w0.heap.size (fun k => some k ≠ (Value.slice (some ⟨gl, 0, none⟩) s.lv.length cpl).ownBlock) (.slice (some ⟨gc, 0, none⟩) s.cl.length cpc) s.cl)
  (hbg : w0.heap.size ≤ gb) (hB : Below w0.heap.size w0 w) (hS : Kd.R k74 74 w w0.heap.size (fun _ => True) vs s.st) (i : Nat) (a x : Int) (o : Obj) :
  IsWk ((((w.setCell ⟨gl, i, none⟩ (.int .i64 a)).setCell ⟨gc, i, none⟩ (.int .i64 x)).alloc o).drew.drew) w0.heap.size gb A c n { s with lv := s.lv.set i a, cl := s.cl.set i x } ∧ Below w0.heap.size w0 ((((w.setCell ⟨gl, i, none⟩ (.int .i64 a)).setCell ⟨gc, i, none⟩ (.int .i64 x)).alloc o).drew.drew) := by
 have hgl : w0.heap.size ≤ gl := Kd.R_base hL gl rfl
 have hgc : w0.heap.size ≤ gc := Kd.R_base hC gc rfl
 have pL := Kd.R_putg hL (i : Int) a
 rw [Int.toNat_natCast] at pL
 have hC1 := Kd.R_grown hC pL.2 (fun k hk => hk)
 have hS1 := Kd.R_over' hS (Kd.R_typed hL) (by decide) pL.2
 have h11 := blk_grown h1 pL.2 (Kd.R_ne hL h1 (by decide))
 have pC := Kd.R_putg hC1 (i : Int) x
 rw [Int.toNat_natCast] at pC
 have hL2 := Kd.R_grown pL.1 pC.2 (fun k hk => hk)
 have hS2 := Kd.R_over' hS1 (Kd.R_typed hC1) (by decide) pC.2
 have h12 := blk_grown h11 pC.2 (Kd.R_ne hC1 h11 (by decide))
 exact ⟨⟨_, _, vs, blk_drew (blk_drew (blk_alloc h12 o)), Kd.R_drew (Kd.R_drew (Kd.R_alloc hL2 o)), Kd.R_drew (Kd.R_drew (Kd.R_alloc pC.1 o)), Kd.R_drew (Kd.R_drew (Kd.R_alloc hS2 o)), hbg⟩, below_drew (below_drew (below_alloc ((hB.setCell (p := ⟨gl, i, none⟩) hgl _).setCell (p := ⟨gc, i, none⟩) hgc _) o))⟩
theorem here_calls (w0 w : World) (gb : Nat) (A : Option Addr) (c n : Nat) (s : WkS) (i : Nat) (k : Int) (hB : Below w0.heap.size w0 w) (hs : IsWk w w0.heap.size gb A c n s) (hw : Wb s) (hi : i < s.lv.length) (hi2 : i < s.cl.length) (hi3 : i < 1000) :
  Calls Try.prog 91 #[.pointer (some ⟨gb, 0, none⟩), .int .i64 i, .int .i64 k] w fun e w' => e = .returned (.tuple #[]) ∧ IsWk w' w0.heap.size gb A c n (hereS i k s) ∧ Below w0.heap.size w0 w' := by
 obtain ⟨vl, vc, vs, h1, hL, hC, hS, hbg⟩ := hs
 obtain ⟨As, cs, hvs, hlcs, hSC⟩ := Kd.R_reads hS
 subst hvs
 obtain ⟨b1, b2, b3, b4, b5, b6, b7, b8⟩ := hw
 have hc3 := (blk_cell h1 3).trans (show (#[.slice A n c, vl, vc, .slice As s.st.length cs, .int .i64 s.lost, .int .i64 s.sk, .int .i64 s.al] : Array Value)[3]? = some (.slice As s.st.length cs) from rfl)
 have hc4 := (blk_cell h1 4).trans (show (#[.slice A n c, vl, vc, .slice As s.st.length cs, .int .i64 s.lost, .int .i64 s.sk, .int .i64 s.al] : Array Value)[4]? = some (.int .i64 s.lost) from rfl)
 have hc5 := (blk_cell h1 5).trans (show (#[.slice A n c, vl, vc, .slice As s.st.length cs, .int .i64 s.lost, .int .i64 s.sk, .int .i64 s.al] : Array Value)[5]? = some (.int .i64 s.sk) from rfl)
 have hc6 := (blk_cell h1 6).trans (show (#[.slice A n c, vl, vc, .slice As s.st.length cs, .int .i64 s.lost, .int .i64 s.sk, .int .i64 s.al] : Array Value)[6]? = some (.int .i64 s.al) from rfl)
 obtain ⟨ad, e1, y0, y1, y2⟩ := at_T74 hSC ((s.st.length - 1 : Nat) : Int) (by omega) (by omega)
 subst e1
 rw [Int.toNat_natCast] at y0 y1 y2
 have hrd : rd_T74 s.st ((s.st.length - 1 : Nat) : Int) = s.top := by simp only [rd_T74, Int.toNat_natCast, WkS.top]
 rw [hrd] at y0 y1 y2
 clear hrd
 have hf3 := blk_frozen h1 3
 have hf4 := blk_frozen h1 4
 have hf5 := blk_frozen h1 5
 have hf6 := blk_frozen h1 6
 have hw1 : IntKind.i64.wrap ((s.st.length : Int) - 1) = (s.st.length : Int) - 1 := IntWalk.i64_in _ (by omega)
 have hw2 : ((s.st.length : Int) - 1).toNat = s.st.length - 1 := by omega
 have hw3 : 0 ≤ (s.st.length : Int) - 1 := by omega
 have hw4 : (s.st.length : Int) - 1 < (s.st.length : Int) := by omega
 have hw5 : (s.st.length : Int) - 1 ≤ (s.st.length : Int) := by omega
 have H1 := az h1
 have HL := az hL
 have HC := az hC
 have HS := az hS
 have HB := az hB
 have HG := az hbg
 have HLC := az hlcs
 obtain ⟨gl, cpl, hvl, _, hgl, _⟩ := Kd.R_form hL (by omega)
 obtain ⟨gc, cpc, hvc, _, hgc, _⟩ := Kd.R_form hC (by omega)
 subst hvl
 subst hvc
 have hgb := blk_lt h1
 have hlc : gl ≠ gc := fun h => by have := hL.1 gl rfl; simp [Value.ownBlock] at this; exact this h
 have hcl : gc ≠ gl := fun h => hlc h.symm
 have hbl : gb ≠ gl := fun h => by have := Kd.R_ne hL h1 (by decide); simp [Value.ownBlock] at this; exact this h
 have hbc : gb ≠ gc := fun h => by have := Kd.R_ne hC h1 (by decide); simp [Value.ownBlock] at this; exact this h
 obtain ⟨hxl, hfl⟩ := Kd.R_celln 0 hL (i : Int) (by omega) (by omega)
 obtain ⟨hxc, hfc⟩ := Kd.R_celln 0 hC (i : Int) (by omega) (by omega)
 rw [Int.toNat_natCast] at hxl hfl hxc hfc
 have hc1 := (blk_cell h1 1).trans (show (#[.slice A n c, .slice (some ⟨gl, 0, none⟩) s.lv.length cpl, .slice (some ⟨gc, 0, none⟩) s.cl.length cpc, .slice (some ad) s.st.length cs, .int .i64 s.lost, .int .i64 s.sk, .int .i64 s.al] : Array Value)[1]? = some (.slice (some ⟨gl, 0, none⟩) s.lv.length cpl) from rfl)
 have hc2 := (blk_cell h1 2).trans (show (#[.slice A n c, .slice (some ⟨gl, 0, none⟩) s.lv.length cpl, .slice (some ⟨gc, 0, none⟩) s.cl.length cpc, .slice (some ad) s.st.length cs, .int .i64 s.lost, .int .i64 s.sk, .int .i64 s.al] : Array Value)[2]? = some (.slice (some ⟨gc, 0, none⟩) s.cl.length cpc) from rfl)
 have hlt1 : (i : Int) < (s.lv.length : Int) := by omega
 have hlt2 : (i : Int) < (s.cl.length : Int) := by omega
 have had := World.block_lt_of_cell? w _ y0
 clear hc4 hc5 hc6 hf4 hf5 hf6 hf3 h1 hL hC hS hB hbg hSC hlcs
 unfold hereS
 generalize s.top = tp at y0 y1 y2
 by_cases c1 : tp.f1 = 0
 ·
  have c1b : (tp.f1 != 0) = false := bne_eq_false_iff_eq.mpr c1
  rw [if_pos c1]
  clear c1
  go_enter Try.func91, Try.ntmps91
  go_wp2
  go_region
  go_wp2
  go_region
  go_wp2
  go_end0
  exact ⟨rfl, hereFin H1.out HL.out HC.out HG.out HB.out HS.out i tp.f0 _ _⟩
 ·
  have c1b : (tp.f1 != 0) = true := bne_iff_ne.mpr c1
  rw [if_neg c1]
  clear c1
  go_enter Try.func91, Try.ntmps91
  go_wp2
  go_region
  go_wp2
  go_region
  go_wp2
  go_end0
  exact ⟨rfl, hereFin H1.out HL.out HC.out HG.out HB.out HS.out i tp.f0 _ _⟩
def spec_l3Opens.f (a0 : Int) : Option (Bool) := (spec_l1In.f a0 19 21).bind fun t103 => (some t103)
theorem spec_l3Opens.calls (a0 : Int) (r : Bool) (w : World) (h : spec_l3Opens.f a0 = some r) :
  Calls Try.prog 86 #[.int .i64 a0] w fun e w' => e = .returned (.bool r) ∧ Drawn0 w w' := by
 have H : ((spec_l1In.f a0 19 21).bind fun t103 => (some t103)) = some r := h
 clear h
 replace H := Option.bind_eq_some_iff.mp H
 obtain ⟨t103, A20, H⟩ := H
 replace H : (some t103) = some r := H
 have A2 := az A20
 clear A20
 obtain rfl := Option.some.inj H
 go_enter Try.func86, Try.ntmps86
 go_wp2_with (first | ((with_reducible refine gate_callee (f := 53) rfl ?_); refine goesL_ (some 4) rfl rfl Try.func53 (by kernel_rfl) rfl #[.int .i64 a0, .int .i64 19, .int .i64 21] rfl (by (try simp only [List.map_toArray, List.map_cons, List.map_nil]); first | done | rfl | (simp only [List.length_drop, List.length_take]; rfl)) ?_; (with_reducible refine (spec_l1In.calls a0 19 21 t103 _ A2.out).mono ?_); rintro e w' ⟨rfl, ⟨nd, rfl⟩⟩; refine ⟨_, rfl, ?_⟩))
 go_ret
 exact ⟨by first | rfl | (simp; done) | (simp [*]; done), by repeat (first | exact Drawn0.refl _ | apply Drawn0.step)⟩
mutual
def spec_l3Mate.l0 : Nat → List Int → Int → Int → Option (Int)
 | 0, _, _, _ => none
 | k + 1, x0, x5, x6 => if x6 < (x0.length : Int) then (if 0 ≤ x6 then ((spec_RuneBidi.f k (rd x0 x6)).bind fun t313 => ((spec_l3Opens.f t313).bind fun t314 => (if t314 = true then (spec_l3Mate.j1 k x0 (wrap64 (x5 + 1)) x6 t313) else (spec_l3Mate.j1 k x0 x5 x6 t313)))) else (none)) else (some (x0.length : Int))
def spec_l3Mate.j1 : Nat → List Int → Int → Int → Int → Option (Int)
 | 0, _, _, _, _ => none
 | k + 1, x0, x5, x6, x7 => if x7 = 22 then (if (wrap64 (x5 - 1)) = 0 then (some x6) else (spec_l3Mate.l0 k x0 (wrap64 (x5 - 1)) (wrap64 (x6 + 1)))) else (if x5 = 0 then (some x6) else (spec_l3Mate.l0 k x0 x5 (wrap64 (x6 + 1))))
end
def spec_l3Mate.f (k : Nat) (l0 : List Int) (a1 : Int) : Option (Int) := spec_l3Mate.l0 k l0 0 a1
theorem spec_l3Mate.mono_l : ∀ k, (∀ y0 y1 y2, LeO (spec_l3Mate.l0 k y0 y1 y2) (spec_l3Mate.l0 (k + 1) y0 y1 y2)) ∧ (∀ y0 y1 y2 y3, LeO (spec_l3Mate.j1 k y0 y1 y2 y3) (spec_l3Mate.j1 (k + 1) y0 y1 y2 y3))
 | 0 => ⟨fun _ _ _ r h => by simp [spec_l3Mate.l0] at h, fun _ _ _ _ r h => by simp [spec_l3Mate.j1] at h⟩
 | k + 1 => by
  obtain ⟨ih0, ih1⟩ := spec_l3Mate.mono_l k; refine ⟨?_, ?_⟩
  ·
   intro y0 y1 y2; unfold spec_l3Mate.l0
   repeat' first
   | (with_reducible exact ih0 _ _ _)
   | (with_reducible exact ih1 _ _ _ _)
   | (with_reducible exact spec_RuneBidi.mono _ _)
   | (with_reducible exact LeO.refl _)
   | (with_reducible exact LeO.none _)
   | (with_reducible refine LeO.ite ?_ ?_)
   | (with_reducible refine LeO.bind ?_ (fun _ => ?_))
   | exact ih0 _ _ _
   | exact ih1 _ _ _ _
   | exact spec_RuneBidi.mono _ _
   | exact LeO.none _
   | refine LeO.ite ?_ ?_
   | refine LeO.bind ?_ (fun _ => ?_)
  ·
   intro y0 y1 y2 y3; unfold spec_l3Mate.j1
   repeat' first
   | (with_reducible exact ih0 _ _ _)
   | (with_reducible exact ih1 _ _ _ _)
   | (with_reducible exact spec_RuneBidi.mono _ _)
   | (with_reducible exact LeO.refl _)
   | (with_reducible exact LeO.none _)
   | (with_reducible refine LeO.ite ?_ ?_)
   | (with_reducible refine LeO.bind ?_ (fun _ => ?_))
   | exact ih0 _ _ _
   | exact ih1 _ _ _ _
   | exact spec_RuneBidi.mono _ _
   | exact LeO.none _
   | refine LeO.ite ?_ ?_
   | refine LeO.bind ?_ (fun _ => ?_)
theorem spec_l3Mate.mono : ∀ a0 a1 k, LeO (spec_l3Mate.f k a0 a1) (spec_l3Mate.f (k + 1) a0 a1) := by
 intro a0 a1 k; obtain ⟨ih0, ih1⟩ := spec_l3Mate.mono_l k; unfold spec_l3Mate.f
 repeat' first
   | (with_reducible exact ih0 _ _ _)
   | (with_reducible exact ih1 _ _ _ _)
   | (with_reducible exact spec_RuneBidi.mono _ _)
   | (with_reducible exact LeO.refl _)
   | (with_reducible exact LeO.none _)
   | (with_reducible refine LeO.ite ?_ ?_)
   | (with_reducible refine LeO.bind ?_ (fun _ => ?_))
   | exact ih0 _ _ _
   | exact ih1 _ _ _ _
   | exact spec_RuneBidi.mono _ _
   | exact LeO.none _
   | refine LeO.ite ?_ ?_
   | refine LeO.bind ?_ (fun _ => ?_)
theorem spec_l3Mate.calls (k : Nat) (A0 : Option Addr) (c0 : Nat) (l0 : List Int) (a1 : Int) (r : Int) (w : World) (hr0 : Kd.C (Kd.int .i64) w A0 l0.length l0) (hc0 : l0.length ≤ c0) (h : spec_l3Mate.f k l0 a1 = some r) :
  Calls Try.prog 93 #[.slice A0 l0.length c0, .int .i64 a1] w fun e w' => e = .returned (.int .i64 r) ∧ Below w.heap.size w w' := by
 have HR0 := az hr0; have HC0 := az hc0; clear hr0 hc0; have HB := az (Below.refl w.heap.size w); have H : (spec_l3Mate.l0 k l0 0 a1) = some r := h; clear h; have H' := az H; clear H; go_enter Try.func93, Try.ntmps93; go_wp2; go_loopg [5, 6] k (fun kq v5 v6 w' => ∃ (x5_1 : Int) (x6_1 : Int), v5 = .int .i64 x5_1 ∧ v6 = .int .i64 x6_1 ∧ Aside0 (spec_l3Mate.l0 kq l0 x5_1 x6_1 = some r) ∧ Aside0 (kq ≤ k) ∧ Aside0 (Below w.heap.size w w'))
 case atStart => exact ⟨(0), (a1), (by first | rfl | (simp; done) | (simp [*]; done)), (by first | rfl | (simp; done) | (simp [*]; done)), H', ⟨Nat.le_refl _⟩, ⟨by repeat (first | (with_reducible first | exact HB.out | apply below_alloc | apply pw_below_drewN | apply below_drew1) | exact HB.out)⟩⟩
 case round =>
  clear H'; (try clear p2); obtain ⟨x5_1, x6_1, rfl, rfl, HA, HK1, HB⟩ := hrel
  cases gk with
  | zero => exact absurd HA.out (by simp [spec_l3Mate.l0])
  | succ k1 =>
   have H := HA.out; clear HA; simp only [spec_l3Mate.l0] at H; by_cases c3 : x6_1 < (l0.length : Int)
   ·
    rw [if_pos c3] at H; have c3b0 : decide (x6_1 < (l0.length : Int)) = true := decide_eq_true c3; clear c3; by_cases c4 : 0 ≤ x6_1
    ·
     rw [if_pos c4] at H; have c4b0 : decide (0 ≤ x6_1) = true := decide_eq_true c4; clear c4; replace H := Option.bind_eq_some_iff.mp H; obtain ⟨t313, A50, H⟩ := H; replace H : ((spec_l3Opens.f t313).bind fun t314 => (if t314 = true then (spec_l3Mate.j1 k1 l0 (wrap64 (x5_1 + 1)) x6_1 t313) else (spec_l3Mate.j1 k1 l0 x5_1 x6_1 t313))) = some r := H; have A5 := az A50; clear A50; replace H := Option.bind_eq_some_iff.mp H; obtain ⟨t314, A60, H⟩ := H; replace H : (if t314 = true then (spec_l3Mate.j1 k1 l0 (wrap64 (x5_1 + 1)) x6_1 t313) else (spec_l3Mate.j1 k1 l0 x5_1 x6_1 t313)) = some r := H; have A6 := az A60; clear A60; have HC7 := az H; clear H; have p312 : 0 ≤ (x6_1 : Int) := of_decide_eq_true (by assumption); have q312 : x6_1 < (l0.length : Int) := of_decide_eq_true (by assumption); obtain ⟨ad312, e312, hx312_0⟩ := Kd.at_int HR0.out x6_1 p312 q312
     cases e312
     replace hx312_0 := (HB.out.cell (World.block_lt_of_cell? w _ hx312_0)).trans hx312_0; replace p312 := eq_true p312; replace q312 := eq_true q312; go_upto_if 21 with (first | ((with_reducible refine gate_callee (f := 20) rfl ?_); refine goesL_ (some 19) rfl rfl Try.func20 (by kernel_rfl) rfl #[.int .i64 (rd l0 x6_1)] rfl (by (try simp only [List.map_toArray, List.map_cons, List.map_nil]); first | done | rfl) ?_; (with_reducible refine (spec_RuneBidi.calls k1 (rd l0 x6_1) t313 _ A5.out).mono ?_); rintro e w8 ⟨rfl, hb⟩; refine ⟨_, rfl, ?_⟩; have n0_ := az (below_step (by repeat (first | (with_reducible first | exact HB.out | apply below_alloc | apply pw_below_drewN | apply below_drew1) | exact HB.out)) hb); clear HB; have HB := n0_; clear n0_; (try clear hb); (try clear hb2); (try clear hk); (try clear hi)) | ((with_reducible refine gate_callee (f := 86) rfl ?_); refine goesL_ (some 21) rfl rfl Try.func86 (by kernel_rfl) rfl #[.int .i64 t313] rfl (by (try simp only [List.map_toArray, List.map_cons, List.map_nil]); first | done | rfl) ?_; (with_reducible refine (spec_l3Opens.calls t313 t314 _ A6.out).mono ?_); rintro e w' ⟨rfl, ⟨nd, rfl⟩⟩; refine ⟨_, rfl, ?_⟩))
     (try simp only [Act.put, List.setIfInBounds_toArray, List.set_cons_zero, List.set_cons_succ]); go_cut [5] (fun v5 wc => ∃ (kq : Nat) (x5_6 : Int), v5 = .int .i64 x5_6 ∧ Aside0 (spec_l3Mate.j1 kq l0 x5_6 x6_1 t313 = some r) ∧ Aside0 (kq ≤ k1) ∧ Aside0 (Below w.heap.size w wc))
     case first =>
      have H := HC7.out; clear HC7; by_cases c9 : t314 = true
      ·
       subst c9; have H1 : (spec_l3Mate.j1 k1 l0 (wrap64 (x5_1 + 1)) x6_1 t313) = some r := by rw [if_pos rfl] at H; exact H
       clear H; have H := H1; clear H1; have H' := az H; clear H; go_wp2; go_meet
       case rel => exact ⟨_, (wrap64 (x5_1 + 1)), (by first | rfl | (simp; done) | (simp [*]; done)), H', ⟨by have := HK1.out; first | omega | exact Nat.le_refl _⟩, ⟨by repeat (first | (with_reducible first | exact HB.out | apply below_alloc | apply pw_below_drewN | apply below_drew1) | exact HB.out)⟩⟩
      ·
       replace c9 := Bool.eq_false_iff.mpr c9; subst c9; have H1 : (spec_l3Mate.j1 k1 l0 x5_1 x6_1 t313) = some r := by rw [if_neg (show ¬ (false = true) by decide)] at H; exact H
       clear H; have H := H1; clear H1; have H' := az H; clear H; go_wp2; go_meet
       case rel => exact ⟨_, (x5_1), (by first | rfl | (simp; done) | (simp [*]; done)), H', ⟨by have := HK1.out; first | omega | exact Nat.le_refl _⟩, ⟨by repeat (first | (with_reducible first | exact HB.out | apply below_alloc | apply pw_below_drewN | apply below_drew1) | exact HB.out)⟩⟩
     case rest =>
      clear HC7; (try clear c2); (try clear p2); (try clear c3); (try clear c3b0); (try clear p3); (try clear q3); (try clear hx3); (try clear c4); (try clear c4b0); (try clear p6); (try clear c8); (try clear c9); (try clear hx312_0); (try clear p2); (try clear p312); (try clear q312); obtain ⟨kq, x5_6, rfl, HA, HJ6, HB⟩ := hcut
      cases kq with
      | zero => exact absurd HA.out (by simp [spec_l3Mate.j1])
      | succ kj6 =>
       have H := HA.out; clear HA; simp only [spec_l3Mate.j1] at H; by_cases c10 : t313 = 22
       ·
        rw [if_pos c10] at H; have c10b0 : (t313 == 22) = true := beq_iff_eq.mpr c10; have c10b1 : (t313 != 22) = false := bne_eq_false_iff_eq.mpr c10; clear c10; by_cases c11 : (wrap64 (x5_6 - 1)) = 0
        ·
         rw [if_pos c11] at H; have c11b0 : ((wrap64 (x5_6 - 1)) == 0) = true := beq_iff_eq.mpr c11; have c11b1 : ((wrap64 (x5_6 - 1)) != 0) = false := bne_eq_false_iff_eq.mpr c11; clear c11; obtain rfl := Option.some.inj H; go_wp2; go_ret; exact ⟨by first | rfl | (simp [errW_none, errW_some] <;> rfl) | (simp [*, errW_none, errW_some] <;> rfl), by repeat (first | (with_reducible first | exact HB.out | apply below_alloc | apply pw_below_drewN | apply below_drew1) | exact HB.out)⟩
        ·
         rw [if_neg c11] at H; have c11b0 : ((wrap64 (x5_6 - 1)) == 0) = false := beq_eq_false_iff_ne.mpr c11; have c11b1 : ((wrap64 (x5_6 - 1)) != 0) = true := bne_iff_ne.mpr c11; have H' := az H; clear H; go_wp2; go_roundg kj6
         case measure => have := HK1.out; have := HJ6.out; omega
         case rel => exact ⟨(wrap64 (x5_6 - 1)), (wrap64 (x6_1 + 1)), (by first | rfl | (simp; done) | (simp [*]; done)), (by first | rfl | (simp; done) | (simp [*]; done)), H', ⟨by have := HK1.out; have := HJ6.out; omega⟩, ⟨by repeat (first | (with_reducible first | exact HB.out | apply below_alloc | apply pw_below_drewN | apply below_drew1) | exact HB.out)⟩⟩
       ·
        rw [if_neg c10] at H; have c10b0 : (t313 == 22) = false := beq_eq_false_iff_ne.mpr c10; have c10b1 : (t313 != 22) = true := bne_iff_ne.mpr c10; by_cases c12 : x5_6 = 0
        ·
         rw [if_pos c12] at H; have c12b0 : (x5_6 == 0) = true := beq_iff_eq.mpr c12; have c12b1 : (x5_6 != 0) = false := bne_eq_false_iff_eq.mpr c12; clear c12; obtain rfl := Option.some.inj H; go_wp2; go_ret; exact ⟨by first | rfl | (simp [errW_none, errW_some] <;> rfl) | (simp [*, errW_none, errW_some] <;> rfl), by repeat (first | (with_reducible first | exact HB.out | apply below_alloc | apply pw_below_drewN | apply below_drew1) | exact HB.out)⟩
        ·
         rw [if_neg c12] at H; have c12b0 : (x5_6 == 0) = false := beq_eq_false_iff_ne.mpr c12; have c12b1 : (x5_6 != 0) = true := bne_iff_ne.mpr c12; have H' := az H; clear H; go_wp2; go_roundg kj6
         case measure => have := HK1.out; have := HJ6.out; omega
         case rel => exact ⟨(x5_6), (wrap64 (x6_1 + 1)), (by first | rfl | (simp; done) | (simp [*]; done)), (by first | rfl | (simp; done) | (simp [*]; done)), H', ⟨by have := HK1.out; have := HJ6.out; omega⟩, ⟨by repeat (first | (with_reducible first | exact HB.out | apply below_alloc | apply pw_below_drewN | apply below_drew1) | exact HB.out)⟩⟩
    ·
     rw [if_neg c4] at H; exact absurd H (by simp)
   ·
    rw [if_neg c3] at H; have c3b0 : decide (x6_1 < (l0.length : Int)) = false := decide_eq_false c3; clear c3; obtain rfl := Option.some.inj H; go_wp2; go_ret; exact ⟨by first | rfl | (simp [errW_none, errW_some] <;> rfl) | (simp [*, errW_none, errW_some] <;> rfl), by repeat (first | (with_reducible first | exact HB.out | apply below_alloc | apply pw_below_drewN | apply below_drew1) | exact HB.out)⟩
mutual
def spec_l3Base.l0 : Nat → List Int → Int → Int → Option (Int)
 | 0, _, _, _ => none
 | k + 1, x0, x2, x7 => if x7 < x2 then (if 0 ≤ x7 then (if x7 < (x0.length : Int) then ((spec_RuneBidi.f k (rd x0 x7)).bind fun t316 => (if t316 = 1 then (some 0) else (if t316 = 2 then (spec_l3Base.j1 k x0 x2 x7 t316 (t316 == 2)) else (spec_l3Base.j1 k x0 x2 x7 t316 (t316 == 3))))) else (none)) else (none)) else (some 0)
def spec_l3Base.j1 : Nat → List Int → Int → Int → Int → Bool → Option (Int)
 | 0, _, _, _, _, _ => none
 | k + 1, x0, x2, x7, x8, x23 => if x23 = true then (some 1) else ((spec_l3Opens.f x8).bind fun t317 => (if t317 = true then ((spec_l3Mate.f k x0 x7).bind fun t318 => (spec_l3Base.l0 k x0 x2 (wrap64 (t318 + 1)))) else (spec_l3Base.l0 k x0 x2 (wrap64 (x7 + 1)))))
end
def spec_l3Base.f (k : Nat) (l0 : List Int) (a1 : Int) (a2 : Int) : Option (Int) := spec_l3Base.l0 k l0 a2 a1
theorem spec_l3Base.mono_l : ∀ k, (∀ y0 y1 y2, LeO (spec_l3Base.l0 k y0 y1 y2) (spec_l3Base.l0 (k + 1) y0 y1 y2)) ∧ (∀ y0 y1 y2 y3 y4, LeO (spec_l3Base.j1 k y0 y1 y2 y3 y4) (spec_l3Base.j1 (k + 1) y0 y1 y2 y3 y4))
 | 0 => ⟨fun _ _ _ r h => by simp [spec_l3Base.l0] at h, fun _ _ _ _ _ r h => by simp [spec_l3Base.j1] at h⟩
 | k + 1 => by
  obtain ⟨ih0, ih1⟩ := spec_l3Base.mono_l k; refine ⟨?_, ?_⟩
  ·
   intro y0 y1 y2; unfold spec_l3Base.l0
   repeat' first
   | (with_reducible exact ih0 _ _ _)
   | (with_reducible exact ih1 _ _ _ _ _)
   | (with_reducible exact spec_RuneBidi.mono _ _)
   | (with_reducible exact spec_l3Mate.mono _ _ _)
   | (with_reducible exact LeO.refl _)
   | (with_reducible exact LeO.none _)
   | (with_reducible refine LeO.ite ?_ ?_)
   | (with_reducible refine LeO.bind ?_ (fun _ => ?_))
   | exact ih0 _ _ _
   | exact ih1 _ _ _ _ _
   | exact spec_RuneBidi.mono _ _
   | exact spec_l3Mate.mono _ _ _
   | exact LeO.none _
   | refine LeO.ite ?_ ?_
   | refine LeO.bind ?_ (fun _ => ?_)
  ·
   intro y0 y1 y2 y3 y4; unfold spec_l3Base.j1
   repeat' first
   | (with_reducible exact ih0 _ _ _)
   | (with_reducible exact ih1 _ _ _ _ _)
   | (with_reducible exact spec_RuneBidi.mono _ _)
   | (with_reducible exact spec_l3Mate.mono _ _ _)
   | (with_reducible exact LeO.refl _)
   | (with_reducible exact LeO.none _)
   | (with_reducible refine LeO.ite ?_ ?_)
   | (with_reducible refine LeO.bind ?_ (fun _ => ?_))
   | exact ih0 _ _ _
   | exact ih1 _ _ _ _ _
   | exact spec_RuneBidi.mono _ _
   | exact spec_l3Mate.mono _ _ _
   | exact LeO.none _
   | refine LeO.ite ?_ ?_
   | refine LeO.bind ?_ (fun _ => ?_)
theorem spec_l3Base.mono : ∀ a0 a1 a2 k, LeO (spec_l3Base.f k a0 a1 a2) (spec_l3Base.f (k + 1) a0 a1 a2) := by
 intro a0 a1 a2 k; obtain ⟨ih0, ih1⟩ := spec_l3Base.mono_l k; unfold spec_l3Base.f
 repeat' first
   | (with_reducible exact ih0 _ _ _)
   | (with_reducible exact ih1 _ _ _ _ _)
   | (with_reducible exact spec_RuneBidi.mono _ _)
   | (with_reducible exact spec_l3Mate.mono _ _ _)
   | (with_reducible exact LeO.refl _)
   | (with_reducible exact LeO.none _)
   | (with_reducible refine LeO.ite ?_ ?_)
   | (with_reducible refine LeO.bind ?_ (fun _ => ?_))
   | exact ih0 _ _ _
   | exact ih1 _ _ _ _ _
   | exact spec_RuneBidi.mono _ _
   | exact spec_l3Mate.mono _ _ _
   | exact LeO.none _
   | refine LeO.ite ?_ ?_
   | refine LeO.bind ?_ (fun _ => ?_)
theorem spec_l3Base.calls (k : Nat) (A0 : Option Addr) (c0 : Nat) (l0 : List Int) (a1 : Int) (a2 : Int) (r : Int) (w : World) (hr0 : Kd.C (Kd.int .i64) w A0 l0.length l0) (hc0 : l0.length ≤ c0) (h : spec_l3Base.f k l0 a1 a2 = some r) :
  Calls Try.prog 92 #[.slice A0 l0.length c0, .int .i64 a1, .int .i64 a2] w fun e w' => e = .returned (.int .i64 r) ∧ Below w.heap.size w w' := by
 have HR0 := az hr0; have HC0 := az hc0; clear hr0 hc0; have HB := az (Below.refl w.heap.size w); have H : (spec_l3Base.l0 k l0 a2 a1) = some r := h; clear h; have H' := az H; clear H; go_enter Try.func92, Try.ntmps92; go_wp2; go_loopg [7] k (fun kq v7 w' => ∃ (x7_1 : Int), v7 = .int .i64 x7_1 ∧ Aside0 (spec_l3Base.l0 kq l0 a2 x7_1 = some r) ∧ Aside0 (kq ≤ k) ∧ Aside0 (Below w.heap.size w w'))
 case atStart => exact ⟨(a1), (by first | rfl | (simp; done) | (simp [*]; done)), H', ⟨Nat.le_refl _⟩, ⟨by repeat (first | (with_reducible first | exact HB.out | apply below_alloc | apply pw_below_drewN | apply below_drew1) | exact HB.out)⟩⟩
 case round =>
  clear H'; (try clear p2); obtain ⟨x7_1, rfl, HA, HK1, HB⟩ := hrel
  cases gk with
  | zero => exact absurd HA.out (by simp [spec_l3Base.l0])
  | succ k1 =>
   have H := HA.out; clear HA; simp only [spec_l3Base.l0] at H; by_cases c4 : x7_1 < a2
   ·
    rw [if_pos c4] at H; have c4b0 : decide (x7_1 < a2) = true := decide_eq_true c4; clear c4; by_cases c5 : 0 ≤ x7_1
    ·
     rw [if_pos c5] at H; have c5b0 : decide (0 ≤ x7_1) = true := decide_eq_true c5; clear c5; by_cases c6 : x7_1 < (l0.length : Int)
     ·
      rw [if_pos c6] at H; have c6b0 : decide (x7_1 < (l0.length : Int)) = true := decide_eq_true c6; clear c6; replace H := Option.bind_eq_some_iff.mp H; obtain ⟨t316, A70, H⟩ := H; replace H : (if t316 = 1 then (some 0) else (if t316 = 2 then (spec_l3Base.j1 k1 l0 a2 x7_1 t316 (t316 == 2)) else (spec_l3Base.j1 k1 l0 a2 x7_1 t316 (t316 == 3)))) = some r := H; have A7 := az A70; clear A70; by_cases c8 : t316 = 1
      ·
       rw [if_pos c8] at H; have c8b0 : (t316 == 1) = true := beq_iff_eq.mpr c8; have c8b1 : (t316 != 1) = false := bne_eq_false_iff_eq.mpr c8; clear c8; obtain rfl := Option.some.inj H; have p315 : 0 ≤ (x7_1 : Int) := of_decide_eq_true (by assumption); have q315 : x7_1 < (l0.length : Int) := of_decide_eq_true (by assumption); obtain ⟨ad315, e315, hx315_0⟩ := Kd.at_int HR0.out x7_1 p315 q315
       cases e315
       replace hx315_0 := (HB.out.cell (World.block_lt_of_cell? w _ hx315_0)).trans hx315_0; replace p315 := eq_true p315; replace q315 := eq_true q315; go_wp2_with (first | ((with_reducible refine gate_callee (f := 20) rfl ?_); refine goesL_ (some 19) rfl rfl Try.func20 (by kernel_rfl) rfl #[.int .i64 (rd l0 x7_1)] rfl (by (try simp only [List.map_toArray, List.map_cons, List.map_nil]); first | done | rfl) ?_; (with_reducible refine (spec_RuneBidi.calls k1 (rd l0 x7_1) t316 _ A7.out).mono ?_); rintro e w9 ⟨rfl, hb⟩; refine ⟨_, rfl, ?_⟩; have n0_ := az (below_step (by repeat (first | (with_reducible first | exact HB.out | apply below_alloc | apply pw_below_drewN | apply below_drew1) | exact HB.out)) hb); clear HB; have HB := n0_; clear n0_; (try clear hb); (try clear hb2); (try clear hk); (try clear hi))); go_ret; exact ⟨by first | rfl | (simp [errW_none, errW_some] <;> rfl) | (simp [*, errW_none, errW_some] <;> rfl), by repeat (first | (with_reducible first | exact HB.out | apply below_alloc | apply pw_below_drewN | apply below_drew1) | exact HB.out)⟩
      ·
       rw [if_neg c8] at H; have c8b0 : (t316 == 1) = false := beq_eq_false_iff_ne.mpr c8; have c8b1 : (t316 != 1) = true := bne_iff_ne.mpr c8; have HC10 := az H; clear H; have p315 : 0 ≤ (x7_1 : Int) := of_decide_eq_true (by assumption); have q315 : x7_1 < (l0.length : Int) := of_decide_eq_true (by assumption); obtain ⟨ad315, e315, hx315_0⟩ := Kd.at_int HR0.out x7_1 p315 q315
       cases e315
       replace hx315_0 := (HB.out.cell (World.block_lt_of_cell? w _ hx315_0)).trans hx315_0; replace p315 := eq_true p315; replace q315 := eq_true q315; go_upto_if 23 with (first | ((with_reducible refine gate_callee (f := 20) rfl ?_); refine goesL_ (some 19) rfl rfl Try.func20 (by kernel_rfl) rfl #[.int .i64 (rd l0 x7_1)] rfl (by (try simp only [List.map_toArray, List.map_cons, List.map_nil]); first | done | rfl) ?_; (with_reducible refine (spec_RuneBidi.calls k1 (rd l0 x7_1) t316 _ A7.out).mono ?_); rintro e w11 ⟨rfl, hb⟩; refine ⟨_, rfl, ?_⟩; have n0_ := az (below_step (by repeat (first | (with_reducible first | exact HB.out | apply below_alloc | apply pw_below_drewN | apply below_drew1) | exact HB.out)) hb); clear HB; have HB := n0_; clear n0_; (try clear hb); (try clear hb2); (try clear hk); (try clear hi)))
       (try simp only [Act.put, List.setIfInBounds_toArray, List.set_cons_zero, List.set_cons_succ]); go_cut [23] (fun v23 wc => ∃ (kq : Nat) (x23_9 : Bool), v23 = .bool x23_9 ∧ Aside0 (spec_l3Base.j1 kq l0 a2 x7_1 t316 x23_9 = some r) ∧ Aside0 (kq ≤ k1) ∧ Aside0 (Below w.heap.size w wc))
       case first =>
        have H := HC10.out; clear HC10; by_cases c12 : t316 = 2
        ·
         rw [if_pos c12] at H; have c12b0 : (t316 == 2) = true := beq_iff_eq.mpr c12; have c12b1 : (t316 != 2) = false := bne_eq_false_iff_eq.mpr c12; clear c12; (first | rw [c12b0] | (simp only [i64_w, i32_w]; rw [c12b0]) | skip); have H' := az H; clear H; go_wp2; go_meet
         case rel => exact ⟨_, ((t316 == 2)), (by first | rfl | (simp; done) | (simp [*]; done)), H', ⟨by have := HK1.out; first | omega | exact Nat.le_refl _⟩, ⟨by repeat (first | (with_reducible first | exact HB.out | apply below_alloc | apply pw_below_drewN | apply below_drew1) | exact HB.out)⟩⟩
        ·
         rw [if_neg c12] at H; have c12b0 : (t316 == 2) = false := beq_eq_false_iff_ne.mpr c12; have c12b1 : (t316 != 2) = true := bne_iff_ne.mpr c12; (first | rw [c12b0] | (simp only [i64_w, i32_w]; rw [c12b0]) | skip); have H' := az H; clear H; go_wp2; go_meet
         case rel => exact ⟨_, ((t316 == 3)), (by first | rfl | (simp; done) | (simp [*]; done)), H', ⟨by have := HK1.out; first | omega | exact Nat.le_refl _⟩, ⟨by repeat (first | (with_reducible first | exact HB.out | apply below_alloc | apply pw_below_drewN | apply below_drew1) | exact HB.out)⟩⟩
       case rest =>
        clear HC10; (try clear c1); (try clear c2); (try clear p2); (try clear p3); (try clear q3); (try clear hx3); (try clear c4); (try clear c4b0); (try clear c5); (try clear c5b0); (try clear c6); (try clear c6b0); (try clear c8); (try clear c8b0); (try clear c8b1); (try clear c9); (try clear c12); (try clear c12b0); (try clear c12b1); (try clear hx315_0); (try clear p2); (try clear p315); (try clear q315); obtain ⟨kq, x23_9, rfl, HA, HJ9, HB⟩ := hcut
        cases kq with
        | zero => exact absurd HA.out (by simp [spec_l3Base.j1])
        | succ kj9 =>
         have H := HA.out; clear HA; simp only [spec_l3Base.j1] at H; by_cases c13 : x23_9 = true
         ·
          subst c13; have H1 : (some 1) = some r := by rw [if_pos rfl] at H; exact H
          clear H; have H := H1; clear H1; obtain rfl := Option.some.inj H; go_wp2; go_ret; exact ⟨by first | rfl | (simp [errW_none, errW_some] <;> rfl) | (simp [*, errW_none, errW_some] <;> rfl), by repeat (first | (with_reducible first | exact HB.out | apply below_alloc | apply pw_below_drewN | apply below_drew1) | exact HB.out)⟩
         ·
          replace c13 := Bool.eq_false_iff.mpr c13; subst c13; have H1 : ((spec_l3Opens.f t316).bind fun t317 => (if t317 = true then ((spec_l3Mate.f kj9 l0 x7_1).bind fun t318 => (spec_l3Base.l0 kj9 l0 a2 (wrap64 (t318 + 1)))) else (spec_l3Base.l0 kj9 l0 a2 (wrap64 (x7_1 + 1))))) = some r := by rw [if_neg (show ¬ (false = true) by decide)] at H; exact H
          clear H; have H := H1; clear H1; replace H := Option.bind_eq_some_iff.mp H; obtain ⟨t317, A140, H⟩ := H; replace H : (if t317 = true then ((spec_l3Mate.f kj9 l0 x7_1).bind fun t318 => (spec_l3Base.l0 kj9 l0 a2 (wrap64 (t318 + 1)))) else (spec_l3Base.l0 kj9 l0 a2 (wrap64 (x7_1 + 1)))) = some r := H; have A14 := az A140; clear A140; by_cases c15 : t317 = true
          ·
           subst c15; have H1 : ((spec_l3Mate.f kj9 l0 x7_1).bind fun t318 => (spec_l3Base.l0 kj9 l0 a2 (wrap64 (t318 + 1)))) = some r := by rw [if_pos rfl] at H; exact H
           clear H; have H := H1; clear H1; replace H := Option.bind_eq_some_iff.mp H; obtain ⟨t318, A160, H⟩ := H; replace H : (spec_l3Base.l0 kj9 l0 a2 (wrap64 (t318 + 1))) = some r := H; have A16 := az A160; clear A160; have H' := az H; clear H; go_wp2_with (first | ((with_reducible refine gate_callee (f := 86) rfl ?_); refine goesL_ (some 30) rfl rfl Try.func86 (by kernel_rfl) rfl #[.int .i64 t316] rfl (by (try simp only [List.map_toArray, List.map_cons, List.map_nil]); first | done | rfl) ?_; (with_reducible refine (spec_l3Opens.calls t316 true _ A14.out).mono ?_); rintro e w' ⟨rfl, ⟨nd, rfl⟩⟩; refine ⟨_, rfl, ?_⟩) | ((with_reducible refine gate_callee (f := 93) rfl ?_); refine goesL_ (some 33) rfl rfl Try.func93 (by kernel_rfl) rfl #[.slice (some ad315) l0.length c0, .int .i64 x7_1] rfl (by (try simp only [List.map_toArray, List.map_cons, List.map_nil]); first | done | rfl) ?_; (with_reducible refine (spec_l3Mate.calls kj9 _ _ l0 x7_1 t318 _ ?side1 ?side2 A16.out).mono ?_); (case side1 => repeat (first | exact (Kd.C_below HR0.out (by repeat (first | (with_reducible first | exact HB.out | apply below_alloc | apply pw_below_drewN | apply below_drew1) | exact HB.out))) | (with_reducible refine Kd.C_alloc ?_ _) | (with_reducible refine Kd.C_drewN ?_ _) | (with_reducible refine Kd.C_drew ?_))); (case side2 => exact HC0.out); rintro e w17 ⟨rfl, hb⟩; refine ⟨_, rfl, ?_⟩; have n0_ := az (below_step (by repeat (first | (with_reducible first | exact HB.out | apply below_alloc | apply pw_below_drewN | apply below_drew1) | exact HB.out)) hb); clear HB; have HB := n0_; clear n0_; (try clear hb); (try clear hb2); (try clear hk); (try clear hi))); go_roundg kj9
           case measure => have := HK1.out; have := HJ9.out; omega
           case rel => exact ⟨(wrap64 (t318 + 1)), (by first | rfl | (simp; done) | (simp [*]; done)), H', ⟨by have := HK1.out; have := HJ9.out; omega⟩, ⟨by repeat (first | (with_reducible first | exact HB.out | apply below_alloc | apply pw_below_drewN | apply below_drew1) | exact HB.out)⟩⟩
          ·
           replace c15 := Bool.eq_false_iff.mpr c15; subst c15; have H1 : (spec_l3Base.l0 kj9 l0 a2 (wrap64 (x7_1 + 1))) = some r := by rw [if_neg (show ¬ (false = true) by decide)] at H; exact H
           clear H; have H := H1; clear H1; have H' := az H; clear H; go_wp2_with (first | ((with_reducible refine gate_callee (f := 86) rfl ?_); refine goesL_ (some 30) rfl rfl Try.func86 (by kernel_rfl) rfl #[.int .i64 t316] rfl (by (try simp only [List.map_toArray, List.map_cons, List.map_nil]); first | done | rfl) ?_; (with_reducible refine (spec_l3Opens.calls t316 false _ A14.out).mono ?_); rintro e w' ⟨rfl, ⟨nd, rfl⟩⟩; refine ⟨_, rfl, ?_⟩)); go_roundg kj9
           case measure => have := HK1.out; have := HJ9.out; omega
           case rel => exact ⟨(wrap64 (x7_1 + 1)), (by first | rfl | (simp; done) | (simp [*]; done)), H', ⟨by have := HK1.out; have := HJ9.out; omega⟩, ⟨by repeat (first | (with_reducible first | exact HB.out | apply below_alloc | apply pw_below_drewN | apply below_drew1) | exact HB.out)⟩⟩
     ·
      rw [if_neg c6] at H; exact absurd H (by simp)
    ·
     rw [if_neg c5] at H; exact absurd H (by simp)
   ·
    rw [if_neg c4] at H; have c4b0 : decide (x7_1 < a2) = false := decide_eq_false c4; clear c4; obtain rfl := Option.some.inj H; go_wp2; go_ret; exact ⟨by first | rfl | (simp [errW_none, errW_some] <;> rfl) | (simp [*, errW_none, errW_some] <;> rfl), by repeat (first | (with_reducible first | exact HB.out | apply below_alloc | apply pw_below_drewN | apply below_drew1) | exact HB.out)⟩
theorem IsWk.put2 {w0 w : World} {gb c n : Nat} {A : Option Addr} {s : WkS} {vl vc vs : Value} {a4 a5 a6 : Int} (h1 : w.heap[gb]? = some (.cells #[.slice A n c, vl, vc, vs, .int .i64 a4, .int .i64 a5, .int .i64 a6] 53 (0, 0))) (hL : Kd.R (Kd.int .i64) 3 w w0.heap.size (fun k => some k ≠ vc.ownBlock) vl s.lv) (hC : Kd.R (Kd.int .i64) 3 w w0.heap.size (fun k => some k ≠ vl.ownBlock) vc s.cl)
  (hbg : w0.heap.size ≤ gb) (hB : Below w0.heap.size w0 w) (m j : Nat) (u : Value) (j2 : Nat) (u2 vs' : Value) (hS : Kd.R k74 74 w w0.heap.size (fun _ => True) vs' s.st) (hj : ((#[.slice A n c, vl, vc, vs, .int .i64 a4, .int .i64 a5, .int .i64 a6] : Array Value).setIfInBounds j u).setIfInBounds j2 u2 = #[.slice A n c, vl, vc, vs', .int .i64 s.lost, .int .i64 s.sk, .int .i64 s.al]) :
  IsWk (((w.drewN m).setCell ⟨gb, j, none⟩ u).setCell ⟨gb, j2, none⟩ u2) w0.heap.size gb A c n s ∧ Below w0.heap.size w0 (((w.drewN m).setCell ⟨gb, j, none⟩ u).setCell ⟨gb, j2, none⟩ u2) := by
 have h1' : (w.drewN m).heap[gb]? = some (.cells #[.slice A n c, vl, vc, vs, .int .i64 a4, .int .i64 a5, .int .i64 a6] 53 (0, 0)) := h1
 have h2 := blk_set h1' j u
 have h3 := blk_set h2 j2 u2
 rw [hj] at h3
 exact ⟨⟨vl, vc, vs', h3, Kd.R_set (Kd.R_set (Kd.R_drewN hL m) h1' (by decide) j _) h2 (by decide) j2 _, Kd.R_set (Kd.R_set (Kd.R_drewN hC m) h1' (by decide) j _) h2 (by decide) j2 _, Kd.R_set (Kd.R_set (Kd.R_drewN hS m) h1' (by decide) j _) h2 (by decide) j2 _, hbg⟩, ((pw_below_drewN hB m).setCell (p := ⟨gb, j, none⟩) hbg _).setCell (p := ⟨gb, j2, none⟩) hbg _⟩
theorem ends_calls (w0 w : World) (gb : Nat) (A : Option Addr) (c n : Nat) (s : WkS) (hB : Below w0.heap.size w0 w) (hs : IsWk w w0.heap.size gb A c n s) (hw : Wb s) (ha : s.al ≠ 0 → ∃ j, j < s.st.length ∧ (s.st.getD j z74).f2 = true) :
  Calls Try.prog 94 #[.pointer (some ⟨gb, 0, none⟩)] w fun e w' => e = .returned (.tuple #[]) ∧ IsWk w' w0.heap.size gb A c n (endsS s) ∧ Below w0.heap.size w0 w' := by
 obtain ⟨vl, vc, vs, h1, hL, hC, hS, hbg⟩ := hs
 obtain ⟨As, cs, hvs, hlcs, hSC⟩ := Kd.R_reads hS
 subst hvs
 obtain ⟨b1, b2, b3, b4, b5, b6, b7, b8⟩ := hw
 have hc3 := (blk_cell h1 3).trans (show (#[.slice A n c, vl, vc, .slice As s.st.length cs, .int .i64 s.lost, .int .i64 s.sk, .int .i64 s.al] : Array Value)[3]? = some (.slice As s.st.length cs) from rfl)
 have hc4 := (blk_cell h1 4).trans (show (#[.slice A n c, vl, vc, .slice As s.st.length cs, .int .i64 s.lost, .int .i64 s.sk, .int .i64 s.al] : Array Value)[4]? = some (.int .i64 s.lost) from rfl)
 have hc5 := (blk_cell h1 5).trans (show (#[.slice A n c, vl, vc, .slice As s.st.length cs, .int .i64 s.lost, .int .i64 s.sk, .int .i64 s.al] : Array Value)[5]? = some (.int .i64 s.sk) from rfl)
 have hc6 := (blk_cell h1 6).trans (show (#[.slice A n c, vl, vc, .slice As s.st.length cs, .int .i64 s.lost, .int .i64 s.sk, .int .i64 s.al] : Array Value)[6]? = some (.int .i64 s.al) from rfl)
 obtain ⟨ad, e1, y0, y1, y2⟩ := at_T74 hSC ((s.st.length - 1 : Nat) : Int) (by omega) (by omega)
 subst e1
 rw [Int.toNat_natCast] at y0 y1 y2
 have hrd : rd_T74 s.st ((s.st.length - 1 : Nat) : Int) = s.top := by simp only [rd_T74, Int.toNat_natCast, WkS.top]
 rw [hrd] at y0 y1 y2
 clear hrd
 have hf3 := blk_frozen h1 3
 have hf4 := blk_frozen h1 4
 have hf5 := blk_frozen h1 5
 have hf6 := blk_frozen h1 6
 have hw1 : IntKind.i64.wrap ((s.st.length : Int) - 1) = (s.st.length : Int) - 1 := IntWalk.i64_in _ (by omega)
 have hw2 : ((s.st.length : Int) - 1).toNat = s.st.length - 1 := by omega
 have hw3 : 0 ≤ (s.st.length : Int) - 1 := by omega
 have hw4 : (s.st.length : Int) - 1 < (s.st.length : Int) := by omega
 have hw5 : (s.st.length : Int) - 1 ≤ (s.st.length : Int) := by omega
 have H1 := az h1
 have HL := az hL
 have HC := az hC
 have HS := az hS
 have HB := az hB
 have HG := az hbg
 have HLC := az hlcs
 clear h1 hL hC hS hB hbg hSC hlcs
 have HA := az ha
 clear ha y0 y1 y2
 unfold endsS
 by_cases c1 : 0 < s.lost
 ·
  rw [if_pos c1]
  have c1b : decide (0 < s.lost) = true := decide_eq_true c1
  clear c1
  go_enter Try.func94, Try.ntmps94
  go_wp2
  ((try simp only [Exit.inBlock, Exit.then]); refine bodyPost_ret (results_none rfl _ _ _) rfl ?_)
  exact ⟨rfl, IsWk.put (s := { s with lost := s.lost - 1 }) H1.out HL.out HC.out HG.out HB.out 0 4 (.int .i64 (s.lost - 1)) _ HS.out (by simp)⟩
 ·
  rw [if_neg c1]
  have c1b : decide (0 < s.lost) = false := decide_eq_false c1
  clear c1
  by_cases c2 : s.al = 0
  ·
   rw [if_pos c2]
   have c2b : (s.al == 0) = true := beq_iff_eq.mpr c2
   clear c2
   go_enter Try.func94, Try.ntmps94
   go_wp2
   ((try simp only [Exit.inBlock, Exit.then]); refine bodyPost_ret (results_none rfl _ _ _) rfl ?_)
   exact ⟨rfl, IsWk.same H1.out HL.out HC.out HG.out HB.out 0 HS.out⟩
  ·
   rw [if_neg c2]
   have c2b : (s.al == 0) = false := beq_eq_false_iff_ne.mpr c2
   have HX := az (HA.out c2)
   have HWB := az (show 0 ≤ s.lost ∧ s.lost ≤ 1000 ∧ 1 ≤ s.al ∧ s.al ≤ 1000 ∧ s.st.length ≤ 1000 by omega)
   clear c2
   go_enter Try.func94, Try.ntmps94
   go_wp2
   clear hc3 hc4 hc5 hc6 hf3 hf4 hf5 hf6 hw1 hw2 hw3 hw4 hw5 c1b c2b
   go_loopg [23] s.st.length (fun gg _ wr => ∃ m : Nat, Aside0 (1 ≤ m ∧ m ≤ s.st.length) ∧ m ≤ gg ∧ Aside0 (popA s.st m = popA s.st s.st.length) ∧ Aside0 (∃ j, j < m ∧ (s.st.getD j z74).f2 = true) ∧ Aside0 (IsWk wr w0.heap.size gb A c n { s with sk := 0, st := s.st.take m }) ∧ Aside0 (Below w0.heap.size w0 wr))
   case atStart =>
    have h := IsWk.put (s := { s with sk := 0, st := s.st.take s.st.length }) H1.out HL.out HC.out HG.out HB.out 0 5 (.int .i64 0) _ (by rw [List.take_length]; exact HS.out) (by simp)
    exact ⟨s.st.length, ⟨b7, Nat.le_refl _⟩, Nat.le_refl _, ⟨rfl⟩, HX, ⟨h.1⟩, ⟨h.2⟩⟩
   case round =>
    clear H1 HL HC HS HB HX
    obtain ⟨m, HM, hmg, HP, HX, HS1, HB⟩ := hrel
    obtain ⟨s1, hs1⟩ : ∃ s1 : WkS, s1 = { s with sk := 0, st := s.st.take m } := ⟨_, rfl⟩
    rw [← hs1] at HS1
    have HW1 := az (show Wb s1 by
     have a1 := HWB.out
     have a2 := HM.out
     rw [hs1]
     refine ⟨?_, ?_, ?_, ?_, ?_, ?_, ?_, ?_⟩ <;> simp only [List.length_take] <;> omega)
    have HSL := az (show s1.st.length = m by have a2 := HM.out; rw [hs1]; simp only [List.length_take]; omega)
    have HTP := az (show s1.top = s.st.getD (m - 1) z74 by
     have a2 := HM.out
     unfold WkS.top
     rw [HSL.out, hs1]
     simp only [List.getD_eq_getElem?_getD]
     rw [List.getElem?_take, if_pos (by omega)])
    have HE1 := az hs1
    have hm1 := HM.out
    clear hs1 b1 b2 b3 b4 b5 b6 b7 b8
    obtain ⟨vl, vc, vs, h1, hL, hC, hS, hbg⟩ := HS1.out
    obtain ⟨As, cs, hvs, hlcs, hSC⟩ := Kd.R_reads hS
    subst hvs
    obtain ⟨b1, b2, b3, b4, b5, b6, b7, b8⟩ := HW1.out
    have hc3 := (blk_cell h1 3).trans (show (#[.slice A n c, vl, vc, .slice As s1.st.length cs, .int .i64 s1.lost, .int .i64 s1.sk, .int .i64 s1.al] : Array Value)[3]? = some (.slice As s1.st.length cs) from rfl)
    have hc4 := (blk_cell h1 4).trans (show (#[.slice A n c, vl, vc, .slice As s1.st.length cs, .int .i64 s1.lost, .int .i64 s1.sk, .int .i64 s1.al] : Array Value)[4]? = some (.int .i64 s1.lost) from rfl)
    have hc5 := (blk_cell h1 5).trans (show (#[.slice A n c, vl, vc, .slice As s1.st.length cs, .int .i64 s1.lost, .int .i64 s1.sk, .int .i64 s1.al] : Array Value)[5]? = some (.int .i64 s1.sk) from rfl)
    have hc6 := (blk_cell h1 6).trans (show (#[.slice A n c, vl, vc, .slice As s1.st.length cs, .int .i64 s1.lost, .int .i64 s1.sk, .int .i64 s1.al] : Array Value)[6]? = some (.int .i64 s1.al) from rfl)
    obtain ⟨ad, e1, y0, y1, y2⟩ := at_T74 hSC ((s1.st.length - 1 : Nat) : Int) (by omega) (by omega)
    subst e1
    rw [Int.toNat_natCast] at y0 y1 y2
    have hrd : rd_T74 s1.st ((s1.st.length - 1 : Nat) : Int) = s1.top := by simp only [rd_T74, Int.toNat_natCast, WkS.top]
    rw [hrd] at y0 y1 y2
    clear hrd
    have hf3 := blk_frozen h1 3
    have hf4 := blk_frozen h1 4
    have hf5 := blk_frozen h1 5
    have hf6 := blk_frozen h1 6
    have hw1 : IntKind.i64.wrap ((s1.st.length : Int) - 1) = (s1.st.length : Int) - 1 := IntWalk.i64_in _ (by omega)
    have hw2 : ((s1.st.length : Int) - 1).toNat = s1.st.length - 1 := by omega
    have hw3 : 0 ≤ (s1.st.length : Int) - 1 := by omega
    have hw4 : (s1.st.length : Int) - 1 < (s1.st.length : Int) := by omega
    have hw5 : (s1.st.length : Int) - 1 ≤ (s1.st.length : Int) := by omega
    have H1 := az h1
    have HL := az hL
    have HC := az hC
    have HS := az hS
    have HG := az hbg
    have HLC := az hlcs
    clear h1 hL hC hS hbg hSC hlcs
    obtain ⟨tp, htp⟩ : ∃ tp, s1.top = tp := ⟨_, rfl⟩
    rw [htp] at y0 y1 y2
    rw [htp] at HTP
    have hsl := HSL.out
    have hcut : ∀ W : World, (Instr.slice 51 (.slice (some ad) s1.st.length cs) none (some (.int .i64 ((s1.st.length : Int) - 1))) none).run Try.prog W = .ok (.slice (some ad) (s1.st.length - 1) cs) W := by
     intro W
     obtain ⟨i0, hi0, _, _, _⟩ := info_parts infoT
     have h := cut_to (P := Try.prog) 51 74 .i64 Try.underlying51 hi0 (some ad) s1.st.length cs ((s1.st.length : Int) - 1) (by omega) (by omega) HLC.out W
     rwa [show ((s1.st.length : Int) - 1).toNat = s1.st.length - 1 by omega] at h
    have HTk := az (Kd.R_take (m := s1.st.length - 1) HS.out (by omega))
    have HST := az (show s1.st = s.st.take m by rw [HE1.out])
    clear htp hsl hm1
    cases h2 : tp.f2 with
    | false =>
     rw [h2] at y2
     have HM2 := az (show 2 ≤ m by
      obtain ⟨j, hj, hj2⟩ := HX.out
      by_cases e : j = m - 1
      · rw [e, ← HTP.out, h2] at hj2; cases hj2
      · omega)
     have H2 := az h2
     clear h2
     go_wp2
     go_quiet (fail)
     go_wp2
     go_region
     go_wp2
     go_roundg (m - 1)
     case measure => have a := HM2.out; omega
     case rel =>
      have a := HM2.out
      have a3 := HM.out
      have hS' : Kd.R k74 74 wr w0.heap.size (fun _ => True) (.slice (some ad) (s1.st.length - 1) cs) (s.st.take (m - 1)) := by
       have h := HTk.out
       rw [HST.out, List.take_take] at h
       rw [HST.out]
       rw [show min ((s.st.take m).length - 1) m = m - 1 by rw [List.length_take]; omega] at h
       exact h
      have h := IsWk.put (s := { s with sk := 0, st := s.st.take (m - 1) }) H1.out (by rw [HE1.out] at HL; exact HL.out) (by rw [HE1.out] at HC; exact HC.out) HG.out HB.out (nq + 1) 3 (.slice (some ad) (s1.st.length - 1) cs) _ hS' (by rw [HE1.out]; simp)
      refine ⟨m - 1, ⟨by omega, by omega⟩, Nat.le_refl _, ⟨?_⟩, ⟨?_⟩, ⟨h.1⟩, ⟨h.2⟩⟩
      · rw [← HP.out, show m = (m - 1) + 1 by omega, popA, ← HTP.out, H2.out]; rfl
      ·
       obtain ⟨j, hj, hj2⟩ := HX.out
       refine ⟨j, ?_, hj2⟩
       by_cases e : j = m - 1
       · rw [e, ← HTP.out, H2.out] at hj2; cases hj2
       · omega
    | true =>
     rw [h2] at y2
     have H2 := az h2
     clear h2
     go_wp2
     go_quiet (fail)
     go_wp2
     go_region
     go_wp2
     go_end0
     have h := IsWk.put2 (s := { s with sk := 0, st := popA s.st s.st.length, al := s.al - 1 }) H1.out (by rw [HE1.out] at HL; exact HL.out) (by rw [HE1.out] at HC; exact HC.out) HG.out HB.out (nq + 1) 3 (.slice (some ad) (s1.st.length - 1) cs) 6 (.int .i64 (s1.al - 1)) (.slice (some ad) (s1.st.length - 1) cs) (by
      have a := HM.out
      have h := HTk.out
      rw [HST.out, List.take_take] at h
      rw [HST.out]
      rw [show min ((s.st.take m).length - 1) m = m - 1 by rw [List.length_take]; omega] at h
      show Kd.R k74 74 wr w0.heap.size (fun _ => True) _ (popA s.st s.st.length)
      rw [← HP.out, show m = (m - 1) + 1 by omega, popA, ← HTP.out, H2.out, if_pos rfl]
      rw [show m - 1 + 1 = m by omega]
      exact h) (by rw [HE1.out]; simp)
     exact ⟨rfl, h⟩
def letterF (k : Nat) (rs : List Int) (i : Nat) (s : WkS) : Option WkS :=
 (spec_RuneBidi.f k (rs.getD i 0)).bind fun c =>
  if c = 15 then some (pushS true 0 false s) else if c = 14 then some (pushS false 0 false s) else if c = 18 then some (pushS true 2 false s) else if c = 17 then some (pushS false 1 false s)
  else if c = 16 then some (dropsS s) else if c = 10 then some s else if c = 20 then some (pushS true 0 true (hereS i 20 s)) else if c = 19 then some (pushS false 0 true (hereS i 19 s))
  else if c = 21 then (spec_l3Mate.f k rs i).bind fun m => (spec_l3Base.f k rs ((i : Int) + 1) m).bind fun b => some (pushS (b == 1) 0 true (hereS i 21 s))
  else if c = 22 then some (hereS i 22 (endsS s)) else some (hereS i c s)
theorem IsWk.cell0 {w : World} {base gb c n : Nat} {A : Option Addr} {s : WkS} (h : IsWk w base gb A c n s) : w.cell? ⟨gb, 0, none⟩ = some (.slice A n c) := by
 obtain ⟨vl, vc, vs, h1, _⟩ := h
 exact (blk_cell h1 0).trans rfl
def SL (w0 : World) (gb : Nat) (A : Option Addr) (c n : Nat) (s : WkS) (W : World) : Prop := IsWk W w0.heap.size gb A c n s ∧ Below w0.heap.size w0 W
theorem keepB {w0 W W' : World} {gb c n : Nat} {A : Option Addr} {s : WkS} (h : W.cell? ⟨gb, 0, none⟩ = some (.slice A n c) ∧ Aside0 (SL w0 gb A c n s W)) (hb : Below W.heap.size W W') : W'.cell? ⟨gb, 0, none⟩ = some (.slice A n c) ∧ Aside0 (SL w0 gb A c n s W') :=
 ⟨(h.2.out.1.below hb).cell0, ⟨h.2.out.1.below hb, below_then h.2.out.2 h.2.out.2.size hb⟩⟩
theorem keepO {w0 W : World} {gb c n : Nat} {A : Option Addr} {s : WkS} (h : W.cell? ⟨gb, 0, none⟩ = some (.slice A n c) ∧ Aside0 (SL w0 gb A c n s W)) : Below w0.heap.size w0 W := h.2.out.2
theorem keepD {w0 W : World} {gb c n : Nat} {A : Option Addr} {s : WkS} (h : W.cell? ⟨gb, 0, none⟩ = some (.slice A n c) ∧ Aside0 (SL w0 gb A c n s W)) : W.drew.cell? ⟨gb, 0, none⟩ = some (.slice A n c) ∧ Aside0 (SL w0 gb A c n s W.drew) := keepB h (below_drew (Below.refl _ _))
theorem pushS_lens (r : Bool) (d : Int) (a : Bool) (s : WkS) : (pushS r d a s).lv = s.lv ∧ (pushS r d a s).cl = s.cl := by
 unfold pushS
 repeat' split
 all_goals exact ⟨rfl, rfl⟩
theorem endsS_lens (s : WkS) : (endsS s).lv = s.lv ∧ (endsS s).cl = s.cl := by
 unfold endsS
 repeat' split
 all_goals exact ⟨rfl, rfl⟩
theorem letter_calls (k : Nat) (w0 w : World) (gb : Nat) (A : Option Addr) (c : Nat) (rs : List Int) (s s' : WkS) (i : Nat) (hB : Below w0.heap.size w0 w) (hs : IsWk w w0.heap.size gb A c rs.length s) (hw : Wb s) (hw2 : Wb (endsS s)) (ha : s.al ≠ 0 → ∃ j, j < s.st.length ∧ (s.st.getD j z74).f2 = true)
  (hr : Kd.C (Kd.int .i64) w0 A rs.length rs) (hrc : rs.length ≤ c) (hi : i < rs.length) (hi1 : i < 1000) (hl : s.lv.length = rs.length) (hcl : s.cl.length = rs.length) (h : letterF k rs i s = some s') :
  Calls Try.prog 72 #[.pointer (some ⟨gb, 0, none⟩), .int .i64 i] w fun e w' => e = .returned (.tuple #[]) ∧ IsWk w' w0.heap.size gb A c rs.length s' ∧ Below w0.heap.size w0 w' := by
 unfold letterF at h
 obtain ⟨cc, hcc, h⟩ := Option.bind_eq_some_iff.mp h
 obtain ⟨ad, e1, hx⟩ := Kd.at_int (Kd.C_below hr hB) (i : Int) (by omega) (by omega)
 subst e1
 rw [Int.toNat_natCast, show rd rs (i : Int) = rs.getD i 0 by simp [rd]] at hx
 generalize hy : rs.getD i 0 = y at hx hcc
 have hc0 := hs.cell0
 have hltz : (i : Int) < (rs.length : Int) := by omega
 have HCC := az hcc
 have HS := az hs
 have HB := az hB
 have HW := az hw
 have HW2 := az hw2
 have HA := az ha
 have HR := az hr
 have HRC := az hrc
 have HI := az (show i < s.lv.length ∧ i < s.cl.length ∧ i < 1000 by omega)
 have HN := az hi
 clear hcc hs hB hw hw2 ha hr hrc hl hcl hi hy
 by_cases q15 : cc = 15
 ·
  subst q15
  rw [if_pos rfl] at h
  obtain rfl := Option.some.inj h
  clear h
  go_enter Try.func72, Try.ntmps72
  go_wp2_with (first | (go_at_call 20; refine (spec_RuneBidi.calls k y 15 _ HCC.out).mono ?_; rintro e w1 ⟨rfl, hb⟩; have n0 := az (HS.out.below hb); have n1 := az (below_then HB.out HB.out.size hb); have hc0 := n0.out.cell0; clear HS HB hb; have HS := n0; have HB := n1; clear n0 n1) | (go_at_call 89; refine (push_calls w0 _ gb _ c rs.length s true 0 false HB.out HS.out HW.out).mono ?_; rintro e w2 ⟨rfl, hs2, hb2⟩; have n0 := az hs2; have n1 := az hb2; clear HS HB hs2 hb2; have HS := n0; have HB := n1; clear n0 n1))
  go_end0
  exact ⟨rfl, HS.out, HB.out⟩
 have b15 : (cc == 15) = false := beq_eq_false_iff_ne.mpr q15
 by_cases q14 : cc = 14
 ·
  subst q14
  rw [if_neg q15] at h
  rw [if_pos rfl] at h
  obtain rfl := Option.some.inj h
  clear h q15
  go_enter Try.func72, Try.ntmps72
  go_wp2_with (first | (go_at_call 20; refine (spec_RuneBidi.calls k y 14 _ HCC.out).mono ?_; rintro e w1 ⟨rfl, hb⟩; have n0 := az (HS.out.below hb); have n1 := az (below_then HB.out HB.out.size hb); have hc0 := n0.out.cell0; clear HS HB hb; have HS := n0; have HB := n1; clear n0 n1) | (go_at_call 89; refine (push_calls w0 _ gb _ c rs.length s false 0 false HB.out HS.out HW.out).mono ?_; rintro e w2 ⟨rfl, hs2, hb2⟩; have n0 := az hs2; have n1 := az hb2; clear HS HB hs2 hb2; have HS := n0; have HB := n1; clear n0 n1))
  go_end0
  exact ⟨rfl, HS.out, HB.out⟩
 have b14 : (cc == 14) = false := beq_eq_false_iff_ne.mpr q14
 by_cases q18 : cc = 18
 ·
  subst q18
  rw [if_neg q15] at h
  rw [if_neg q14] at h
  rw [if_pos rfl] at h
  obtain rfl := Option.some.inj h
  clear h q15 q14
  go_enter Try.func72, Try.ntmps72
  go_wp2_with (first | (go_at_call 20; refine (spec_RuneBidi.calls k y 18 _ HCC.out).mono ?_; rintro e w1 ⟨rfl, hb⟩; have n0 := az (HS.out.below hb); have n1 := az (below_then HB.out HB.out.size hb); have hc0 := n0.out.cell0; clear HS HB hb; have HS := n0; have HB := n1; clear n0 n1) | (go_at_call 89; refine (push_calls w0 _ gb _ c rs.length s true 2 false HB.out HS.out HW.out).mono ?_; rintro e w2 ⟨rfl, hs2, hb2⟩; have n0 := az hs2; have n1 := az hb2; clear HS HB hs2 hb2; have HS := n0; have HB := n1; clear n0 n1))
  go_end0
  exact ⟨rfl, HS.out, HB.out⟩
 have b18 : (cc == 18) = false := beq_eq_false_iff_ne.mpr q18
 by_cases q17 : cc = 17
 ·
  subst q17
  rw [if_neg q15] at h
  rw [if_neg q14] at h
  rw [if_neg q18] at h
  rw [if_pos rfl] at h
  obtain rfl := Option.some.inj h
  clear h q15 q14 q18
  go_enter Try.func72, Try.ntmps72
  go_wp2_with (first | (go_at_call 20; refine (spec_RuneBidi.calls k y 17 _ HCC.out).mono ?_; rintro e w1 ⟨rfl, hb⟩; have n0 := az (HS.out.below hb); have n1 := az (below_then HB.out HB.out.size hb); have hc0 := n0.out.cell0; clear HS HB hb; have HS := n0; have HB := n1; clear n0 n1) | (go_at_call 89; refine (push_calls w0 _ gb _ c rs.length s false 1 false HB.out HS.out HW.out).mono ?_; rintro e w2 ⟨rfl, hs2, hb2⟩; have n0 := az hs2; have n1 := az hb2; clear HS HB hs2 hb2; have HS := n0; have HB := n1; clear n0 n1))
  go_end0
  exact ⟨rfl, HS.out, HB.out⟩
 have b17 : (cc == 17) = false := beq_eq_false_iff_ne.mpr q17
 by_cases q16 : cc = 16
 ·
  subst q16
  rw [if_neg q15] at h
  rw [if_neg q14] at h
  rw [if_neg q18] at h
  rw [if_neg q17] at h
  rw [if_pos rfl] at h
  obtain rfl := Option.some.inj h
  clear h q15 q14 q18 q17
  go_enter Try.func72, Try.ntmps72
  go_wp2_with (first | (go_at_call 20; refine (spec_RuneBidi.calls k y 16 _ HCC.out).mono ?_; rintro e w1 ⟨rfl, hb⟩; have n0 := az (HS.out.below hb); have n1 := az (below_then HB.out HB.out.size hb); have hc0 := n0.out.cell0; clear HS HB hb; have HS := n0; have HB := n1; clear n0 n1) | (go_at_call 90; refine (drops_calls w0 _ gb _ c rs.length s HB.out HS.out HW.out).mono ?_; rintro e w2 ⟨rfl, hs2, hb2⟩; have n0 := az hs2; have n1 := az hb2; clear HS HB hs2 hb2; have HS := n0; have HB := n1; clear n0 n1))
  go_end0
  exact ⟨rfl, HS.out, HB.out⟩
 have b16 : (cc == 16) = false := beq_eq_false_iff_ne.mpr q16
 by_cases q10 : cc = 10
 ·
  subst q10
  rw [if_neg q15] at h
  rw [if_neg q14] at h
  rw [if_neg q18] at h
  rw [if_neg q17] at h
  rw [if_neg q16] at h
  rw [if_pos rfl] at h
  obtain rfl := Option.some.inj h
  clear h q15 q14 q18 q17 q16
  go_enter Try.func72, Try.ntmps72
  go_wp2_with (first | (go_at_call 20; refine (spec_RuneBidi.calls k y 10 _ HCC.out).mono ?_; rintro e w1 ⟨rfl, hb⟩; have n0 := az (HS.out.below hb); have n1 := az (below_then HB.out HB.out.size hb); have hc0 := n0.out.cell0; clear HS HB hb; have HS := n0; have HB := n1; clear n0 n1))
  go_end0
  exact ⟨rfl, HS.out, HB.out⟩
 have b10 : (cc == 10) = false := beq_eq_false_iff_ne.mpr q10
 by_cases q20 : cc = 20
 ·
  subst q20
  rw [if_neg q15] at h
  rw [if_neg q14] at h
  rw [if_neg q18] at h
  rw [if_neg q17] at h
  rw [if_neg q16] at h
  rw [if_neg q10] at h
  rw [if_pos rfl] at h
  obtain rfl := Option.some.inj h
  clear h q15 q14 q18 q17 q16 q10
  go_enter Try.func72, Try.ntmps72
  go_wp2_with (first | (go_at_call 20; refine (spec_RuneBidi.calls k y 20 _ HCC.out).mono ?_; rintro e w1 ⟨rfl, hb⟩; have n0 := az (HS.out.below hb); have n1 := az (below_then HB.out HB.out.size hb); have hc0 := n0.out.cell0; clear HS HB hb; have HS := n0; have HB := n1; clear n0 n1) | (go_at_call 91; refine (here_calls w0 _ gb _ c rs.length s i 20 HB.out HS.out HW.out HI.out.1 HI.out.2.1 HI.out.2.2).mono ?_; rintro e w3 ⟨rfl, hs2, hb2⟩; have n0 := az hs2; have n1 := az hb2; have hc0 := n0.out.cell0; clear HS HB hs2 hb2; have HS := n0; have HB := n1; clear n0 n1) | (go_at_call 89; refine (push_calls w0 _ gb _ c rs.length (hereS i 20 s) true 0 true HB.out HS.out (show Wb (hereS i 20 s) from HW.out)).mono ?_; rintro e w2 ⟨rfl, hs2, hb2⟩; have n0 := az hs2; have n1 := az hb2; clear HS HB hs2 hb2; have HS := n0; have HB := n1; clear n0 n1))
  go_end0
  exact ⟨rfl, HS.out, HB.out⟩
 have b20 : (cc == 20) = false := beq_eq_false_iff_ne.mpr q20
 by_cases q19 : cc = 19
 ·
  subst q19
  rw [if_neg q15] at h
  rw [if_neg q14] at h
  rw [if_neg q18] at h
  rw [if_neg q17] at h
  rw [if_neg q16] at h
  rw [if_neg q10] at h
  rw [if_neg q20] at h
  rw [if_pos rfl] at h
  obtain rfl := Option.some.inj h
  clear h q15 q14 q18 q17 q16 q10 q20
  go_enter Try.func72, Try.ntmps72
  go_wp2_with (first | (go_at_call 20; refine (spec_RuneBidi.calls k y 19 _ HCC.out).mono ?_; rintro e w1 ⟨rfl, hb⟩; have n0 := az (HS.out.below hb); have n1 := az (below_then HB.out HB.out.size hb); have hc0 := n0.out.cell0; clear HS HB hb; have HS := n0; have HB := n1; clear n0 n1) | (go_at_call 91; refine (here_calls w0 _ gb _ c rs.length s i 19 HB.out HS.out HW.out HI.out.1 HI.out.2.1 HI.out.2.2).mono ?_; rintro e w3 ⟨rfl, hs2, hb2⟩; have n0 := az hs2; have n1 := az hb2; have hc0 := n0.out.cell0; clear HS HB hs2 hb2; have HS := n0; have HB := n1; clear n0 n1) | (go_at_call 89; refine (push_calls w0 _ gb _ c rs.length (hereS i 19 s) false 0 true HB.out HS.out (show Wb (hereS i 19 s) from HW.out)).mono ?_; rintro e w2 ⟨rfl, hs2, hb2⟩; have n0 := az hs2; have n1 := az hb2; clear HS HB hs2 hb2; have HS := n0; have HB := n1; clear n0 n1))
  go_end0
  exact ⟨rfl, HS.out, HB.out⟩
 have b19 : (cc == 19) = false := beq_eq_false_iff_ne.mpr q19
 by_cases q21 : cc = 21
 ·
  subst q21
  rw [if_neg q15] at h
  rw [if_neg q14] at h
  rw [if_neg q18] at h
  rw [if_neg q17] at h
  rw [if_neg q16] at h
  rw [if_neg q10] at h
  rw [if_neg q20] at h
  rw [if_neg q19] at h
  rw [if_pos rfl] at h
  obtain ⟨m, hm, h⟩ := Option.bind_eq_some_iff.mp h
  obtain ⟨b, hbb, h⟩ := Option.bind_eq_some_iff.mp h
  obtain rfl := Option.some.inj h
  have HM := az hm
  have HBB := az hbb
  have hw1 : IntKind.i64.wrap ((i : Int) + 1) = (i : Int) + 1 := IntWalk.i64_in _ (by omega)
  clear h hm hbb q15 q14 q18 q17 q16 q10 q20 q19
  go_enter Try.func72, Try.ntmps72
  go_wp2_with (first | (go_at_call 20; refine (spec_RuneBidi.calls k y 21 _ HCC.out).mono ?_; rintro e w1 ⟨rfl, hb⟩; have n0 := az (HS.out.below hb); have n1 := az (below_then HB.out HB.out.size hb); have hc0 := n0.out.cell0; clear HS HB hb; have HS := n0; have HB := n1; clear n0 n1) | (go_at_call 91; refine (here_calls w0 _ gb _ c rs.length s i 21 HB.out HS.out HW.out HI.out.1 HI.out.2.1 HI.out.2.2).mono ?_; rintro e w3 ⟨rfl, hs2, hb2⟩; have n0 := az hs2; have n1 := az hb2; have hc0 := n0.out.cell0; clear HS HB hs2 hb2; have HS := n0; have HB := n1; clear n0 n1))
  have hk : w3.cell? ⟨gb, 0, none⟩ = some (.slice (some ad) rs.length c) ∧ Aside0 (SL w0 gb (some ad) c rs.length (hereS i 21 s) w3) := ⟨hc0, ⟨⟨HS.out, HB.out⟩⟩⟩
  clear hc0 HS HB
  go_region_held3 (fun W => W.cell? ⟨gb, 0, none⟩ = some (.slice (some ad) rs.length c) ∧ Aside0 (SL w0 gb (some ad) c rs.length (hereS i 21 s) W)) (first | assumption | (refine keepB ?_ (by assumption); assumption) | exact keepD (by assumption)) (first | (go_at_call 93; refine (spec_l3Mate.calls k _ _ rs (i : Int) m _ ?hC HRC.out HM.out).mono ?_; (case hC => exact Kd.C_below HR.out (keepO (gb := gb) (c := c) (n := rs.length) (A := some ad) (s := hereS i 21 s) (by assumption))); rintro e w' ⟨rfl, hb⟩) | (go_at_call 92; refine (spec_l3Base.calls k _ _ rs _ m b _ ?hC HRC.out HBB.out).mono ?_; (case hC => exact Kd.C_below HR.out (keepO (gb := gb) (c := c) (n := rs.length) (A := some ad) (s := hereS i 21 s) (by assumption))); rintro e w' ⟨rfl, hb⟩))
  obtain ⟨hcz, hz⟩ : w'.cell? ⟨gb, 0, none⟩ = some (.slice (some ad) rs.length c) ∧ Aside0 (SL w0 gb (some ad) c rs.length (hereS i 21 s) w') := by assumption
  have HS := az hz.out.1
  have HB := az hz.out.2
  clear hz
  go_wp2_with (go_at_call 89; refine (push_calls w0 _ gb _ c rs.length (hereS i 21 s) (b == 1) 0 true HB.out HS.out (show Wb (hereS i 21 s) from HW.out)).mono ?_; rintro e w2 ⟨rfl, hs2, hb2⟩; have n0 := az hs2; have n1 := az hb2; clear HS HB hs2 hb2; have HS := n0; have HB := n1; clear n0 n1)
  go_end0
  exact ⟨rfl, HS.out, HB.out⟩
 have b21 : (cc == 21) = false := beq_eq_false_iff_ne.mpr q21
 by_cases q22 : cc = 22
 ·
  subst q22
  rw [if_neg q15] at h
  rw [if_neg q14] at h
  rw [if_neg q18] at h
  rw [if_neg q17] at h
  rw [if_neg q16] at h
  rw [if_neg q10] at h
  rw [if_neg q20] at h
  rw [if_neg q19] at h
  rw [if_neg q21] at h
  rw [if_pos rfl] at h
  obtain rfl := Option.some.inj h
  clear h q15 q14 q18 q17 q16 q10 q20 q19 q21
  go_enter Try.func72, Try.ntmps72
  go_wp2_with (first | (go_at_call 20; refine (spec_RuneBidi.calls k y 22 _ HCC.out).mono ?_; rintro e w1 ⟨rfl, hb⟩; have n0 := az (HS.out.below hb); have n1 := az (below_then HB.out HB.out.size hb); have hc0 := n0.out.cell0; clear HS HB hb; have HS := n0; have HB := n1; clear n0 n1) | (go_at_call 94; refine (ends_calls w0 _ gb _ c rs.length s HB.out HS.out HW.out HA.out).mono ?_; rintro e w2 ⟨rfl, hs2, hb2⟩; have n0 := az hs2; have n1 := az hb2; clear HS HB hs2 hb2; have HS := n0; have HB := n1; clear n0 n1) | (go_at_call 91; refine (here_calls w0 _ gb _ c rs.length (endsS s) i 22 HB.out HS.out HW2.out (by rw [(endsS_lens s).1]; exact HI.out.1) (by rw [(endsS_lens s).2]; exact HI.out.2.1) HI.out.2.2).mono ?_; rintro e w3 ⟨rfl, hs2, hb2⟩; have n0 := az hs2; have n1 := az hb2; have hc0 := n0.out.cell0; clear HS HB hs2 hb2; have HS := n0; have HB := n1; clear n0 n1))
  go_end0
  exact ⟨rfl, HS.out, HB.out⟩
 have b22 : (cc == 22) = false := beq_eq_false_iff_ne.mpr q22
 rw [if_neg q15] at h
 rw [if_neg q14] at h
 rw [if_neg q18] at h
 rw [if_neg q17] at h
 rw [if_neg q16] at h
 rw [if_neg q10] at h
 rw [if_neg q20] at h
 rw [if_neg q19] at h
 rw [if_neg q21] at h
 rw [if_neg q22] at h
 obtain rfl := Option.some.inj h
 clear h q15 q14 q18 q17 q16 q10 q20 q19 q21 q22
 go_enter Try.func72, Try.ntmps72
 go_wp2_with (first | (go_at_call 20; refine (spec_RuneBidi.calls k y cc _ HCC.out).mono ?_; rintro e w1 ⟨rfl, hb⟩; have n0 := az (HS.out.below hb); have n1 := az (below_then HB.out HB.out.size hb); have hc0 := n0.out.cell0; clear HS HB hb; have HS := n0; have HB := n1; clear n0 n1) | (go_at_call 91; refine (here_calls w0 _ gb _ c rs.length s i cc HB.out HS.out HW.out HI.out.1 HI.out.2.1 HI.out.2.2).mono ?_; rintro e w3 ⟨rfl, hs2, hb2⟩; have n0 := az hs2; have n1 := az hb2; have hc0 := n0.out.cell0; clear HS HB hs2 hb2; have HS := n0; have HB := n1; clear n0 n1))
 go_end0
 exact ⟨rfl, HS.out, HB.out⟩
def cntA (st : List S74) : Nat := (st.filter (fun e => e.f2)).length
def InvW (n j : Nat) (s : WkS) : Prop := s.lv.length = n ∧ s.cl.length = n ∧ 0 ≤ s.lost ∧ s.lost ≤ j ∧ 0 ≤ s.sk ∧ s.sk ≤ j ∧ s.al = cntA s.st ∧ s.st.length ≤ j + 1 ∧ ∃ b r, s.st = b :: r ∧ b.f2 = false
theorem cntA_snoc (st : List S74) (e : S74) : cntA (st ++ [e]) = cntA st + (if e.f2 = true then 1 else 0) := by
 unfold cntA
 rw [List.filter_append, List.length_append]
 by_cases h : e.f2 = true <;> simp [h]
theorem take_step (st : List S74) (n : Nat) (h : n < st.length) : st.take (n + 1) = st.take n ++ [st.getD n z74] := by
 rw [List.take_succ_eq_append_getElem h]
 simp [List.getD_eq_getElem?_getD, h]
theorem cntA_le (st : List S74) : cntA st ≤ st.length := List.length_filter_le _ _
theorem cntA_some : ∀ (st : List S74), 0 < cntA st → ∃ j, j < st.length ∧ (st.getD j z74).f2 = true
 | [], h => by simp [cntA] at h
 | e :: r, h => by
  by_cases he : e.f2 = true
  · exact ⟨0, by simp, by simpa using he⟩
  ·
   have : 0 < cntA r := by simpa [cntA, he] using h
   obtain ⟨j, h1, h2⟩ := cntA_some r this
   exact ⟨j + 1, by simp; omega, by simpa using h2⟩
theorem popA_cnt (st : List S74) : ∀ n, n ≤ st.length → 0 < cntA (st.take n) → ∃ m, m < n ∧ popA st n = st.take m ∧ (st.getD m z74).f2 = true ∧ cntA (st.take n) = cntA (st.take m) + 1
 | 0, _, h => by simp [cntA] at h
 | n + 1, hn, h => by
  rw [take_step st n (by omega), cntA_snoc] at h ⊢
  by_cases e : (st.getD n z74).f2 = true
  · exact ⟨n, by omega, by rw [popA, if_pos e], e, by rw [if_pos e]⟩
  ·
   rw [if_neg e] at h ⊢
   obtain ⟨m, h1, h2, h3, h4⟩ := popA_cnt st n (by omega) (by omega)
   exact ⟨m, by omega, by rw [popA, if_neg e]; exact h2, h3, by omega⟩
theorem inv_push {n j : Nat} {s : WkS} (h : InvW n j s) (r : Bool) (d : Int) (a : Bool) : InvW n (j + 1) (pushS r d a s) := by
 obtain ⟨h1, h2, h3, h4, h5, h6, h7, h8, b, q, h9, h10⟩ := h
 unfold pushS
 split
 ·
  split
  ·
   refine ⟨h1, h2, h3, by simp only; omega, h5, by simp only; omega, ?_, by simp; omega, b, q ++ [_], by rw [h9]; rfl, h10⟩
   rw [cntA_snoc, if_pos rfl]; simp only; omega
  ·
   refine ⟨h1, h2, h3, by simp only; omega, h5, by simp only; omega, ?_, by simp; omega, b, q ++ [_], by rw [h9]; rfl, h10⟩
   rw [cntA_snoc, if_neg (by simp)]; simp only; omega
 ·
  split
  · exact ⟨h1, h2, by simp only; omega, by simp only; omega, h5, by simp only; omega, h7, by simp only; omega, b, q, h9, h10⟩
  ·
   split
   · exact ⟨h1, h2, by simp only; omega, by simp only; omega, by simp only; omega, by simp only; omega, h7, by simp only; omega, b, q, h9, h10⟩
   · exact ⟨h1, h2, h3, by omega, h5, by omega, h7, by omega, b, q, h9, h10⟩
theorem inv_here {n j : Nat} {s : WkS} (h : InvW n j s) (i : Nat) (c : Int) : InvW n j (hereS i c s) := by
 obtain ⟨h1, h2, h3⟩ := h
 exact ⟨by simpa [hereS] using h1, by simpa [hereS] using h2, h3⟩
theorem inv_more {n j : Nat} {s : WkS} (h : InvW n j s) : InvW n (j + 1) s := by
 obtain ⟨h1, h2, h3, h4, h5, h6, h7, h8, h9⟩ := h
 exact ⟨h1, h2, h3, by omega, h5, by omega, h7, by omega, h9⟩
theorem inv_drops {n j : Nat} {s : WkS} (h : InvW n j s) : InvW n (j + 1) (dropsS s) := by
 have h' := h
 obtain ⟨h1, h2, h3, h4, h5, h6, h7, h8, b, q, h9, h10⟩ := h
 unfold dropsS
 split
 · exact inv_more h'
 ·
  split
  · exact ⟨h1, h2, h3, by simp only; omega, by simp only; omega, by simp only; omega, h7, by simp only; omega, b, q, h9, h10⟩
  ·
   split
   ·
    rename_i hc
    obtain ⟨hc1, hc2⟩ := hc
    unfold WkS.top at hc1
    have e := take_step s.st (s.st.length - 1) (by omega)
    rw [show s.st.length - 1 + 1 = s.st.length by omega, List.take_length] at e
    refine ⟨h1, h2, h3, by simp only; omega, h5, by simp only; omega, ?_, by simp only [List.length_take]; omega, b, q.take (s.st.length - 2), ?_, h10⟩
    ·
     have := congrArg cntA e
     rw [cntA_snoc, hc1, if_neg (by simp)] at this
     simp only; omega
    ·
     rw [h9]
     have hl : (b :: q).length - 1 = ((b :: q).length - 2) + 1 := by rw [h9] at hc2; simp at hc2 ⊢; omega
     rw [hl, List.take_succ_cons]
   · exact inv_more h'
theorem inv_ends {n j : Nat} {s : WkS} (h : InvW n j s) : InvW n (j + 1) (endsS s) := by
 have h' := h
 obtain ⟨h1, h2, h3, h4, h5, h6, h7, h8, b, q, h9, h10⟩ := h
 unfold endsS
 split
 · exact ⟨h1, h2, by simp only; omega, by simp only; omega, h5, by simp only; omega, h7, by simp only; omega, b, q, h9, h10⟩
 ·
  split
  · exact inv_more h'
  ·
   obtain ⟨m, m1, m2, m3, m4⟩ := popA_cnt s.st s.st.length (Nat.le_refl _) (by rw [List.take_length]; omega)
   rw [List.take_length] at m4
   have hm : m ≠ 0 := by
    rintro rfl
    rw [h9] at m3
    simp [h10] at m3
   refine ⟨h1, h2, h3, by simp only; omega, by simp only; omega, by simp only; omega, by simp only [m2]; omega, by simp only [m2, List.length_take]; omega, b, q.take (m - 1), ?_, h10⟩
   simp only [m2]
   rw [h9, show m = (m - 1) + 1 by omega, List.take_succ_cons]
   rfl
theorem inv_letter {k n j i : Nat} {rs : List Int} {s s' : WkS} (h : InvW n j s) (hl : letterF k rs i s = some s') : InvW n (j + 2) s' := by
 unfold letterF at hl
 obtain ⟨c, _, hl⟩ := Option.bind_eq_some_iff.mp hl
 repeat' split at hl
 all_goals first
  | (obtain rfl := Option.some.inj hl; first | exact inv_more (inv_push h _ _ _) | exact inv_more (inv_drops h) | exact inv_more (inv_more h) | exact inv_more (inv_push (inv_here h _ _) _ _ _) | exact inv_here (inv_more (inv_ends h)) _ _ | exact inv_here (inv_more (inv_more h)) _ _)
  | (obtain ⟨m, _, hl⟩ := Option.bind_eq_some_iff.mp hl; obtain ⟨b, _, hl⟩ := Option.bind_eq_some_iff.mp hl; obtain rfl := Option.some.inj hl; exact inv_more (inv_push (inv_here h _ _) _ _ _))
def walkS (n : Nat) (base : Int) : WkS := ⟨List.replicate n 0, List.replicate n 0, [⟨base, 0, false⟩], 0, 0, 0⟩
def walkF (k : Nat) (rs : List Int) (base : Int) : Nat → Option WkS
 | 0 => some (walkS rs.length base)
 | j + 1 => (walkF k rs base j).bind fun s => letterF k rs j { s with lv := s.lv.set j (-1) }
theorem inv_walk {k : Nat} {rs : List Int} {base : Int} : ∀ (j : Nat) (s : WkS), walkF k rs base j = some s → InvW rs.length (2 * j) s
 | 0, s, h => by
  obtain rfl := Option.some.inj h
  exact ⟨by simp [walkS], by simp [walkS], by simp [walkS], by simp [walkS], by simp [walkS], by simp [walkS], by simp [walkS, cntA], by simp [walkS], _, _, rfl, rfl⟩
 | j + 1, s, h => by
  rw [walkF] at h
  obtain ⟨t, ht, h⟩ := Option.bind_eq_some_iff.mp h
  have ih := inv_walk j t ht
  refine inv_letter (s := { t with lv := t.lv.set j (-1) }) ?_ h
  obtain ⟨h1, h2⟩ := ih
  exact ⟨by simpa using h1, h2⟩
theorem inv_Wb {n j : Nat} {s : WkS} (h : InvW n j s) (hj : j < 900) : Wb s := by
 obtain ⟨h1, h2, h3, h4, h5, h6, h7, h8, b, q, h9, h10⟩ := h
 have := cntA_le s.st
 refine ⟨h3, by omega, h5, by omega, by omega, by omega, by rw [h9]; simp, by omega⟩
theorem IsWk.lv0 {w0 w : World} {gb c n : Nat} {A : Option Addr} {s : WkS} (h : IsWk w w0.heap.size gb A c n s) (hB : Below w0.heap.size w0 w) (i : Nat) (hi : i < s.lv.length) : ∃ gl cpl, w.cell? ⟨gb, 1, none⟩ = some (.slice (some ⟨gl, 0, none⟩) s.lv.length cpl) ∧ w.cell? ⟨gl, i, none⟩ = some (.int .i64 (s.lv.getD i 0)) ∧ w.frozen? ⟨gl, i, none⟩ = false ∧ ∀ x : Int, IsWk (w.setCell ⟨gl, i, none⟩ (.int .i64 x)) w0.heap.size gb A c n { s with lv := s.lv.set i x } ∧ Below w0.heap.size w0 (w.setCell ⟨gl, i, none⟩ (.int .i64 x)) := by
 obtain ⟨vl, vc, vs, h1, hL, hC, hS, hbg⟩ := h
 obtain ⟨gl, cpl, hvl, hg0, hgl, _⟩ := Kd.R_form hL (by omega)
 subst hvl
 obtain ⟨hx, hf⟩ := Kd.R_celln 0 hL (i : Int) (by omega) (by omega)
 rw [Int.toNat_natCast] at hx hf
 refine ⟨gl, cpl, (blk_cell h1 1).trans rfl, by simpa [rdOf] using hx, hf, fun x => ?_⟩
 have pL := Kd.R_putg hL (i : Int) x
 rw [Int.toNat_natCast] at pL
 exact ⟨⟨_, vc, vs, blk_grown h1 pL.2 (Kd.R_ne hL h1 (by decide)), pL.1, Kd.R_grown hC pL.2 (fun k hk => hk), Kd.R_over' hS (Kd.R_typed hL) (by decide) pL.2, hbg⟩, hB.setCell (p := ⟨gl, i, none⟩) hg0 _⟩
theorem R_madeI (W : World) (base n : Nat) (ok : Nat → Prop) (hb : base ≤ W.heap.size) (hok : ok W.heap.size) (hn : n ≤ 1000) : Kd.R (Kd.int .i64) 3 (W.alloc (.cells (madeCells #[.int .i64 0] n) 3)) base ok (.slice (some ⟨W.heap.size, 0, none⟩) n n) (List.replicate n 0) := by
 have h := own_made W base 3 .i64 n hb (by omega)
 have h' : (W.alloc (.cells (madeCells #[.int .i64 0] n) 3)).ownsRow base 3 1 (.slice (some ⟨W.heap.size, 0, none⟩) n n) (List.replicate n (0 : Int)).length (encs (Value.int .i64) (List.replicate n 0)) := by
  rw [List.length_replicate]; exact h
 exact Kd.R_of_own h' (fun k hk => by
  have : k = W.heap.size := by simpa [Value.ownBlock] using hk.symm
  subst this; exact hok)
theorem R_oneT (W : World) (base : Nat) (b : Int) (hb : base ≤ W.heap.size) : Kd.R k74 74 (W.alloc (.cells #[.int .i64 b, .int .i64 0, .bool false] 74)) base (fun _ => True) (.slice (some ⟨W.heap.size, 0, none⟩) 1 1) [⟨b, 0, false⟩] := by
 refine ⟨fun _ _ => trivial, [.int .i64 b, .int .i64 0, .bool false], ?_, ?_⟩
 · exact World.ownsRow_lit (base := base) (e := 74) (size := 3) W #[.int .i64 b, .int .i64 0, .bool false] 1 hb (by decide) rfl
 · exact Reps.c3 (k74_mkM _ _ _ (⟨b, 0, false⟩ : S74)) (Reps.none _ _)
theorem start_0 (w : World) (A : Option Addr) (c n : Nat) (base : Int) (hn : n ≤ 1000) : IsWk (((((w.alloc (.cells (madeCells #[.int .i64 0] n) 3)).alloc (.cells (madeCells #[.int .i64 0] n) 3)).alloc (.cells #[.int .i64 base, .int .i64 0, .bool false] 74)).alloc (.cells #[.slice A n c, .slice (some ⟨w.heap.size, 0, none⟩) n n, .slice (some ⟨w.heap.size + 1, 0, none⟩) n n, .slice (some ⟨w.heap.size + 1 + 1, 0, none⟩) 1 1, .int .i64 0, .int .i64 0, .int .i64 0] 53)).drew) w.heap.size (w.heap.size + 1 + 1 + 1) A c n (walkS n base) ∧ Below w.heap.size w (((((w.alloc (.cells (madeCells #[.int .i64 0] n) 3)).alloc (.cells (madeCells #[.int .i64 0] n) 3)).alloc (.cells #[.int .i64 base, .int .i64 0, .bool false] 74)).alloc (.cells #[.slice A n c, .slice (some ⟨w.heap.size, 0, none⟩) n n, .slice (some ⟨w.heap.size + 1, 0, none⟩) n n, .slice (some ⟨w.heap.size + 1 + 1, 0, none⟩) 1 1, .int .i64 0, .int .i64 0, .int .i64 0] 53)).drew) := by
 refine ⟨⟨(.slice (some ⟨w.heap.size, 0, none⟩) n n), (.slice (some ⟨w.heap.size + 1, 0, none⟩) n n), (.slice (some ⟨w.heap.size + 1 + 1, 0, none⟩) 1 1), ?_, ?_, ?_, ?_, by omega⟩, below_drew (below_alloc (below_alloc (below_alloc (below_alloc (Below.refl _ _) _) _) _) _)⟩
 ·
  have h := blk_new (((w.alloc (.cells (madeCells #[.int .i64 0] n) 3)).alloc (.cells (madeCells #[.int .i64 0] n) 3)).alloc (.cells #[.int .i64 base, .int .i64 0, .bool false] 74)) (.cells #[.slice A n c, .slice (some ⟨w.heap.size, 0, none⟩) n n, .slice (some ⟨w.heap.size + 1, 0, none⟩) n n, .slice (some ⟨w.heap.size + 1 + 1, 0, none⟩) 1 1, .int .i64 0, .int .i64 0, .int .i64 0] 53)
  rw [show ((((w.alloc (.cells (madeCells #[.int .i64 0] n) 3)).alloc (.cells (madeCells #[.int .i64 0] n) 3)).alloc (.cells #[.int .i64 base, .int .i64 0, .bool false] 74))).heap.size = w.heap.size + 1 + 1 + 1 by simp] at h
  exact blk_drew h
 ·
  skip
  have h := R_madeI w w.heap.size n (fun k => some k ≠ Value.ownBlock (.slice (some ⟨w.heap.size + 1, 0, none⟩) n n)) (by simp <;> omega) (by simp [Value.ownBlock] <;> omega) hn
  exact Kd.R_drew (Kd.R_alloc (Kd.R_alloc (Kd.R_alloc h _) _) _)
 ·
  skip
  have h := R_madeI (w.alloc (.cells (madeCells #[.int .i64 0] n) 3)) w.heap.size n (fun k => some k ≠ Value.ownBlock (.slice (some ⟨w.heap.size, 0, none⟩) n n)) (by simp <;> omega) (by simp [Value.ownBlock] <;> omega) hn
  rw [show ((w.alloc (.cells (madeCells #[.int .i64 0] n) 3))).heap.size = w.heap.size + 1 by simp] at h
  exact Kd.R_drew (Kd.R_alloc (Kd.R_alloc h _) _)
 ·
  skip
  have h := R_oneT ((w.alloc (.cells (madeCells #[.int .i64 0] n) 3)).alloc (.cells (madeCells #[.int .i64 0] n) 3)) w.heap.size base (by simp <;> omega)
  rw [show (((w.alloc (.cells (madeCells #[.int .i64 0] n) 3)).alloc (.cells (madeCells #[.int .i64 0] n) 3))).heap.size = w.heap.size + 1 + 1 by simp] at h
  exact Kd.R_drew (Kd.R_alloc h _)
theorem start_1 (w : World) (A : Option Addr) (c n : Nat) (base : Int) (hn : n ≤ 1000) : IsWk (((((w.alloc (.cells (madeCells #[.int .i64 0] n) 3)).alloc (.cells #[.int .i64 base, .int .i64 0, .bool false] 74)).alloc (.cells (madeCells #[.int .i64 0] n) 3)).alloc (.cells #[.slice A n c, .slice (some ⟨w.heap.size, 0, none⟩) n n, .slice (some ⟨w.heap.size + 1 + 1, 0, none⟩) n n, .slice (some ⟨w.heap.size + 1, 0, none⟩) 1 1, .int .i64 0, .int .i64 0, .int .i64 0] 53)).drew) w.heap.size (w.heap.size + 1 + 1 + 1) A c n (walkS n base) ∧ Below w.heap.size w (((((w.alloc (.cells (madeCells #[.int .i64 0] n) 3)).alloc (.cells #[.int .i64 base, .int .i64 0, .bool false] 74)).alloc (.cells (madeCells #[.int .i64 0] n) 3)).alloc (.cells #[.slice A n c, .slice (some ⟨w.heap.size, 0, none⟩) n n, .slice (some ⟨w.heap.size + 1 + 1, 0, none⟩) n n, .slice (some ⟨w.heap.size + 1, 0, none⟩) 1 1, .int .i64 0, .int .i64 0, .int .i64 0] 53)).drew) := by
 refine ⟨⟨(.slice (some ⟨w.heap.size, 0, none⟩) n n), (.slice (some ⟨w.heap.size + 1 + 1, 0, none⟩) n n), (.slice (some ⟨w.heap.size + 1, 0, none⟩) 1 1), ?_, ?_, ?_, ?_, by omega⟩, below_drew (below_alloc (below_alloc (below_alloc (below_alloc (Below.refl _ _) _) _) _) _)⟩
 ·
  have h := blk_new (((w.alloc (.cells (madeCells #[.int .i64 0] n) 3)).alloc (.cells #[.int .i64 base, .int .i64 0, .bool false] 74)).alloc (.cells (madeCells #[.int .i64 0] n) 3)) (.cells #[.slice A n c, .slice (some ⟨w.heap.size, 0, none⟩) n n, .slice (some ⟨w.heap.size + 1 + 1, 0, none⟩) n n, .slice (some ⟨w.heap.size + 1, 0, none⟩) 1 1, .int .i64 0, .int .i64 0, .int .i64 0] 53)
  rw [show ((((w.alloc (.cells (madeCells #[.int .i64 0] n) 3)).alloc (.cells #[.int .i64 base, .int .i64 0, .bool false] 74)).alloc (.cells (madeCells #[.int .i64 0] n) 3))).heap.size = w.heap.size + 1 + 1 + 1 by simp] at h
  exact blk_drew h
 ·
  skip
  have h := R_madeI w w.heap.size n (fun k => some k ≠ Value.ownBlock (.slice (some ⟨w.heap.size + 1 + 1, 0, none⟩) n n)) (by simp <;> omega) (by simp [Value.ownBlock] <;> omega) hn
  exact Kd.R_drew (Kd.R_alloc (Kd.R_alloc (Kd.R_alloc h _) _) _)
 ·
  skip
  have h := R_madeI ((w.alloc (.cells (madeCells #[.int .i64 0] n) 3)).alloc (.cells #[.int .i64 base, .int .i64 0, .bool false] 74)) w.heap.size n (fun k => some k ≠ Value.ownBlock (.slice (some ⟨w.heap.size, 0, none⟩) n n)) (by simp <;> omega) (by simp [Value.ownBlock] <;> omega) hn
  rw [show (((w.alloc (.cells (madeCells #[.int .i64 0] n) 3)).alloc (.cells #[.int .i64 base, .int .i64 0, .bool false] 74))).heap.size = w.heap.size + 1 + 1 by simp] at h
  exact Kd.R_drew (Kd.R_alloc h _)
 ·
  skip
  have h := R_oneT (w.alloc (.cells (madeCells #[.int .i64 0] n) 3)) w.heap.size base (by simp <;> omega)
  rw [show ((w.alloc (.cells (madeCells #[.int .i64 0] n) 3))).heap.size = w.heap.size + 1 by simp] at h
  exact Kd.R_drew (Kd.R_alloc (Kd.R_alloc h _) _)
theorem start_2 (w : World) (A : Option Addr) (c n : Nat) (base : Int) (hn : n ≤ 1000) : IsWk (((((w.alloc (.cells (madeCells #[.int .i64 0] n) 3)).alloc (.cells (madeCells #[.int .i64 0] n) 3)).alloc (.cells #[.int .i64 base, .int .i64 0, .bool false] 74)).alloc (.cells #[.slice A n c, .slice (some ⟨w.heap.size + 1, 0, none⟩) n n, .slice (some ⟨w.heap.size, 0, none⟩) n n, .slice (some ⟨w.heap.size + 1 + 1, 0, none⟩) 1 1, .int .i64 0, .int .i64 0, .int .i64 0] 53)).drew) w.heap.size (w.heap.size + 1 + 1 + 1) A c n (walkS n base) ∧ Below w.heap.size w (((((w.alloc (.cells (madeCells #[.int .i64 0] n) 3)).alloc (.cells (madeCells #[.int .i64 0] n) 3)).alloc (.cells #[.int .i64 base, .int .i64 0, .bool false] 74)).alloc (.cells #[.slice A n c, .slice (some ⟨w.heap.size + 1, 0, none⟩) n n, .slice (some ⟨w.heap.size, 0, none⟩) n n, .slice (some ⟨w.heap.size + 1 + 1, 0, none⟩) 1 1, .int .i64 0, .int .i64 0, .int .i64 0] 53)).drew) := by
 refine ⟨⟨(.slice (some ⟨w.heap.size + 1, 0, none⟩) n n), (.slice (some ⟨w.heap.size, 0, none⟩) n n), (.slice (some ⟨w.heap.size + 1 + 1, 0, none⟩) 1 1), ?_, ?_, ?_, ?_, by omega⟩, below_drew (below_alloc (below_alloc (below_alloc (below_alloc (Below.refl _ _) _) _) _) _)⟩
 ·
  have h := blk_new (((w.alloc (.cells (madeCells #[.int .i64 0] n) 3)).alloc (.cells (madeCells #[.int .i64 0] n) 3)).alloc (.cells #[.int .i64 base, .int .i64 0, .bool false] 74)) (.cells #[.slice A n c, .slice (some ⟨w.heap.size + 1, 0, none⟩) n n, .slice (some ⟨w.heap.size, 0, none⟩) n n, .slice (some ⟨w.heap.size + 1 + 1, 0, none⟩) 1 1, .int .i64 0, .int .i64 0, .int .i64 0] 53)
  rw [show ((((w.alloc (.cells (madeCells #[.int .i64 0] n) 3)).alloc (.cells (madeCells #[.int .i64 0] n) 3)).alloc (.cells #[.int .i64 base, .int .i64 0, .bool false] 74))).heap.size = w.heap.size + 1 + 1 + 1 by simp] at h
  exact blk_drew h
 ·
  skip
  have h := R_madeI (w.alloc (.cells (madeCells #[.int .i64 0] n) 3)) w.heap.size n (fun k => some k ≠ Value.ownBlock (.slice (some ⟨w.heap.size, 0, none⟩) n n)) (by simp <;> omega) (by simp [Value.ownBlock] <;> omega) hn
  rw [show ((w.alloc (.cells (madeCells #[.int .i64 0] n) 3))).heap.size = w.heap.size + 1 by simp] at h
  exact Kd.R_drew (Kd.R_alloc (Kd.R_alloc h _) _)
 ·
  skip
  have h := R_madeI w w.heap.size n (fun k => some k ≠ Value.ownBlock (.slice (some ⟨w.heap.size + 1, 0, none⟩) n n)) (by simp <;> omega) (by simp [Value.ownBlock] <;> omega) hn
  exact Kd.R_drew (Kd.R_alloc (Kd.R_alloc (Kd.R_alloc h _) _) _)
 ·
  skip
  have h := R_oneT ((w.alloc (.cells (madeCells #[.int .i64 0] n) 3)).alloc (.cells (madeCells #[.int .i64 0] n) 3)) w.heap.size base (by simp <;> omega)
  rw [show (((w.alloc (.cells (madeCells #[.int .i64 0] n) 3)).alloc (.cells (madeCells #[.int .i64 0] n) 3))).heap.size = w.heap.size + 1 + 1 by simp] at h
  exact Kd.R_drew (Kd.R_alloc h _)
theorem start_3 (w : World) (A : Option Addr) (c n : Nat) (base : Int) (hn : n ≤ 1000) : IsWk (((((w.alloc (.cells (madeCells #[.int .i64 0] n) 3)).alloc (.cells #[.int .i64 base, .int .i64 0, .bool false] 74)).alloc (.cells (madeCells #[.int .i64 0] n) 3)).alloc (.cells #[.slice A n c, .slice (some ⟨w.heap.size + 1 + 1, 0, none⟩) n n, .slice (some ⟨w.heap.size, 0, none⟩) n n, .slice (some ⟨w.heap.size + 1, 0, none⟩) 1 1, .int .i64 0, .int .i64 0, .int .i64 0] 53)).drew) w.heap.size (w.heap.size + 1 + 1 + 1) A c n (walkS n base) ∧ Below w.heap.size w (((((w.alloc (.cells (madeCells #[.int .i64 0] n) 3)).alloc (.cells #[.int .i64 base, .int .i64 0, .bool false] 74)).alloc (.cells (madeCells #[.int .i64 0] n) 3)).alloc (.cells #[.slice A n c, .slice (some ⟨w.heap.size + 1 + 1, 0, none⟩) n n, .slice (some ⟨w.heap.size, 0, none⟩) n n, .slice (some ⟨w.heap.size + 1, 0, none⟩) 1 1, .int .i64 0, .int .i64 0, .int .i64 0] 53)).drew) := by
 refine ⟨⟨(.slice (some ⟨w.heap.size + 1 + 1, 0, none⟩) n n), (.slice (some ⟨w.heap.size, 0, none⟩) n n), (.slice (some ⟨w.heap.size + 1, 0, none⟩) 1 1), ?_, ?_, ?_, ?_, by omega⟩, below_drew (below_alloc (below_alloc (below_alloc (below_alloc (Below.refl _ _) _) _) _) _)⟩
 ·
  have h := blk_new (((w.alloc (.cells (madeCells #[.int .i64 0] n) 3)).alloc (.cells #[.int .i64 base, .int .i64 0, .bool false] 74)).alloc (.cells (madeCells #[.int .i64 0] n) 3)) (.cells #[.slice A n c, .slice (some ⟨w.heap.size + 1 + 1, 0, none⟩) n n, .slice (some ⟨w.heap.size, 0, none⟩) n n, .slice (some ⟨w.heap.size + 1, 0, none⟩) 1 1, .int .i64 0, .int .i64 0, .int .i64 0] 53)
  rw [show ((((w.alloc (.cells (madeCells #[.int .i64 0] n) 3)).alloc (.cells #[.int .i64 base, .int .i64 0, .bool false] 74)).alloc (.cells (madeCells #[.int .i64 0] n) 3))).heap.size = w.heap.size + 1 + 1 + 1 by simp] at h
  exact blk_drew h
 ·
  skip
  have h := R_madeI ((w.alloc (.cells (madeCells #[.int .i64 0] n) 3)).alloc (.cells #[.int .i64 base, .int .i64 0, .bool false] 74)) w.heap.size n (fun k => some k ≠ Value.ownBlock (.slice (some ⟨w.heap.size, 0, none⟩) n n)) (by simp <;> omega) (by simp [Value.ownBlock] <;> omega) hn
  rw [show (((w.alloc (.cells (madeCells #[.int .i64 0] n) 3)).alloc (.cells #[.int .i64 base, .int .i64 0, .bool false] 74))).heap.size = w.heap.size + 1 + 1 by simp] at h
  exact Kd.R_drew (Kd.R_alloc h _)
 ·
  skip
  have h := R_madeI w w.heap.size n (fun k => some k ≠ Value.ownBlock (.slice (some ⟨w.heap.size + 1 + 1, 0, none⟩) n n)) (by simp <;> omega) (by simp [Value.ownBlock] <;> omega) hn
  exact Kd.R_drew (Kd.R_alloc (Kd.R_alloc (Kd.R_alloc h _) _) _)
 ·
  skip
  have h := R_oneT (w.alloc (.cells (madeCells #[.int .i64 0] n) 3)) w.heap.size base (by simp <;> omega)
  rw [show ((w.alloc (.cells (madeCells #[.int .i64 0] n) 3))).heap.size = w.heap.size + 1 by simp] at h
  exact Kd.R_drew (Kd.R_alloc (Kd.R_alloc h _) _)
theorem start_4 (w : World) (A : Option Addr) (c n : Nat) (base : Int) (hn : n ≤ 1000) : IsWk (((((w.alloc (.cells #[.int .i64 base, .int .i64 0, .bool false] 74)).alloc (.cells (madeCells #[.int .i64 0] n) 3)).alloc (.cells (madeCells #[.int .i64 0] n) 3)).alloc (.cells #[.slice A n c, .slice (some ⟨w.heap.size + 1, 0, none⟩) n n, .slice (some ⟨w.heap.size + 1 + 1, 0, none⟩) n n, .slice (some ⟨w.heap.size, 0, none⟩) 1 1, .int .i64 0, .int .i64 0, .int .i64 0] 53)).drew) w.heap.size (w.heap.size + 1 + 1 + 1) A c n (walkS n base) ∧ Below w.heap.size w (((((w.alloc (.cells #[.int .i64 base, .int .i64 0, .bool false] 74)).alloc (.cells (madeCells #[.int .i64 0] n) 3)).alloc (.cells (madeCells #[.int .i64 0] n) 3)).alloc (.cells #[.slice A n c, .slice (some ⟨w.heap.size + 1, 0, none⟩) n n, .slice (some ⟨w.heap.size + 1 + 1, 0, none⟩) n n, .slice (some ⟨w.heap.size, 0, none⟩) 1 1, .int .i64 0, .int .i64 0, .int .i64 0] 53)).drew) := by
 refine ⟨⟨(.slice (some ⟨w.heap.size + 1, 0, none⟩) n n), (.slice (some ⟨w.heap.size + 1 + 1, 0, none⟩) n n), (.slice (some ⟨w.heap.size, 0, none⟩) 1 1), ?_, ?_, ?_, ?_, by omega⟩, below_drew (below_alloc (below_alloc (below_alloc (below_alloc (Below.refl _ _) _) _) _) _)⟩
 ·
  have h := blk_new (((w.alloc (.cells #[.int .i64 base, .int .i64 0, .bool false] 74)).alloc (.cells (madeCells #[.int .i64 0] n) 3)).alloc (.cells (madeCells #[.int .i64 0] n) 3)) (.cells #[.slice A n c, .slice (some ⟨w.heap.size + 1, 0, none⟩) n n, .slice (some ⟨w.heap.size + 1 + 1, 0, none⟩) n n, .slice (some ⟨w.heap.size, 0, none⟩) 1 1, .int .i64 0, .int .i64 0, .int .i64 0] 53)
  rw [show ((((w.alloc (.cells #[.int .i64 base, .int .i64 0, .bool false] 74)).alloc (.cells (madeCells #[.int .i64 0] n) 3)).alloc (.cells (madeCells #[.int .i64 0] n) 3))).heap.size = w.heap.size + 1 + 1 + 1 by simp] at h
  exact blk_drew h
 ·
  skip
  have h := R_madeI (w.alloc (.cells #[.int .i64 base, .int .i64 0, .bool false] 74)) w.heap.size n (fun k => some k ≠ Value.ownBlock (.slice (some ⟨w.heap.size + 1 + 1, 0, none⟩) n n)) (by simp <;> omega) (by simp [Value.ownBlock] <;> omega) hn
  rw [show ((w.alloc (.cells #[.int .i64 base, .int .i64 0, .bool false] 74))).heap.size = w.heap.size + 1 by simp] at h
  exact Kd.R_drew (Kd.R_alloc (Kd.R_alloc h _) _)
 ·
  skip
  have h := R_madeI ((w.alloc (.cells #[.int .i64 base, .int .i64 0, .bool false] 74)).alloc (.cells (madeCells #[.int .i64 0] n) 3)) w.heap.size n (fun k => some k ≠ Value.ownBlock (.slice (some ⟨w.heap.size + 1, 0, none⟩) n n)) (by simp <;> omega) (by simp [Value.ownBlock] <;> omega) hn
  rw [show (((w.alloc (.cells #[.int .i64 base, .int .i64 0, .bool false] 74)).alloc (.cells (madeCells #[.int .i64 0] n) 3))).heap.size = w.heap.size + 1 + 1 by simp] at h
  exact Kd.R_drew (Kd.R_alloc h _)
 ·
  skip
  have h := R_oneT w w.heap.size base (by simp <;> omega)
  exact Kd.R_drew (Kd.R_alloc (Kd.R_alloc (Kd.R_alloc h _) _) _)
theorem start_5 (w : World) (A : Option Addr) (c n : Nat) (base : Int) (hn : n ≤ 1000) : IsWk (((((w.alloc (.cells #[.int .i64 base, .int .i64 0, .bool false] 74)).alloc (.cells (madeCells #[.int .i64 0] n) 3)).alloc (.cells (madeCells #[.int .i64 0] n) 3)).alloc (.cells #[.slice A n c, .slice (some ⟨w.heap.size + 1 + 1, 0, none⟩) n n, .slice (some ⟨w.heap.size + 1, 0, none⟩) n n, .slice (some ⟨w.heap.size, 0, none⟩) 1 1, .int .i64 0, .int .i64 0, .int .i64 0] 53)).drew) w.heap.size (w.heap.size + 1 + 1 + 1) A c n (walkS n base) ∧ Below w.heap.size w (((((w.alloc (.cells #[.int .i64 base, .int .i64 0, .bool false] 74)).alloc (.cells (madeCells #[.int .i64 0] n) 3)).alloc (.cells (madeCells #[.int .i64 0] n) 3)).alloc (.cells #[.slice A n c, .slice (some ⟨w.heap.size + 1 + 1, 0, none⟩) n n, .slice (some ⟨w.heap.size + 1, 0, none⟩) n n, .slice (some ⟨w.heap.size, 0, none⟩) 1 1, .int .i64 0, .int .i64 0, .int .i64 0] 53)).drew) := by
 refine ⟨⟨(.slice (some ⟨w.heap.size + 1 + 1, 0, none⟩) n n), (.slice (some ⟨w.heap.size + 1, 0, none⟩) n n), (.slice (some ⟨w.heap.size, 0, none⟩) 1 1), ?_, ?_, ?_, ?_, by omega⟩, below_drew (below_alloc (below_alloc (below_alloc (below_alloc (Below.refl _ _) _) _) _) _)⟩
 ·
  have h := blk_new (((w.alloc (.cells #[.int .i64 base, .int .i64 0, .bool false] 74)).alloc (.cells (madeCells #[.int .i64 0] n) 3)).alloc (.cells (madeCells #[.int .i64 0] n) 3)) (.cells #[.slice A n c, .slice (some ⟨w.heap.size + 1 + 1, 0, none⟩) n n, .slice (some ⟨w.heap.size + 1, 0, none⟩) n n, .slice (some ⟨w.heap.size, 0, none⟩) 1 1, .int .i64 0, .int .i64 0, .int .i64 0] 53)
  rw [show ((((w.alloc (.cells #[.int .i64 base, .int .i64 0, .bool false] 74)).alloc (.cells (madeCells #[.int .i64 0] n) 3)).alloc (.cells (madeCells #[.int .i64 0] n) 3))).heap.size = w.heap.size + 1 + 1 + 1 by simp] at h
  exact blk_drew h
 ·
  skip
  have h := R_madeI ((w.alloc (.cells #[.int .i64 base, .int .i64 0, .bool false] 74)).alloc (.cells (madeCells #[.int .i64 0] n) 3)) w.heap.size n (fun k => some k ≠ Value.ownBlock (.slice (some ⟨w.heap.size + 1, 0, none⟩) n n)) (by simp <;> omega) (by simp [Value.ownBlock] <;> omega) hn
  rw [show (((w.alloc (.cells #[.int .i64 base, .int .i64 0, .bool false] 74)).alloc (.cells (madeCells #[.int .i64 0] n) 3))).heap.size = w.heap.size + 1 + 1 by simp] at h
  exact Kd.R_drew (Kd.R_alloc h _)
 ·
  skip
  have h := R_madeI (w.alloc (.cells #[.int .i64 base, .int .i64 0, .bool false] 74)) w.heap.size n (fun k => some k ≠ Value.ownBlock (.slice (some ⟨w.heap.size + 1 + 1, 0, none⟩) n n)) (by simp <;> omega) (by simp [Value.ownBlock] <;> omega) hn
  rw [show ((w.alloc (.cells #[.int .i64 base, .int .i64 0, .bool false] 74))).heap.size = w.heap.size + 1 by simp] at h
  exact Kd.R_drew (Kd.R_alloc (Kd.R_alloc h _) _)
 ·
  skip
  have h := R_oneT w w.heap.size base (by simp <;> omega)
  exact Kd.R_drew (Kd.R_alloc (Kd.R_alloc (Kd.R_alloc h _) _) _)
theorem walk_some {k : Nat} {rs : List Int} {base : Int} {s' : WkS} : ∀ (d j : Nat), walkF k rs base (j + d) = some s' → ∃ t, walkF k rs base j = some t
 | 0, j, h => ⟨s', h⟩
 | d + 1, j, h => by
  obtain ⟨t, ht⟩ := walk_some d (j + 1) (by rw [show j + 1 + d = j + (d + 1) by omega]; exact h)
  rw [walkF] at ht
  obtain ⟨u, hu, _⟩ := Option.bind_eq_some_iff.mp ht
  exact ⟨u, hu⟩
theorem l3All_calls (k : Nat) (A0 : Option Addr) (c0 : Nat) (l0 : List Int) (base : Int) (s' : WkS) (w : World) (hr0 : Kd.C (Kd.int .i64) w A0 l0.length l0) (hc0 : l0.length ≤ c0) (hn : l0.length ≤ 400) (h : walkF k l0 base l0.length = some s') :
  Calls Try.prog 46 #[.slice A0 l0.length c0, .int .i64 base] w fun e w' => ∃ gb, e = .returned (.pointer (some ⟨gb, 0, none⟩)) ∧ IsWk w' w.heap.size gb A0 c0 l0.length s' ∧ Below w.heap.size w w' := by
 have HR := az hr0
 have HC := az hc0
 have HH := az h
 have hmk := print_make (P := Try.prog) 22 3 .i64 8 Try.underlying22 info3 (by decide) l0.length (by omega)
 clear hr0 hc0 h
 go_enter Try.func46, Try.ntmps46
 go_wp2
 go_region
 all_goals
  clear hmk
  go_wp2
  go_loopg [6] l0.length (fun gg s6 wr => ∃ (j : Nat) (s : WkS), s6 = .int .i64 j ∧ j ≤ l0.length ∧ l0.length - j ≤ gg ∧ Aside0 (walkF k l0 base j = some s) ∧ Aside0 (IsWk wr w.heap.size (w.heap.size + 1 + 1 + 1) A0 c0 l0.length s) ∧ Aside0 (Below w.heap.size w wr))
  case atStart => first | exact ⟨0, _, rfl, Nat.zero_le _, by omega, ⟨rfl⟩, ⟨(start_0 w A0 c0 l0.length base (by omega)).1⟩, ⟨(start_0 w A0 c0 l0.length base (by omega)).2⟩⟩ | exact ⟨0, _, rfl, Nat.zero_le _, by omega, ⟨rfl⟩, ⟨(start_1 w A0 c0 l0.length base (by omega)).1⟩, ⟨(start_1 w A0 c0 l0.length base (by omega)).2⟩⟩ | exact ⟨0, _, rfl, Nat.zero_le _, by omega, ⟨rfl⟩, ⟨(start_2 w A0 c0 l0.length base (by omega)).1⟩, ⟨(start_2 w A0 c0 l0.length base (by omega)).2⟩⟩ | exact ⟨0, _, rfl, Nat.zero_le _, by omega, ⟨rfl⟩, ⟨(start_3 w A0 c0 l0.length base (by omega)).1⟩, ⟨(start_3 w A0 c0 l0.length base (by omega)).2⟩⟩ | exact ⟨0, _, rfl, Nat.zero_le _, by omega, ⟨rfl⟩, ⟨(start_4 w A0 c0 l0.length base (by omega)).1⟩, ⟨(start_4 w A0 c0 l0.length base (by omega)).2⟩⟩ | exact ⟨0, _, rfl, Nat.zero_le _, by omega, ⟨rfl⟩, ⟨(start_5 w A0 c0 l0.length base (by omega)).1⟩, ⟨(start_5 w A0 c0 l0.length base (by omega)).2⟩⟩
  case round =>
   obtain ⟨j, s, rfl, hj, hg, HF, HS, HB⟩ := hrel
   by_cases hlt : j < l0.length
   ·
    have hltz : (j : Int) < (l0.length : Int) := by omega
    have HI := az (inv_walk j s HF.out)
    have hj9 : j < 1000 := by omega
    obtain ⟨gl, cpl, f1, f2, f3, f4⟩ := HS.out.lv0 HB.out j (by rw [HI.out.1]; exact hlt)
    have hll := HI.out.1
    rw [hll] at f1
    clear hll
    have F4 := az (f4 (-1))
    clear f4
    obtain ⟨tt, htt⟩ := walk_some (s' := s') (l0.length - (j + 1)) (j + 1) (by rw [show j + 1 + (l0.length - (j + 1)) = l0.length by omega]; exact HH.out)
    have HT := az htt
    have HLT := az (show letterF k l0 j { s with lv := s.lv.set j (-1) } = some tt by
     rw [walkF, HF.out] at htt
     exact htt)
    clear htt
    have HIS := az (show InvW l0.length (2 * j) { s with lv := s.lv.set j (-1) } from ⟨by simpa using HI.out.1, HI.out.2⟩)
    have HLTN := az hlt
    have HN := az hn
    clear hn hlt
    go_wp2_with (go_at_call 72; refine (letter_calls k w _ _ A0 c0 l0 { s with lv := s.lv.set j (-1) } tt j F4.out.2 F4.out.1 (inv_Wb HIS.out (by have := HN.out; have := HLTN.out; omega)) (inv_Wb (inv_ends HIS.out) (by have := HN.out; have := HLTN.out; omega)) (fun h0 => by obtain ⟨_, _, _, _, _, _, h7, _⟩ := HIS.out; exact cntA_some _ (by simp only at h7 h0 ⊢; omega)) HR.out HC.out HLTN.out hj9 HIS.out.1 HIS.out.2.1 HLT.out).mono ?_; rintro e w2 ⟨rfl, hs2, hb2⟩; have HS2 := az hs2; have HB2 := az hb2; clear hs2 hb2)
    go_roundg (l0.length - (j + 1))
    case measure => have := HLTN.out; omega
    case rel => exact ⟨j + 1, tt, by go_num, by have := HLTN.out; omega, Nat.le_refl _, HT, HS2, HB2⟩
   ·
    have hltz : ¬ (j : Int) < (l0.length : Int) := by omega
    obtain rfl : j = l0.length := by omega
    have e : s = s' := by
     have a := HF.out
     rw [HH.out] at a
     exact (Option.some.inj a).symm
    subst e
    go_wp2
    go_ret
    exact ⟨_, rfl, HS.out, HB.out⟩
theorem letterF_mono (rs : List Int) (i : Nat) (s : WkS) (k : Nat) : LeO (letterF k rs i s) (letterF (k + 1) rs i s) := by
 unfold letterF
 refine LeO.bind (spec_RuneBidi.mono _ _) (fun c => ?_)
 repeat' first
  | exact LeO.refl _
  | refine LeO.ite ?_ ?_
  | refine LeO.bind (spec_l3Mate.mono _ _ _) (fun m => ?_)
  | refine LeO.bind (spec_l3Base.mono _ _ _ _) (fun b => ?_)
theorem walkF_mono (rs : List Int) (base : Int) (k : Nat) : ∀ j, LeO (walkF k rs base j) (walkF (k + 1) rs base j)
 | 0 => LeO.refl _
 | j + 1 => by
  rw [walkF, walkF]
  exact LeO.bind (walkF_mono rs base k j) (fun s => letterF_mono _ _ _ _)
theorem mt_row (W : World) (base : Nat) (ok : Nat → Prop) (hb : base ≤ W.heap.size) (hok : ok W.heap.size) : Kd.R (Kd.int .i64) 3 (W.alloc (.cells #[] 3)) base ok (.slice (some ⟨W.heap.size, 0, none⟩) 0 0) [] := by
 have e : madeCells #[Value.int .i64 0] 0 = #[] := by simp [madeCells]
 have h := R_madeI W base 0 ok hb hok (by omega)
 rw [e] at h
 exact h
theorem two_mt (W : World) (base : Nat) (hb : base ≤ W.heap.size) : Kd.R (Kd.int .i64) 3 ((W.alloc (.cells #[] 3)).alloc (.cells #[] 3)) base (fun k_ => some k_ ≠ (Value.slice (some ⟨W.heap.size + 1, 0, none⟩) 0 0).ownBlock) (.slice (some ⟨W.heap.size, 0, none⟩) 0 0) [] ∧ Kd.R (Kd.int .i64) 3 ((W.alloc (.cells #[] 3)).alloc (.cells #[] 3)) base (fun k_ => some k_ ≠ (Value.slice (some ⟨W.heap.size, 0, none⟩) 0 0).ownBlock) (.slice (some ⟨W.heap.size + 1, 0, none⟩) 0 0) [] := by
 have h := mt_row (W.alloc (.cells #[] 3)) base (fun k_ => some k_ ≠ (Value.slice (some ⟨W.heap.size, 0, none⟩) 0 0).ownBlock) (by simp; omega) (by simp [Value.ownBlock])
 rw [show (W.alloc (.cells #[] 3)).heap.size = W.heap.size + 1 by simp] at h
 exact ⟨Kd.R_alloc (mt_row W base _ hb (by simp [Value.ownBlock])) _, h⟩
def spec_LevelsTold.f (k : Nat) (l0 : List Int) (a1 : Int) : Option (List Int × List Int) :=
 (spec_l3Ok.f k l0 a1).bind fun b => if b = true then (if l0.length ≤ 400 then (walkF k l0 a1 l0.length).bind fun s => some (s.lv, s.cl) else none) else some ([], [])
theorem spec_LevelsTold.mono : ∀ a0 a1 k, LeO (spec_LevelsTold.f k a0 a1) (spec_LevelsTold.f (k + 1) a0 a1) := by
 intro a0 a1 k
 unfold spec_LevelsTold.f
 refine LeO.bind (spec_l3Ok.mono _ _ _) (fun b => LeO.ite (LeO.ite (LeO.bind (walkF_mono _ _ _ _) (fun s => LeO.refl _)) (LeO.refl _)) (LeO.refl _))
theorem spec_LevelsTold.calls (k : Nat) (A0 : Option Addr) (c0 : Nat) (l0 : List Int) (a1 : Int) (r1 r2 : List Int) (w : World) (hr0 : Kd.C (Kd.int .i64) w A0 l0.length l0) (hc0 : l0.length ≤ c0) (h : spec_LevelsTold.f k l0 a1 = some (r1, r2)) :
  Calls Try.prog 17 #[.slice A0 l0.length c0, .int .i64 a1] w fun e w' => ∃ v0_ v1_ : Value, e = .returned (.tuple #[v0_, v1_]) ∧ Kd.R (Kd.int .i64) 3 w' w.heap.size (fun k_ => some k_ ≠ (v1_ : Value).ownBlock) v0_ r1 ∧ Kd.R (Kd.int .i64) 3 w' w.heap.size (fun k_ => some k_ ≠ (v0_ : Value).ownBlock) v1_ r2 ∧ Below w.heap.size w w' := by
 have HR := az hr0
 have HC := az hc0
 clear hr0 hc0
 unfold spec_LevelsTold.f at h
 obtain ⟨b, hb, h⟩ := Option.bind_eq_some_iff.mp h
 have HOK := az hb
 clear hb
 cases b with
 | false =>
  rw [if_neg (by decide)] at h
  obtain ⟨rfl, rfl⟩ := Prod.mk.inj (Option.some.inj h)
  clear h
  go_enter Try.func17, Try.ntmps17
  go_wp2_with (go_at_call 45; refine (spec_l3Ok.calls k _ _ l0 a1 false _ HR.out HC.out HOK.out).mono ?_; rintro e w1 ⟨rfl, ⟨nd, rfl⟩⟩)
  try go_region
  all_goals (try go_wp2)
  all_goals go_ret2
  all_goals first
   | exact ⟨_, _, rfl, (two_mt (w.drewN nd) w.heap.size (Nat.le_refl _)).1, (two_mt (w.drewN nd) w.heap.size (Nat.le_refl _)).2, below_alloc (below_alloc (pw_below_drewN (Below.refl _ _) nd) _) _⟩
   | exact ⟨_, _, rfl, (two_mt (w.drewN nd) w.heap.size (Nat.le_refl _)).2, (two_mt (w.drewN nd) w.heap.size (Nat.le_refl _)).1, below_alloc (below_alloc (pw_below_drewN (Below.refl _ _) nd) _) _⟩
   | exact ⟨_, _, rfl, Kd.R_drew (two_mt (w.drewN nd) w.heap.size (Nat.le_refl _)).1, Kd.R_drew (two_mt (w.drewN nd) w.heap.size (Nat.le_refl _)).2, below_drew (below_alloc (below_alloc (pw_below_drewN (Below.refl _ _) nd) _) _)⟩
   | exact ⟨_, _, rfl, Kd.R_drew (two_mt (w.drewN nd) w.heap.size (Nat.le_refl _)).2, Kd.R_drew (two_mt (w.drewN nd) w.heap.size (Nat.le_refl _)).1, below_drew (below_alloc (below_alloc (pw_below_drewN (Below.refl _ _) nd) _) _)⟩
 | true =>
  rw [if_pos rfl] at h
  by_cases hn : l0.length ≤ 400
  ·
   rw [if_pos hn] at h
   obtain ⟨s, hs, h⟩ := Option.bind_eq_some_iff.mp h
   obtain ⟨rfl, rfl⟩ := Prod.mk.inj (Option.some.inj h)
   have HS := az hs
   have HN := az hn
   clear h hs hn
   go_enter Try.func17, Try.ntmps17
   go_wp2_with (first
    | (go_at_call 45; refine (spec_l3Ok.calls k _ _ l0 a1 true _ HR.out HC.out HOK.out).mono ?_; rintro e w1 ⟨rfl, ⟨nd, rfl⟩⟩)
    | (go_at_call 46; refine (l3All_calls k A0 c0 l0 a1 s _ (Kd.C_below HR.out (pw_below_drewN (Below.refl _ _) nd)) HC.out HN.out HS.out).mono ?_; rintro e w2 ⟨gb, rfl, h2, hb2⟩; obtain ⟨vl, vc, vs, q1, q2, q3, q4, q5⟩ := h2; have hc1 := (blk_cell q1 1).trans (show _ = some vl from rfl); have hc2 := (blk_cell q1 2).trans (show _ = some vc from rfl); have Q2 := az q2; have Q3 := az q3; have HB2 := az hb2; clear q1 q2 q3 q4 q5 hb2))
   try go_region
   all_goals (try go_wp2)
   all_goals go_ret2
   all_goals exact ⟨_, _, rfl, Kd.R_drew Q2.out, Kd.R_drew Q3.out, below_drew (below_then (pw_below_drewN (Below.refl w.heap.size w) nd) (pw_below_drewN (Below.refl w.heap.size w) nd).size HB2.out)⟩
  ·
   rw [if_neg hn] at h
   cases h
def spec_l3Left.l0 : Nat → List Int → Int → Option (Int)
 | 0, _, _ => none
 | k + 1, x0, x1 => if x1 < (x0.length : Int) then (if 0 ≤ x1 then (if (rd x0 x1) < 0 then (spec_l3Left.l0 k x0 (wrap64 (x1 + 1))) else (some x1)) else (none)) else (some x1)
def spec_l3Left.f (k : Nat) (l0 : List Int) (a1 : Int) : Option (Int) := spec_l3Left.l0 k l0 a1
theorem spec_l3Left.mono_l : ∀ k, (∀ y0 y1, LeO (spec_l3Left.l0 k y0 y1) (spec_l3Left.l0 (k + 1) y0 y1))
 | 0 => fun _ _ r h => by simp [spec_l3Left.l0] at h
 | k + 1 => by
  have ih0 := spec_l3Left.mono_l k
  ·
   intro y0 y1; unfold spec_l3Left.l0
   repeat' first
   | (with_reducible exact ih0 _ _)
   | (with_reducible exact LeO.refl _)
   | (with_reducible exact LeO.none _)
   | (with_reducible refine LeO.ite ?_ ?_)
   | (with_reducible refine LeO.bind ?_ (fun _ => ?_))
   | exact ih0 _ _
   | exact LeO.none _
   | refine LeO.ite ?_ ?_
   | refine LeO.bind ?_ (fun _ => ?_)
theorem spec_l3Left.mono : ∀ a0 a1 k, LeO (spec_l3Left.f k a0 a1) (spec_l3Left.f (k + 1) a0 a1) := by
 intro a0 a1 k; have ih0 := spec_l3Left.mono_l k; unfold spec_l3Left.f
 repeat' first
   | (with_reducible exact ih0 _ _)
   | (with_reducible exact LeO.refl _)
   | (with_reducible exact LeO.none _)
   | (with_reducible refine LeO.ite ?_ ?_)
   | (with_reducible refine LeO.bind ?_ (fun _ => ?_))
   | exact ih0 _ _
   | exact LeO.none _
   | refine LeO.ite ?_ ?_
   | refine LeO.bind ?_ (fun _ => ?_)
theorem spec_l3Left.calls (k : Nat) (A0 : Option Addr) (c0 : Nat) (l0 : List Int) (a1 : Int) (r : Int) (w : World) (hr0 : Kd.C (Kd.int .i64) w A0 l0.length l0) (hc0 : l0.length ≤ c0) (h : spec_l3Left.f k l0 a1 = some r) :
  Calls Try.prog 81 #[.slice A0 l0.length c0, .int .i64 a1] w fun e w' => e = .returned (.int .i64 r) ∧ Drawn0 w w' := by
 have HR0 := az hr0; have HC0 := az hc0; clear hr0 hc0; have H : (spec_l3Left.l0 k l0 a1) = some r := h; clear h; have H' := az H; clear H; go_enter Try.func81, Try.ntmps81; go_wp2; go_loopg [1] k (fun kq v1 w' => ∃ (x1_1 : Int), v1 = .int .i64 x1_1 ∧ Aside0 (spec_l3Left.l0 kq l0 x1_1 = some r) ∧ Aside0 (kq ≤ k) ∧ Drawn0 w w')
 case atStart => exact ⟨(a1), (by first | rfl | (simp; done) | (simp [*]; done)), H', ⟨Nat.le_refl _⟩, by repeat (first | exact Drawn0.refl _ | apply Drawn0.step)⟩
 case round =>
  clear H'; (try clear p2); obtain ⟨x1_1, rfl, HA, HK1, ⟨m1, rfl⟩⟩ := hrel
  cases gk with
  | zero => exact absurd HA.out (by simp [spec_l3Left.l0])
  | succ k1 =>
   have H := HA.out; clear HA; simp only [spec_l3Left.l0] at H; by_cases c3 : x1_1 < (l0.length : Int)
   ·
    rw [if_pos c3] at H; have c3b0 : decide (x1_1 < (l0.length : Int)) = true := decide_eq_true c3; clear c3; by_cases c4 : 0 ≤ x1_1
    ·
     rw [if_pos c4] at H; have c4b0 : decide (0 ≤ x1_1) = true := decide_eq_true c4; clear c4; by_cases c5 : (rd l0 x1_1) < 0
     ·
      rw [if_pos c5] at H; have c5b0 : decide ((rd l0 x1_1) < 0) = true := decide_eq_true c5; clear c5; have H' := az H; clear H; have p508 : 0 ≤ (x1_1 : Int) := of_decide_eq_true (by assumption); have q508 : x1_1 < (l0.length : Int) := of_decide_eq_true (by assumption); obtain ⟨ad508, e508, hx508_0⟩ := Kd.at_int HR0.out x1_1 p508 q508
      cases e508
      replace p508 := eq_true p508; replace q508 := eq_true q508; go_wp2; go_roundg k1
      case measure => have := HK1.out; omega
      case rel => exact ⟨(wrap64 (x1_1 + 1)), (by first | rfl | (simp; done) | (simp [*]; done)), H', ⟨by have := HK1.out; omega⟩, by repeat (first | exact Drawn0.refl _ | apply Drawn0.step)⟩
     ·
      rw [if_neg c5] at H; have c5b0 : decide ((rd l0 x1_1) < 0) = false := decide_eq_false c5; clear c5; obtain rfl := Option.some.inj H; have p508 : 0 ≤ (x1_1 : Int) := of_decide_eq_true (by assumption); have q508 : x1_1 < (l0.length : Int) := of_decide_eq_true (by assumption); obtain ⟨ad508, e508, hx508_0⟩ := Kd.at_int HR0.out x1_1 p508 q508
      cases e508
      replace p508 := eq_true p508; replace q508 := eq_true q508; go_wp2; go_ret; exact ⟨by first | rfl | (simp; done) | (simp [*]; done), by repeat (first | exact Drawn0.refl _ | apply Drawn0.step)⟩
    ·
     rw [if_neg c4] at H; exact absurd H (by simp)
   ·
    rw [if_neg c3] at H; have c3b0 : decide (x1_1 < (l0.length : Int)) = false := decide_eq_false c3; clear c3; obtain rfl := Option.some.inj H; go_wp2; go_ret; exact ⟨by first | rfl | (simp; done) | (simp [*]; done), by repeat (first | exact Drawn0.refl _ | apply Drawn0.step)⟩
mutual
def spec_l3Run.l0 : Nat → List Int → Int → List Int → Int → Option (List Int)
 | 0, _, _, _, _ => none
 | k + 1, x0, x1, x5, x6 => if x6 < (x0.length : Int) then (if 0 ≤ x6 then (if (rd x0 x6) < 0 then (spec_l3Run.j1 k x0 x1 x5 x6 true) else (if 0 ≤ x1 then (if x1 < (x0.length : Int) then (spec_l3Run.j1 k x0 x1 x5 x6 ((rd x0 x6) == (rd x0 x1))) else (none)) else (none))) else (none)) else (spec_l3Run.j1 k x0 x1 x5 x6 false)
def spec_l3Run.j1 : Nat → List Int → Int → List Int → Int → Bool → Option (List Int)
 | 0, _, _, _, _, _ => none
 | k + 1, x0, x1, x5, x6, x30 => if x30 = true then (if 0 ≤ x6 then (if x6 < (x0.length : Int) then (if (rd x0 x6) ≥ 0 then (if x5.length < 17592186044416 then (spec_l3Run.l0 k x0 x1 (x5 ++ [x6]) (wrap64 (x6 + 1))) else (none)) else (spec_l3Run.l0 k x0 x1 x5 (wrap64 (x6 + 1)))) else (none)) else (none)) else (some x5)
end
def spec_l3Run.f (k : Nat) (l0 : List Int) (a1 : Int) : Option (List Int) := spec_l3Run.l0 k l0 a1 (([] : List Int)) a1
theorem spec_l3Run.mono_l : ∀ k, (∀ y0 y1 y2 y3, LeO (spec_l3Run.l0 k y0 y1 y2 y3) (spec_l3Run.l0 (k + 1) y0 y1 y2 y3)) ∧ (∀ y0 y1 y2 y3 y4, LeO (spec_l3Run.j1 k y0 y1 y2 y3 y4) (spec_l3Run.j1 (k + 1) y0 y1 y2 y3 y4))
 | 0 => ⟨fun _ _ _ _ r h => by simp [spec_l3Run.l0] at h, fun _ _ _ _ _ r h => by simp [spec_l3Run.j1] at h⟩
 | k + 1 => by
  obtain ⟨ih0, ih1⟩ := spec_l3Run.mono_l k; refine ⟨?_, ?_⟩
  ·
   intro y0 y1 y2 y3; unfold spec_l3Run.l0
   repeat' first
   | (with_reducible exact ih0 _ _ _ _)
   | (with_reducible exact ih1 _ _ _ _ _)
   | (with_reducible exact LeO.refl _)
   | (with_reducible exact LeO.none _)
   | (with_reducible refine LeO.ite ?_ ?_)
   | (with_reducible refine LeO.bind ?_ (fun _ => ?_))
   | exact ih0 _ _ _ _
   | exact ih1 _ _ _ _ _
   | exact LeO.none _
   | refine LeO.ite ?_ ?_
   | refine LeO.bind ?_ (fun _ => ?_)
  ·
   intro y0 y1 y2 y3 y4; unfold spec_l3Run.j1
   repeat' first
   | (with_reducible exact ih0 _ _ _ _)
   | (with_reducible exact ih1 _ _ _ _ _)
   | (with_reducible exact LeO.refl _)
   | (with_reducible exact LeO.none _)
   | (with_reducible refine LeO.ite ?_ ?_)
   | (with_reducible refine LeO.bind ?_ (fun _ => ?_))
   | exact ih0 _ _ _ _
   | exact ih1 _ _ _ _ _
   | exact LeO.none _
   | refine LeO.ite ?_ ?_
   | refine LeO.bind ?_ (fun _ => ?_)
theorem spec_l3Run.mono : ∀ a0 a1 k, LeO (spec_l3Run.f k a0 a1) (spec_l3Run.f (k + 1) a0 a1) := by
 intro a0 a1 k; obtain ⟨ih0, ih1⟩ := spec_l3Run.mono_l k; unfold spec_l3Run.f
 repeat' first
   | (with_reducible exact ih0 _ _ _ _)
   | (with_reducible exact ih1 _ _ _ _ _)
   | (with_reducible exact LeO.refl _)
   | (with_reducible exact LeO.none _)
   | (with_reducible refine LeO.ite ?_ ?_)
   | (with_reducible refine LeO.bind ?_ (fun _ => ?_))
   | exact ih0 _ _ _ _
   | exact ih1 _ _ _ _ _
   | exact LeO.none _
   | refine LeO.ite ?_ ?_
   | refine LeO.bind ?_ (fun _ => ?_)
theorem spec_l3Run.calls (k : Nat) (A0 : Option Addr) (c0 : Nat) (l0 : List Int) (a1 : Int) (r : List Int) (w : World) (hr0 : Kd.C (Kd.int .i64) w A0 l0.length l0) (hc0 : l0.length ≤ c0) (h : spec_l3Run.f k l0 a1 = some r) :
  Calls Try.prog 82 #[.slice A0 l0.length c0, .int .i64 a1] w fun e w' => ∃ v0_ : Value, e = .returned (v0_) ∧ Kd.R (Kd.int .i64) 3 w' w.heap.size (fun _ => True) v0_ r ∧ Below w.heap.size w w' := by
 have HR0 := az hr0; have HC0 := az hc0; clear hr0 hc0; have HB := az (Below.refl w.heap.size w); have H : (spec_l3Run.l0 k l0 a1 (([] : List Int)) a1) = some r := h; clear h; obtain ⟨y509, hy509⟩ : ∃ y_ : List Int, y_ = (([] : List Int)) := ⟨_, rfl⟩; replace H : (spec_l3Run.l0 k l0 a1 y509 a1) = some r := by first | (rw [hy509]; with_reducible exact H) | (have H2_ := (Option.bind_some _ _).symm.trans H; rw [hy509]; with_reducible exact H2_) | (have H2_ := (Option.bind_some _ _).symm.trans H; with_reducible exact H2_) | with_reducible exact H | (rw [hy509]; exact H) | exact H
 have Ny509 := az hy509; clear hy509; have H' := az H; clear H; go_enter Try.func82, Try.ntmps82; go_wp2_with (first | ((with_reducible refine gate_dst (N := 7) rfl ?_); refine Kd.R_lit (Kd.int .i64) _ 3 ?hg (N := 7) ?hd (xs := ([] : List Int)) (inner := []) (ok := fun _ => True) (okp := fun _ => True) ?hr ?hp (fun _ hk => hk) trivial (Below.refl _ _) (Nat.le_refl _) (by simp) ?_; (case hd => rfl); (case hg => rfl); (case hr => first | (go_simp; done) | (go_simp; rfl)); (case hp => exact (Reps.none _ _)); intro v510 w3 ho4 hb hg_ hnew_; clear hg_ hnew_; (first | rw [← Ny509.out] at ho4 | (simp only [Int.reduceToNat] at ho4; rw [← Ny509.out] at ho4)); have n0_ := az (Kd.R_lower ho4 (below_size (by repeat (first | (with_reducible first | exact HB.out | apply below_alloc | apply pw_below_drewN | apply below_drew1) | exact HB.out)))); have n1_ := az (below_step (by repeat (first | (with_reducible first | exact HB.out | apply below_alloc | apply pw_below_drewN | apply below_drew1) | exact HB.out)) hb); clear HB; have HO511 := n0_; have HB := n1_; clear n0_ n1_; clear hb ho4)); repeat (go_quiet (first | ((with_reducible refine gate_dst (N := 7) rfl ?_); refine Kd.R_lit (Kd.int .i64) _ 3 ?hg (N := 7) ?hd (xs := ([] : List Int)) (inner := []) (ok := fun _ => True) (okp := fun _ => True) ?hr ?hp (fun _ hk => hk) trivial (Below.refl _ _) (Nat.le_refl _) (by simp) ?_; (case hd => rfl); (case hg => rfl); (case hr => first | (go_simp; done) | (go_simp; rfl)); (case hp => exact (Reps.none _ _)); intro v510 w3 ho4 hb hg_ hnew_; clear hg_ hnew_; (first | rw [← Ny509.out] at ho4 | (simp only [Int.reduceToNat] at ho4; rw [← Ny509.out] at ho4)); have n0_ := az (Kd.R_lower ho4 (below_size (by repeat (first | (with_reducible first | exact HB.out | apply below_alloc | apply pw_below_drewN | apply below_drew1) | exact HB.out)))); have n1_ := az (below_step (by repeat (first | (with_reducible first | exact HB.out | apply below_alloc | apply pw_below_drewN | apply below_drew1) | exact HB.out)) hb); clear HB; have HO511 := n0_; have HB := n1_; clear n0_ n1_; clear hb ho4)); try go_wp2_with (first | ((with_reducible refine gate_dst (N := 7) rfl ?_); refine Kd.R_lit (Kd.int .i64) _ 3 ?hg (N := 7) ?hd (xs := ([] : List Int)) (inner := []) (ok := fun _ => True) (okp := fun _ => True) ?hr ?hp (fun _ hk => hk) trivial (Below.refl _ _) (Nat.le_refl _) (by simp) ?_; (case hd => rfl); (case hg => rfl); (case hr => first | (go_simp; done) | (go_simp; rfl)); (case hp => exact (Reps.none _ _)); intro v510 w3 ho4 hb hg_ hnew_; clear hg_ hnew_; (first | rw [← Ny509.out] at ho4 | (simp only [Int.reduceToNat] at ho4; rw [← Ny509.out] at ho4)); have n0_ := az (Kd.R_lower ho4 (below_size (by repeat (first | (with_reducible first | exact HB.out | apply below_alloc | apply pw_below_drewN | apply below_drew1) | exact HB.out)))); have n1_ := az (below_step (by repeat (first | (with_reducible first | exact HB.out | apply below_alloc | apply pw_below_drewN | apply below_drew1) | exact HB.out)) hb); clear HB; have HO511 := n0_; have HB := n1_; clear n0_ n1_; clear hb ho4)))
 go_loopg [5, 6] k (fun kq v5 v6 w' => ∃ (x5_1 : List Int) (x6_1 : Int), v6 = .int .i64 x6_1 ∧ Aside0 (spec_l3Run.l0 kq l0 a1 x5_1 x6_1 = some r) ∧ Aside0 (kq ≤ k) ∧ Aside0 (Kd.R (Kd.int .i64) 3 w' w.heap.size (fun _ => True) v5 x5_1) ∧ Aside0 (Below w.heap.size w w'))
 case atStart => exact ⟨(y509), (a1), (by first | rfl | (simp; done) | (simp [*]; done)), H', ⟨Nat.le_refl _⟩, ⟨by (with_reducible repeat (first | apply Kd.R_alloc | apply Kd.R_drewN | apply Kd.R_drew)); exact HO511.out⟩, ⟨by repeat (first | (with_reducible first | exact HB.out | apply below_alloc | apply pw_below_drewN | apply below_drew1) | exact HB.out)⟩⟩
 case round =>
  clear H'; (try clear p2); obtain ⟨x5_1, x6_1, rfl, HA, HK1, HO_5, HB⟩ := hrel
  cases gk with
  | zero => exact absurd HA.out (by simp [spec_l3Run.l0])
  | succ k1 =>
   have H := HA.out; clear HA; simp only [spec_l3Run.l0] at H; have HC5 := az H; clear H; go_upto_region 3 with (fail)
   repeat (go_quiet (fail); go_upto_region 3 with (fail))
   go_cut [30] (fun v30 wc => ∃ (kq : Nat) (x30_4 : Bool), v30 = .bool x30_4 ∧ Aside0 (spec_l3Run.j1 kq l0 a1 x5_1 x6_1 x30_4 = some r) ∧ Aside0 (kq ≤ k1) ∧ Aside0 (Kd.R (Kd.int .i64) 3 wc w.heap.size (fun _ => True) u5 x5_1) ∧ Aside0 (Below w.heap.size w wc))
   case first =>
    have H := HC5.out; clear HC5; by_cases c6 : x6_1 < (l0.length : Int)
    ·
     rw [if_pos c6] at H; have c6b0 : decide (x6_1 < (l0.length : Int)) = true := decide_eq_true c6; clear c6; (first | rw [c6b0] | (simp only [i64_w, i32_w]; rw [c6b0]) | skip); by_cases c7 : 0 ≤ x6_1
     ·
      rw [if_pos c7] at H; have c7b0 : decide (0 ≤ x6_1) = true := decide_eq_true c7; clear c7; by_cases c8 : (rd l0 x6_1) < 0
      ·
       rw [if_pos c8] at H; have c8b0 : decide ((rd l0 x6_1) < 0) = true := decide_eq_true c8; clear c8; have H' := az H; clear H; have p512 : 0 ≤ (x6_1 : Int) := of_decide_eq_true (by assumption); have q512 : x6_1 < (l0.length : Int) := of_decide_eq_true (by assumption); obtain ⟨ad512, e512, hx512_0⟩ := Kd.at_int HR0.out x6_1 p512 q512
       cases e512
       replace hx512_0 := (HB.out.cell (World.block_lt_of_cell? w _ hx512_0)).trans hx512_0; replace p512 := eq_true p512; replace q512 := eq_true q512; go_wp2; repeat (go_quiet (fail); try go_wp2)
       go_meet
       case rel => exact ⟨_, (true), (by first | rfl | (simp; done) | (simp [*]; done)), H', ⟨by have := HK1.out; first | omega | exact Nat.le_refl _⟩, ⟨by (with_reducible repeat (first | apply Kd.R_alloc | apply Kd.R_drewN | apply Kd.R_drew)); exact HO_5.out⟩, ⟨by repeat (first | (with_reducible first | exact HB.out | apply below_alloc | apply pw_below_drewN | apply below_drew1) | exact HB.out)⟩⟩
      ·
       rw [if_neg c8] at H; have c8b0 : decide ((rd l0 x6_1) < 0) = false := decide_eq_false c8; clear c8; by_cases c9 : 0 ≤ a1
       ·
        rw [if_pos c9] at H; have c9b0 : decide (0 ≤ a1) = true := decide_eq_true c9; clear c9; by_cases c10 : a1 < (l0.length : Int)
        ·
         rw [if_pos c10] at H; have c10b0 : decide (a1 < (l0.length : Int)) = true := decide_eq_true c10; clear c10; have H' := az H; clear H; have p512 : 0 ≤ (x6_1 : Int) := of_decide_eq_true (by assumption); have q512 : x6_1 < (l0.length : Int) := of_decide_eq_true (by assumption); obtain ⟨ad512, e512, hx512_0⟩ := Kd.at_int HR0.out x6_1 p512 q512
         cases e512
         replace hx512_0 := (HB.out.cell (World.block_lt_of_cell? w _ hx512_0)).trans hx512_0; replace p512 := eq_true p512; replace q512 := eq_true q512; have p513 : 0 ≤ (x6_1 : Int) := of_decide_eq_true (by assumption); have q513 : x6_1 < (l0.length : Int) := of_decide_eq_true (by assumption); obtain ⟨ad513, e513, hx513_0⟩ := Kd.at_int HR0.out x6_1 p513 q513; obtain rfl : ad512 = ad513 := (by injection e513); replace hx513_0 := (HB.out.cell (World.block_lt_of_cell? w _ hx513_0)).trans hx513_0; replace p513 := eq_true p513; replace q513 := eq_true q513; have p514 : 0 ≤ (a1 : Int) := of_decide_eq_true (by assumption); have q514 : a1 < (l0.length : Int) := of_decide_eq_true (by assumption); obtain ⟨ad514, e514, hx514_0⟩ := Kd.at_int HR0.out a1 p514 q514; obtain rfl : ad512 = ad514 := (by injection e514); replace hx514_0 := (HB.out.cell (World.block_lt_of_cell? w _ hx514_0)).trans hx514_0; replace p514 := eq_true p514; replace q514 := eq_true q514; go_wp2; repeat (go_quiet (fail); try go_wp2)
         go_meet
         case rel => exact ⟨_, (((rd l0 x6_1) == (rd l0 a1))), (by first | rfl | (simp; done) | (simp [*]; done)), H', ⟨by have := HK1.out; first | omega | exact Nat.le_refl _⟩, ⟨by (with_reducible repeat (first | apply Kd.R_alloc | apply Kd.R_drewN | apply Kd.R_drew)); exact HO_5.out⟩, ⟨by repeat (first | (with_reducible first | exact HB.out | apply below_alloc | apply pw_below_drewN | apply below_drew1) | exact HB.out)⟩⟩
        ·
         rw [if_neg c10] at H; exact absurd H (by simp)
       ·
        rw [if_neg c9] at H; exact absurd H (by simp)
     ·
      rw [if_neg c7] at H; exact absurd H (by simp)
    ·
     rw [if_neg c6] at H; have c6b0 : decide (x6_1 < (l0.length : Int)) = false := decide_eq_false c6; clear c6; (first | rw [c6b0] | (simp only [i64_w, i32_w]; rw [c6b0]) | skip); have H' := az H; clear H; go_wp2; repeat (go_quiet (fail); try go_wp2)
     go_meet
     case rel => exact ⟨_, (false), (by first | rfl | (simp; done) | (simp [*]; done)), H', ⟨by have := HK1.out; first | omega | exact Nat.le_refl _⟩, ⟨by (with_reducible repeat (first | apply Kd.R_alloc | apply Kd.R_drewN | apply Kd.R_drew)); exact HO_5.out⟩, ⟨by repeat (first | (with_reducible first | exact HB.out | apply below_alloc | apply pw_below_drewN | apply below_drew1) | exact HB.out)⟩⟩
   case rest =>
    clear HC5; (try clear c1); (try clear p2); (try clear p5); (try clear q5); (try clear hx5); (try clear c6); (try clear c6b0); (try clear c7); (try clear c7b0); (try clear c8); (try clear c8b0); (try clear c9); (try clear c9b0); (try clear c10); (try clear c10b0); (try clear hx512_0); (try clear hx513_0); (try clear hx514_0); (try clear p2); (try clear p512); (try clear p513); (try clear p514); (try clear q512); (try clear q513); (try clear q514); obtain ⟨kq, x30_4, rfl, HA, HJ4, HO_5, HB⟩ := hcut
    cases kq with
    | zero => exact absurd HA.out (by simp [spec_l3Run.j1])
    | succ kj4 =>
     have H := HA.out; clear HA; simp only [spec_l3Run.j1] at H; by_cases c11 : x30_4 = true
     ·
      subst c11; have H1 : (if 0 ≤ x6_1 then (if x6_1 < (l0.length : Int) then (if (rd l0 x6_1) ≥ 0 then (if x5_1.length < 17592186044416 then (spec_l3Run.l0 kj4 l0 a1 (x5_1 ++ [x6_1]) (wrap64 (x6_1 + 1))) else (none)) else (spec_l3Run.l0 kj4 l0 a1 x5_1 (wrap64 (x6_1 + 1)))) else (none)) else (none)) = some r := by rw [if_pos rfl] at H; exact H
      clear H; have H := H1; clear H1; by_cases c12 : 0 ≤ x6_1
      ·
       rw [if_pos c12] at H; have c12b0 : decide (0 ≤ x6_1) = true := decide_eq_true c12; clear c12; by_cases c13 : x6_1 < (l0.length : Int)
       ·
        rw [if_pos c13] at H; have c13b0 : decide (x6_1 < (l0.length : Int)) = true := decide_eq_true c13; clear c13; by_cases c14 : (rd l0 x6_1) ≥ 0
        ·
         rw [if_pos c14] at H; have c14b0 : decide (0 ≤ (rd l0 x6_1)) = true := decide_eq_true c14; clear c14; by_cases c15 : x5_1.length < 17592186044416
         ·
          rw [if_pos c15] at H; have LMc15 := az c15; clear c15; obtain ⟨y516, hy516⟩ : ∃ y_ : List Int, y_ = (x5_1 ++ [x6_1]) := ⟨_, rfl⟩; replace H : (spec_l3Run.l0 kj4 l0 a1 y516 (wrap64 (x6_1 + 1))) = some r := by first | (rw [hy516]; with_reducible exact H) | (have H2_ := (Option.bind_some _ _).symm.trans H; rw [hy516]; with_reducible exact H2_) | (have H2_ := (Option.bind_some _ _).symm.trans H; with_reducible exact H2_) | with_reducible exact H | (rw [hy516]; exact H) | exact H
          have Ny516 := az hy516; clear hy516; have H' := az H; clear H; have p515 : 0 ≤ (x6_1 : Int) := of_decide_eq_true (by assumption); have q515 : x6_1 < (l0.length : Int) := of_decide_eq_true (by assumption); obtain ⟨ad515, e515, hx515_0⟩ := Kd.at_int HR0.out x6_1 p515 q515
          cases e515
          replace hx515_0 := (HB.out.cell (World.block_lt_of_cell? w _ hx515_0)).trans hx515_0; replace p515 := eq_true p515; replace q515 := eq_true q515; go_wp2_with (first | ((with_reducible refine gate_builtin (b := .append) (xs := #[.tmp 38, .tmp 40]) rfl ?_); at_builtin; refine Kd.R_append (Kd.int .i64) (w0 := w) w.heap.size rfl (.tmp 38) (.tmp 40) 22 3 (.int .i64 0) 8 rfl Try.underlying22 info3 rfl (by decide) (by omega) u5 x5_1 x6_1 [.int .i64 x6_1] (fun _ => True) (fun _ => False) rfl rfl ?aP (fun _ hk => hk.elim) ?aF ?aO ?aB ?aS ?aL ?_; (case aP => exact rfl); (case aB => exact (by repeat (first | (with_reducible first | exact HB.out | apply below_alloc | apply pw_below_drewN | apply below_drew1) | exact HB.out))); (case aF => exact (fun _ _ => trivial)); (case aO => exact (by (with_reducible repeat (first | apply Kd.R_alloc | apply Kd.R_drewN | apply Kd.R_drew)); exact HO_5.out)); (case aS => exact (below_size (by repeat (first | (with_reducible first | exact HB.out | apply below_alloc | apply pw_below_drewN | apply below_drew1) | exact HB.out)))); (case aL => have := LMc15.out; omega); intro v517 w16 ho hb hg hat; rw [← Ny516.out] at ho; have n0_ := az (hb); have n1_ := az (ho); clear HB; clear HO_5; have HB := n0_; have HO518 := n1_; clear n0_ n1_; clear ho hb hg hat)); repeat (go_quiet (first | ((with_reducible refine gate_builtin (b := .append) (xs := #[.tmp 38, .tmp 40]) rfl ?_); at_builtin; refine Kd.R_append (Kd.int .i64) (w0 := w) w.heap.size rfl (.tmp 38) (.tmp 40) 22 3 (.int .i64 0) 8 rfl Try.underlying22 info3 rfl (by decide) (by omega) u5 x5_1 x6_1 [.int .i64 x6_1] (fun _ => True) (fun _ => False) rfl rfl ?aP (fun _ hk => hk.elim) ?aF ?aO ?aB ?aS ?aL ?_; (case aP => exact rfl); (case aB => exact (by repeat (first | (with_reducible first | exact HB.out | apply below_alloc | apply pw_below_drewN | apply below_drew1) | exact HB.out))); (case aF => exact (fun _ _ => trivial)); (case aO => exact (by (with_reducible repeat (first | apply Kd.R_alloc | apply Kd.R_drewN | apply Kd.R_drew)); exact HO_5.out)); (case aS => exact (below_size (by repeat (first | (with_reducible first | exact HB.out | apply below_alloc | apply pw_below_drewN | apply below_drew1) | exact HB.out)))); (case aL => have := LMc15.out; omega); intro v517 w16 ho hb hg hat; rw [← Ny516.out] at ho; have n0_ := az (hb); have n1_ := az (ho); clear HB; clear HO_5; have HB := n0_; have HO518 := n1_; clear n0_ n1_; clear ho hb hg hat)); try go_wp2_with (first | ((with_reducible refine gate_builtin (b := .append) (xs := #[.tmp 38, .tmp 40]) rfl ?_); at_builtin; refine Kd.R_append (Kd.int .i64) (w0 := w) w.heap.size rfl (.tmp 38) (.tmp 40) 22 3 (.int .i64 0) 8 rfl Try.underlying22 info3 rfl (by decide) (by omega) u5 x5_1 x6_1 [.int .i64 x6_1] (fun _ => True) (fun _ => False) rfl rfl ?aP (fun _ hk => hk.elim) ?aF ?aO ?aB ?aS ?aL ?_; (case aP => exact rfl); (case aB => exact (by repeat (first | (with_reducible first | exact HB.out | apply below_alloc | apply pw_below_drewN | apply below_drew1) | exact HB.out))); (case aF => exact (fun _ _ => trivial)); (case aO => exact (by (with_reducible repeat (first | apply Kd.R_alloc | apply Kd.R_drewN | apply Kd.R_drew)); exact HO_5.out)); (case aS => exact (below_size (by repeat (first | (with_reducible first | exact HB.out | apply below_alloc | apply pw_below_drewN | apply below_drew1) | exact HB.out)))); (case aL => have := LMc15.out; omega); intro v517 w16 ho hb hg hat; rw [← Ny516.out] at ho; have n0_ := az (hb); have n1_ := az (ho); clear HB; clear HO_5; have HB := n0_; have HO518 := n1_; clear n0_ n1_; clear ho hb hg hat)))
          go_roundg kj4
          case measure => have := HK1.out; have := HJ4.out; omega
          case rel => exact ⟨(y516), (wrap64 (x6_1 + 1)), (by first | rfl | (simp; done) | (simp [*]; done)), H', ⟨by have := HK1.out; have := HJ4.out; omega⟩, ⟨by (with_reducible repeat (first | apply Kd.R_alloc | apply Kd.R_drewN | apply Kd.R_drew)); exact HO518.out⟩, ⟨by repeat (first | (with_reducible first | exact HB.out | apply below_alloc | apply pw_below_drewN | apply below_drew1) | exact HB.out)⟩⟩
         ·
          rw [if_neg c15] at H; exact absurd H (by simp)
        ·
         rw [if_neg c14] at H; have c14b0 : decide (0 ≤ (rd l0 x6_1)) = false := decide_eq_false c14; clear c14; have H' := az H; clear H; have p515 : 0 ≤ (x6_1 : Int) := of_decide_eq_true (by assumption); have q515 : x6_1 < (l0.length : Int) := of_decide_eq_true (by assumption); obtain ⟨ad515, e515, hx515_0⟩ := Kd.at_int HR0.out x6_1 p515 q515
         cases e515
         replace hx515_0 := (HB.out.cell (World.block_lt_of_cell? w _ hx515_0)).trans hx515_0; replace p515 := eq_true p515; replace q515 := eq_true q515; go_wp2; repeat (go_quiet (fail); try go_wp2)
         go_roundg kj4
         case measure => have := HK1.out; have := HJ4.out; omega
         case rel => exact ⟨(x5_1), (wrap64 (x6_1 + 1)), (by first | rfl | (simp; done) | (simp [*]; done)), H', ⟨by have := HK1.out; have := HJ4.out; omega⟩, ⟨by (with_reducible repeat (first | apply Kd.R_alloc | apply Kd.R_drewN | apply Kd.R_drew)); exact HO_5.out⟩, ⟨by repeat (first | (with_reducible first | exact HB.out | apply below_alloc | apply pw_below_drewN | apply below_drew1) | exact HB.out)⟩⟩
       ·
        rw [if_neg c13] at H; exact absurd H (by simp)
      ·
       rw [if_neg c12] at H; exact absurd H (by simp)
     ·
      replace c11 := Bool.eq_false_iff.mpr c11; subst c11; have H1 : (some x5_1) = some r := by rw [if_neg (show ¬ (false = true) by decide)] at H; exact H
      clear H; have H := H1; clear H1; obtain rfl := Option.some.inj H; go_wp2; repeat (go_quiet (fail); try go_wp2)
      go_ret; exact ⟨_, by first | rfl | (simp [errW_none, errW_some] <;> rfl) | (simp [*, errW_none, errW_some] <;> rfl), by (with_reducible repeat (first | apply Kd.R_alloc | apply Kd.R_drewN | apply Kd.R_drew)); exact HO_5.out, by repeat (first | (with_reducible first | exact HB.out | apply below_alloc | apply pw_below_drewN | apply below_drew1) | exact HB.out)⟩
def spec_l3Closes.l0 : Nat → List Int → Int → Int → Option (Bool)
 | 0, _, _, _ => none
 | k + 1, x0, x1, x5 => if x5 < x1 then (if 0 ≤ x5 then (if x5 < (x0.length : Int) then ((spec_RuneBidi.f k (rd x0 x5)).bind fun t520 => ((spec_l3Opens.f t520).bind fun t521 => (if t521 = true then ((spec_l3Mate.f k x0 x5).bind fun t522 => (if t522 = x1 then (some true) else (spec_l3Closes.l0 k x0 x1 (wrap64 (x5 + 1))))) else (spec_l3Closes.l0 k x0 x1 (wrap64 (x5 + 1)))))) else (none)) else (none)) else (some false)
def spec_l3Closes.f (k : Nat) (l0 : List Int) (a1 : Int) : Option (Bool) := spec_l3Closes.l0 k l0 a1 0
theorem spec_l3Closes.mono_l : ∀ k, (∀ y0 y1 y2, LeO (spec_l3Closes.l0 k y0 y1 y2) (spec_l3Closes.l0 (k + 1) y0 y1 y2))
 | 0 => fun _ _ _ r h => by simp [spec_l3Closes.l0] at h
 | k + 1 => by
  have ih0 := spec_l3Closes.mono_l k
  ·
   intro y0 y1 y2; unfold spec_l3Closes.l0
   repeat' first
   | (with_reducible exact ih0 _ _ _)
   | (with_reducible exact spec_RuneBidi.mono _ _)
   | (with_reducible exact spec_l3Mate.mono _ _ _)
   | (with_reducible exact LeO.refl _)
   | (with_reducible exact LeO.none _)
   | (with_reducible refine LeO.ite ?_ ?_)
   | (with_reducible refine LeO.bind ?_ (fun _ => ?_))
   | exact ih0 _ _ _
   | exact spec_RuneBidi.mono _ _
   | exact spec_l3Mate.mono _ _ _
   | exact LeO.none _
   | refine LeO.ite ?_ ?_
   | refine LeO.bind ?_ (fun _ => ?_)
theorem spec_l3Closes.mono : ∀ a0 a1 k, LeO (spec_l3Closes.f k a0 a1) (spec_l3Closes.f (k + 1) a0 a1) := by
 intro a0 a1 k; have ih0 := spec_l3Closes.mono_l k; unfold spec_l3Closes.f
 repeat' first
   | (with_reducible exact ih0 _ _ _)
   | (with_reducible exact spec_RuneBidi.mono _ _)
   | (with_reducible exact spec_l3Mate.mono _ _ _)
   | (with_reducible exact LeO.refl _)
   | (with_reducible exact LeO.none _)
   | (with_reducible refine LeO.ite ?_ ?_)
   | (with_reducible refine LeO.bind ?_ (fun _ => ?_))
   | exact ih0 _ _ _
   | exact spec_RuneBidi.mono _ _
   | exact spec_l3Mate.mono _ _ _
   | exact LeO.none _
   | refine LeO.ite ?_ ?_
   | refine LeO.bind ?_ (fun _ => ?_)
theorem spec_l3Closes.calls (k : Nat) (A0 : Option Addr) (c0 : Nat) (l0 : List Int) (a1 : Int) (r : Bool) (w : World) (hr0 : Kd.C (Kd.int .i64) w A0 l0.length l0) (hc0 : l0.length ≤ c0) (h : spec_l3Closes.f k l0 a1 = some r) :
  Calls Try.prog 83 #[.slice A0 l0.length c0, .int .i64 a1] w fun e w' => e = .returned (.bool r) ∧ Below w.heap.size w w' := by
 have HR0 := az hr0; have HC0 := az hc0; clear hr0 hc0; have HB := az (Below.refl w.heap.size w); have H : (spec_l3Closes.l0 k l0 a1 0) = some r := h; clear h; have H' := az H; clear H; go_enter Try.func83, Try.ntmps83; go_wp2; go_loopg [5] k (fun kq v5 w' => ∃ (x5_1 : Int), v5 = .int .i64 x5_1 ∧ Aside0 (spec_l3Closes.l0 kq l0 a1 x5_1 = some r) ∧ Aside0 (kq ≤ k) ∧ Aside0 (Below w.heap.size w w'))
 case atStart => exact ⟨(0), (by first | rfl | (simp; done) | (simp [*]; done)), H', ⟨Nat.le_refl _⟩, ⟨by repeat (first | (with_reducible first | exact HB.out | apply below_alloc | apply pw_below_drewN | apply below_drew1) | exact HB.out)⟩⟩
 case round =>
  clear H'; (try clear p2); obtain ⟨x5_1, rfl, HA, HK1, HB⟩ := hrel
  cases gk with
  | zero => exact absurd HA.out (by simp [spec_l3Closes.l0])
  | succ k1 =>
   have H := HA.out; clear HA; simp only [spec_l3Closes.l0] at H; by_cases c3 : x5_1 < a1
   ·
    rw [if_pos c3] at H; have c3b0 : decide (x5_1 < a1) = true := decide_eq_true c3; clear c3; by_cases c4 : 0 ≤ x5_1
    ·
     rw [if_pos c4] at H; have c4b0 : decide (0 ≤ x5_1) = true := decide_eq_true c4; clear c4; by_cases c5 : x5_1 < (l0.length : Int)
     ·
      rw [if_pos c5] at H; have c5b0 : decide (x5_1 < (l0.length : Int)) = true := decide_eq_true c5; clear c5; replace H := Option.bind_eq_some_iff.mp H; obtain ⟨t520, A60, H⟩ := H; replace H : ((spec_l3Opens.f t520).bind fun t521 => (if t521 = true then ((spec_l3Mate.f k1 l0 x5_1).bind fun t522 => (if t522 = a1 then (some true) else (spec_l3Closes.l0 k1 l0 a1 (wrap64 (x5_1 + 1))))) else (spec_l3Closes.l0 k1 l0 a1 (wrap64 (x5_1 + 1))))) = some r := H; have A6 := az A60; clear A60; replace H := Option.bind_eq_some_iff.mp H; obtain ⟨t521, A70, H⟩ := H; replace H : (if t521 = true then ((spec_l3Mate.f k1 l0 x5_1).bind fun t522 => (if t522 = a1 then (some true) else (spec_l3Closes.l0 k1 l0 a1 (wrap64 (x5_1 + 1))))) else (spec_l3Closes.l0 k1 l0 a1 (wrap64 (x5_1 + 1)))) = some r := H; have A7 := az A70; clear A70; by_cases c8 : t521 = true
      ·
       subst c8; have H1 : ((spec_l3Mate.f k1 l0 x5_1).bind fun t522 => (if t522 = a1 then (some true) else (spec_l3Closes.l0 k1 l0 a1 (wrap64 (x5_1 + 1))))) = some r := by rw [if_pos rfl] at H; exact H
       clear H; have H := H1; clear H1; replace H := Option.bind_eq_some_iff.mp H; obtain ⟨t522, A90, H⟩ := H; replace H : (if t522 = a1 then (some true) else (spec_l3Closes.l0 k1 l0 a1 (wrap64 (x5_1 + 1)))) = some r := H; have A9 := az A90; clear A90; by_cases c10 : t522 = a1
       ·
        rw [if_pos c10] at H; have c10b0 : (t522 == a1) = true := beq_iff_eq.mpr c10; have c10b1 : (t522 != a1) = false := bne_eq_false_iff_eq.mpr c10; clear c10; obtain rfl := Option.some.inj H; have p519 : 0 ≤ (x5_1 : Int) := of_decide_eq_true (by assumption); have q519 : x5_1 < (l0.length : Int) := of_decide_eq_true (by assumption); obtain ⟨ad519, e519, hx519_0⟩ := Kd.at_int HR0.out x5_1 p519 q519
        cases e519
        replace hx519_0 := (HB.out.cell (World.block_lt_of_cell? w _ hx519_0)).trans hx519_0; replace p519 := eq_true p519; replace q519 := eq_true q519; go_wp2_with (first | ((with_reducible refine gate_callee (f := 20) rfl ?_); refine goesL_ (some 15) rfl rfl Try.func20 (by kernel_rfl) rfl #[.int .i64 (rd l0 x5_1)] rfl (by (try simp only [List.map_toArray, List.map_cons, List.map_nil]); first | done | rfl) ?_; (with_reducible refine (spec_RuneBidi.calls k1 (rd l0 x5_1) t520 _ A6.out).mono ?_); rintro e w11 ⟨rfl, hb⟩; refine ⟨_, rfl, ?_⟩; have n0_ := az (below_step (by repeat (first | (with_reducible first | exact HB.out | apply below_alloc | apply pw_below_drewN | apply below_drew1) | exact HB.out)) hb); clear HB; have HB := n0_; clear n0_; (try clear hb); (try clear hb2); (try clear hk); (try clear hi)) | ((with_reducible refine gate_callee (f := 86) rfl ?_); refine goesL_ (some 16) rfl rfl Try.func86 (by kernel_rfl) rfl #[.int .i64 t520] rfl (by (try simp only [List.map_toArray, List.map_cons, List.map_nil]); first | done | rfl) ?_; (with_reducible refine (spec_l3Opens.calls t520 true _ A7.out).mono ?_); rintro e w' ⟨rfl, ⟨nd, rfl⟩⟩; refine ⟨_, rfl, ?_⟩) | (go_at_call 93; (with_reducible refine (spec_l3Mate.calls k1 _ _ l0 x5_1 t522 _ ?side1 ?side2 A9.out).mono ?_); (case side1 => repeat (first | exact (Kd.C_below HR0.out (by repeat (first | (with_reducible first | exact HB.out | apply below_alloc | apply pw_below_drewN | apply below_drew1) | exact HB.out))) | (with_reducible refine Kd.C_alloc ?_ _) | (with_reducible refine Kd.C_drewN ?_ _) | (with_reducible refine Kd.C_drew ?_))); (case side2 => exact HC0.out); rintro e w12 ⟨rfl, hb⟩; have n0_ := az (below_step (by repeat (first | (with_reducible first | exact HB.out | apply below_alloc | apply pw_below_drewN | apply below_drew1) | exact HB.out)) hb); clear HB; have HB := n0_; clear n0_; (try clear hb); (try clear hb2); (try clear hk); (try clear hi))); go_ret; exact ⟨by first | rfl | (simp [errW_none, errW_some] <;> rfl) | (simp [*, errW_none, errW_some] <;> rfl), by repeat (first | (with_reducible first | exact HB.out | apply below_alloc | apply pw_below_drewN | apply below_drew1) | exact HB.out)⟩
       ·
        rw [if_neg c10] at H; have c10b0 : (t522 == a1) = false := beq_eq_false_iff_ne.mpr c10; have c10b1 : (t522 != a1) = true := bne_iff_ne.mpr c10; have H' := az H; clear H; have p519 : 0 ≤ (x5_1 : Int) := of_decide_eq_true (by assumption); have q519 : x5_1 < (l0.length : Int) := of_decide_eq_true (by assumption); obtain ⟨ad519, e519, hx519_0⟩ := Kd.at_int HR0.out x5_1 p519 q519
        cases e519
        replace hx519_0 := (HB.out.cell (World.block_lt_of_cell? w _ hx519_0)).trans hx519_0; replace p519 := eq_true p519; replace q519 := eq_true q519; go_wp2_with (first | ((with_reducible refine gate_callee (f := 20) rfl ?_); refine goesL_ (some 15) rfl rfl Try.func20 (by kernel_rfl) rfl #[.int .i64 (rd l0 x5_1)] rfl (by (try simp only [List.map_toArray, List.map_cons, List.map_nil]); first | done | rfl) ?_; (with_reducible refine (spec_RuneBidi.calls k1 (rd l0 x5_1) t520 _ A6.out).mono ?_); rintro e w13 ⟨rfl, hb⟩; refine ⟨_, rfl, ?_⟩; have n0_ := az (below_step (by repeat (first | (with_reducible first | exact HB.out | apply below_alloc | apply pw_below_drewN | apply below_drew1) | exact HB.out)) hb); clear HB; have HB := n0_; clear n0_; (try clear hb); (try clear hb2); (try clear hk); (try clear hi)) | ((with_reducible refine gate_callee (f := 86) rfl ?_); refine goesL_ (some 16) rfl rfl Try.func86 (by kernel_rfl) rfl #[.int .i64 t520] rfl (by (try simp only [List.map_toArray, List.map_cons, List.map_nil]); first | done | rfl) ?_; (with_reducible refine (spec_l3Opens.calls t520 true _ A7.out).mono ?_); rintro e w' ⟨rfl, ⟨nd, rfl⟩⟩; refine ⟨_, rfl, ?_⟩) | (go_at_call 93; (with_reducible refine (spec_l3Mate.calls k1 _ _ l0 x5_1 t522 _ ?side1 ?side2 A9.out).mono ?_); (case side1 => repeat (first | exact (Kd.C_below HR0.out (by repeat (first | (with_reducible first | exact HB.out | apply below_alloc | apply pw_below_drewN | apply below_drew1) | exact HB.out))) | (with_reducible refine Kd.C_alloc ?_ _) | (with_reducible refine Kd.C_drewN ?_ _) | (with_reducible refine Kd.C_drew ?_))); (case side2 => exact HC0.out); rintro e w14 ⟨rfl, hb⟩; have n0_ := az (below_step (by repeat (first | (with_reducible first | exact HB.out | apply below_alloc | apply pw_below_drewN | apply below_drew1) | exact HB.out)) hb); clear HB; have HB := n0_; clear n0_; (try clear hb); (try clear hb2); (try clear hk); (try clear hi))); go_roundg k1
        case measure => have := HK1.out; omega
        case rel => exact ⟨(wrap64 (x5_1 + 1)), (by first | rfl | (simp; done) | (simp [*]; done)), H', ⟨by have := HK1.out; omega⟩, ⟨by repeat (first | (with_reducible first | exact HB.out | apply below_alloc | apply pw_below_drewN | apply below_drew1) | exact HB.out)⟩⟩
      ·
       replace c8 := Bool.eq_false_iff.mpr c8; subst c8; have H1 : (spec_l3Closes.l0 k1 l0 a1 (wrap64 (x5_1 + 1))) = some r := by rw [if_neg (show ¬ (false = true) by decide)] at H; exact H
       clear H; have H := H1; clear H1; have H' := az H; clear H; have p519 : 0 ≤ (x5_1 : Int) := of_decide_eq_true (by assumption); have q519 : x5_1 < (l0.length : Int) := of_decide_eq_true (by assumption); obtain ⟨ad519, e519, hx519_0⟩ := Kd.at_int HR0.out x5_1 p519 q519
       cases e519
       replace hx519_0 := (HB.out.cell (World.block_lt_of_cell? w _ hx519_0)).trans hx519_0; replace p519 := eq_true p519; replace q519 := eq_true q519; go_wp2_with (first | ((with_reducible refine gate_callee (f := 20) rfl ?_); refine goesL_ (some 15) rfl rfl Try.func20 (by kernel_rfl) rfl #[.int .i64 (rd l0 x5_1)] rfl (by (try simp only [List.map_toArray, List.map_cons, List.map_nil]); first | done | rfl) ?_; (with_reducible refine (spec_RuneBidi.calls k1 (rd l0 x5_1) t520 _ A6.out).mono ?_); rintro e w15 ⟨rfl, hb⟩; refine ⟨_, rfl, ?_⟩; have n0_ := az (below_step (by repeat (first | (with_reducible first | exact HB.out | apply below_alloc | apply pw_below_drewN | apply below_drew1) | exact HB.out)) hb); clear HB; have HB := n0_; clear n0_; (try clear hb); (try clear hb2); (try clear hk); (try clear hi)) | ((with_reducible refine gate_callee (f := 86) rfl ?_); refine goesL_ (some 16) rfl rfl Try.func86 (by kernel_rfl) rfl #[.int .i64 t520] rfl (by (try simp only [List.map_toArray, List.map_cons, List.map_nil]); first | done | rfl) ?_; (with_reducible refine (spec_l3Opens.calls t520 false _ A7.out).mono ?_); rintro e w' ⟨rfl, ⟨nd, rfl⟩⟩; refine ⟨_, rfl, ?_⟩)); go_roundg k1
       case measure => have := HK1.out; omega
       case rel => exact ⟨(wrap64 (x5_1 + 1)), (by first | rfl | (simp; done) | (simp [*]; done)), H', ⟨by have := HK1.out; omega⟩, ⟨by repeat (first | (with_reducible first | exact HB.out | apply below_alloc | apply pw_below_drewN | apply below_drew1) | exact HB.out)⟩⟩
     ·
      rw [if_neg c5] at H; exact absurd H (by simp)
    ·
     rw [if_neg c4] at H; exact absurd H (by simp)
   ·
    rw [if_neg c3] at H; have c3b0 : decide (x5_1 < a1) = false := decide_eq_false c3; clear c3; obtain rfl := Option.some.inj H; go_wp2; go_ret; exact ⟨by first | rfl | (simp [errW_none, errW_some] <;> rfl) | (simp [*, errW_none, errW_some] <;> rfl), by repeat (first | (with_reducible first | exact HB.out | apply below_alloc | apply pw_below_drewN | apply below_drew1) | exact HB.out)⟩
def spec_l3Chain.l0 : Nat → List Int → List Int → List Int → Option (List Int)
 | 0, _, _, _ => none
 | k + 1, x0, x1, x7 => if 0 ≤ (wrap64 ((x7.length : Int) - 1)) then (if (wrap64 ((x7.length : Int) - 1)) < (x7.length : Int) then (if 0 ≤ (rd x7 (wrap64 ((x7.length : Int) - 1))) then (if (rd x7 (wrap64 ((x7.length : Int) - 1))) < (x0.length : Int) then ((spec_RuneBidi.f k (rd x0 (rd x7 (wrap64 ((x7.length : Int) - 1))))).bind fun t531 => ((spec_l3Opens.f t531).bind fun t532 => (if t532 = true then ((spec_l3Mate.f k x0 (rd x7 (wrap64 ((x7.length : Int) - 1)))).bind fun t533 => (if t533 = (x0.length : Int) then (some x7) else ((spec_l3Run.f k x1 t533).bind fun t534 => (if x7.length + t534.length < 17592186044416 then (spec_l3Chain.l0 k x0 x1 (x7 ++ t534)) else (none))))) else (some x7)))) else (none)) else (none)) else (none)) else (none)
def spec_l3Chain.f (k : Nat) (l0 : List Int) (l1 : List Int) (l2 : List Int) : Option (List Int) := (some (([] : List Int) : List Int)).bind fun y523 => (if y523.length + l2.length < 17592186044416 then (spec_l3Chain.l0 k l0 l1 (y523 ++ l2)) else (none))
theorem spec_l3Chain.mono_l : ∀ k, (∀ y0 y1 y2, LeO (spec_l3Chain.l0 k y0 y1 y2) (spec_l3Chain.l0 (k + 1) y0 y1 y2))
 | 0 => fun _ _ _ r h => by simp [spec_l3Chain.l0] at h
 | k + 1 => by
  have ih0 := spec_l3Chain.mono_l k
  ·
   intro y0 y1 y2; unfold spec_l3Chain.l0
   repeat' first
   | (with_reducible exact ih0 _ _ _)
   | (with_reducible exact spec_RuneBidi.mono _ _)
   | (with_reducible exact spec_l3Mate.mono _ _ _)
   | (with_reducible exact spec_l3Run.mono _ _ _)
   | (with_reducible exact LeO.refl _)
   | (with_reducible exact LeO.none _)
   | (with_reducible refine LeO.ite ?_ ?_)
   | (with_reducible refine LeO.bind ?_ (fun _ => ?_))
   | exact ih0 _ _ _
   | exact spec_RuneBidi.mono _ _
   | exact spec_l3Mate.mono _ _ _
   | exact spec_l3Run.mono _ _ _
   | exact LeO.none _
   | refine LeO.ite ?_ ?_
   | refine LeO.bind ?_ (fun _ => ?_)
theorem spec_l3Chain.mono : ∀ a0 a1 a2 k, LeO (spec_l3Chain.f k a0 a1 a2) (spec_l3Chain.f (k + 1) a0 a1 a2) := by
 intro a0 a1 a2 k; have ih0 := spec_l3Chain.mono_l k; unfold spec_l3Chain.f
 repeat' first
   | (with_reducible exact ih0 _ _ _)
   | (with_reducible exact spec_RuneBidi.mono _ _)
   | (with_reducible exact spec_l3Mate.mono _ _ _)
   | (with_reducible exact spec_l3Run.mono _ _ _)
   | (with_reducible exact LeO.refl _)
   | (with_reducible exact LeO.none _)
   | (with_reducible refine LeO.ite ?_ ?_)
   | (with_reducible refine LeO.bind ?_ (fun _ => ?_))
   | exact ih0 _ _ _
   | exact spec_RuneBidi.mono _ _
   | exact spec_l3Mate.mono _ _ _
   | exact spec_l3Run.mono _ _ _
   | exact LeO.none _
   | refine LeO.ite ?_ ?_
   | refine LeO.bind ?_ (fun _ => ?_)
theorem spec_l3Chain.calls (k : Nat) (A0 : Option Addr) (c0 : Nat) (l0 : List Int) (A1 : Option Addr) (c1 : Nat) (l1 : List Int) (A2 : Option Addr) (c2 : Nat) (l2 : List Int) (r : List Int) (w : World) (hr0 : Kd.C (Kd.int .i64) w A0 l0.length l0) (hc0 : l0.length ≤ c0) (hr1 : Kd.C (Kd.int .i64) w A1 l1.length l1) (hc1 : l1.length ≤ c1) (hr2 : Kd.C (Kd.int .i64) w A2 l2.length l2) (hc2 : l2.length ≤ c2) (h : spec_l3Chain.f k l0 l1 l2 = some r) :
  Calls Try.prog 84 #[.slice A0 l0.length c0, .slice A1 l1.length c1, .slice A2 l2.length c2] w fun e w' => ∃ v0_ : Value, e = .returned (v0_) ∧ Kd.R (Kd.int .i64) 3 w' w.heap.size (fun _ => True) v0_ r ∧ Below w.heap.size w w' := by
 have HR0 := az hr0; have HC0 := az hc0; clear hr0 hc0; have HR1 := az hr1; have HC1 := az hc1; clear hr1 hc1; have HR2 := az hr2; have HC2 := az hc2; clear hr2 hc2; have HB := az (Below.refl w.heap.size w); have H : ((some (([] : List Int) : List Int)).bind fun y523 => (if y523.length + l2.length < 17592186044416 then (spec_l3Chain.l0 k l0 l1 (y523 ++ l2)) else (none))) = some r := h; clear h; obtain ⟨y523, hy523⟩ : ∃ y_ : List Int, y_ = (([] : List Int)) := ⟨_, rfl⟩; replace H : (if y523.length + l2.length < 17592186044416 then (spec_l3Chain.l0 k l0 l1 (y523 ++ l2)) else (none)) = some r := by first | (rw [hy523]; with_reducible exact H) | (have H2_ := (Option.bind_some _ _).symm.trans H; rw [hy523]; with_reducible exact H2_) | (have H2_ := (Option.bind_some _ _).symm.trans H; with_reducible exact H2_) | with_reducible exact H | (rw [hy523]; exact H) | exact H
 have Ny523 := az hy523; clear hy523; by_cases c4 : y523.length + l2.length < 17592186044416
 ·
  rw [if_pos c4] at H; have LMc4 := az c4; clear c4; obtain ⟨y526, hy526⟩ : ∃ y_ : List Int, y_ = (y523 ++ l2) := ⟨_, rfl⟩; replace H : (spec_l3Chain.l0 k l0 l1 y526) = some r := by first | (rw [hy526]; with_reducible exact H) | (have H2_ := (Option.bind_some _ _).symm.trans H; rw [hy526]; with_reducible exact H2_) | (have H2_ := (Option.bind_some _ _).symm.trans H; with_reducible exact H2_) | with_reducible exact H | (rw [hy526]; exact H) | exact H
  have Ny526 := az hy526; clear hy526; have H' := az H; clear H; go_enter Try.func84, Try.ntmps84; go_wp2_with (first | ((with_reducible refine gate_dst (N := 10) rfl ?_); refine Kd.R_lit (Kd.int .i64) _ 3 ?hg (N := 10) ?hd (xs := ([] : List Int)) (inner := []) (ok := fun _ => True) (okp := fun _ => True) ?hr ?hp (fun _ hk => hk) trivial (Below.refl _ _) (Nat.le_refl _) (by simp) ?_; (case hd => rfl); (case hg => rfl); (case hr => first | (go_simp; done) | (go_simp; rfl)); (case hp => exact (Reps.none _ _)); intro v524 w5 ho6 hb hg_ hnew_; clear hg_ hnew_; (first | rw [← Ny523.out] at ho6 | (simp only [Int.reduceToNat] at ho6; rw [← Ny523.out] at ho6)); have n0_ := az (Kd.R_lower ho6 (below_size (by repeat (first | (with_reducible first | exact HB.out | apply below_alloc | apply pw_below_drewN | apply below_drew1) | exact HB.out)))); have n1_ := az (below_step (by repeat (first | (with_reducible first | exact HB.out | apply below_alloc | apply pw_below_drewN | apply below_drew1) | exact HB.out)) hb); clear HB; have HO525 := n0_; have HB := n1_; clear n0_ n1_; clear hb ho6) | ((with_reducible refine gate_builtin (b := .append) (xs := #[.tmp 10, .tmp 11]) rfl ?_); at_builtin; refine Kd.R_append_rows (Kd.int .i64) (w0 := w) w.heap.size rfl (.tmp 10) (.tmp 11) 22 3 (.int .i64 0) 8 rfl Try.underlying22 info3 rfl (by decide) (by omega) v524 y523 l2 _ _ _ (fun _ => True) (fun _ => False) rfl rfl ?aO ?aR (fun _ _ h => h) (fun _ h => h.elim) ?aF ?aB ?aS ?aL ?_; (case aR => repeat (first | exact (Kd.C_below HR2.out HB.out) | (with_reducible refine Kd.C_alloc ?_ _) | (with_reducible refine Kd.C_drewN ?_ _) | (with_reducible refine Kd.C_drew ?_))); (case aB => exact (by repeat (first | (with_reducible first | exact HB.out | apply below_alloc | apply pw_below_drewN | apply below_drew1) | exact HB.out))); (case aF => exact (fun _ _ => trivial)); (case aO => exact (by (with_reducible repeat (first | apply Kd.R_alloc | apply Kd.R_drewN | apply Kd.R_drew)); exact HO525.out)); (case aS => exact (below_size (by repeat (first | (with_reducible first | exact HB.out | apply below_alloc | apply pw_below_drewN | apply below_drew1) | exact HB.out)))); (case aL => have := LMc4.out; omega); intro v527 w7 ho hb hg hat; rw [← Ny526.out] at ho; have n0_ := az (hb); have n1_ := az (ho); clear HB; clear HO525; have HB := n0_; have HO528 := n1_; clear n0_ n1_; clear ho hb hg hat)); go_loopg [7] k (fun kq v7 w' => ∃ (x7_1 : List Int), Aside0 (spec_l3Chain.l0 kq l0 l1 x7_1 = some r) ∧ Aside0 (kq ≤ k) ∧ Aside0 (Kd.R (Kd.int .i64) 3 w' w.heap.size (fun _ => True) v7 x7_1) ∧ Aside0 (Below w.heap.size w w'))
  case atStart => exact ⟨(y526), H', ⟨Nat.le_refl _⟩, ⟨by (with_reducible repeat (first | apply Kd.R_alloc | apply Kd.R_drewN | apply Kd.R_drew)); exact HO528.out⟩, ⟨by repeat (first | (with_reducible first | exact HB.out | apply below_alloc | apply pw_below_drewN | apply below_drew1) | exact HB.out)⟩⟩
  case round =>
   clear H'; (try clear c1); (try clear c2); (try clear p2); (try clear c4); obtain ⟨x7_1, HA, HK1, HO_7, HB⟩ := hrel
   cases gk with
   | zero => exact absurd HA.out (by simp [spec_l3Chain.l0])
   | succ k1 =>
    have H := HA.out; clear HA; simp only [spec_l3Chain.l0] at H; obtain ⟨ji8, hji8⟩ : ∃ j_ : Int, (wrap64 ((x7_1.length : Int) - 1)) = j_ := ⟨_, rfl⟩; replace H : (if 0 ≤ (ji8) then (if (ji8) < (x7_1.length : Int) then (if 0 ≤ (rd x7_1 (ji8)) then (if (rd x7_1 (ji8)) < (l0.length : Int) then ((spec_RuneBidi.f k1 (rd l0 (rd x7_1 (ji8)))).bind fun t531 => ((spec_l3Opens.f t531).bind fun t532 => (if t532 = true then ((spec_l3Mate.f k1 l0 (rd x7_1 (ji8))).bind fun t533 => (if t533 = (l0.length : Int) then (some x7_1) else ((spec_l3Run.f k1 l1 t533).bind fun t534 => (if x7_1.length + t534.length < 17592186044416 then (spec_l3Chain.l0 k1 l0 l1 (x7_1 ++ t534)) else (none))))) else (some x7_1)))) else (none)) else (none)) else (none)) else (none)) = some r := by first | (rw [hji8] at H; exact H) | (simp only [hji8] at H ⊢; exact H)
    have hji8w : (IntKind.i64.wrap ((x7_1.length : Int) - 1)) = ji8 := (i64_w _).trans hji8; by_cases c9 : 0 ≤ (ji8)
    ·
     rw [if_pos c9] at H; have c9b0 : decide (0 ≤ (ji8)) = true := decide_eq_true c9; clear c9; by_cases c10 : (ji8) < (x7_1.length : Int)
     ·
      rw [if_pos c10] at H; have c10b0 : decide ((ji8) < (x7_1.length : Int)) = true := decide_eq_true c10; clear c10; by_cases c11 : 0 ≤ (rd x7_1 (ji8))
      ·
       rw [if_pos c11] at H; have c11b0 : decide (0 ≤ (rd x7_1 (ji8))) = true := decide_eq_true c11; clear c11; by_cases c12 : (rd x7_1 (ji8)) < (l0.length : Int)
       ·
        rw [if_pos c12] at H; have c12b0 : decide ((rd x7_1 (ji8)) < (l0.length : Int)) = true := decide_eq_true c12; clear c12; replace H := Option.bind_eq_some_iff.mp H; obtain ⟨t531, A130, H⟩ := H; replace H : ((spec_l3Opens.f t531).bind fun t532 => (if t532 = true then ((spec_l3Mate.f k1 l0 (rd x7_1 (ji8))).bind fun t533 => (if t533 = (l0.length : Int) then (some x7_1) else ((spec_l3Run.f k1 l1 t533).bind fun t534 => (if x7_1.length + t534.length < 17592186044416 then (spec_l3Chain.l0 k1 l0 l1 (x7_1 ++ t534)) else (none))))) else (some x7_1))) = some r := H; have A13 := az A130; clear A130; replace H := Option.bind_eq_some_iff.mp H; obtain ⟨t532, A140, H⟩ := H; replace H : (if t532 = true then ((spec_l3Mate.f k1 l0 (rd x7_1 (ji8))).bind fun t533 => (if t533 = (l0.length : Int) then (some x7_1) else ((spec_l3Run.f k1 l1 t533).bind fun t534 => (if x7_1.length + t534.length < 17592186044416 then (spec_l3Chain.l0 k1 l0 l1 (x7_1 ++ t534)) else (none))))) else (some x7_1)) = some r := H; have A14 := az A140; clear A140; by_cases c15 : t532 = true
        ·
         subst c15; have H1 : ((spec_l3Mate.f k1 l0 (rd x7_1 (ji8))).bind fun t533 => (if t533 = (l0.length : Int) then (some x7_1) else ((spec_l3Run.f k1 l1 t533).bind fun t534 => (if x7_1.length + t534.length < 17592186044416 then (spec_l3Chain.l0 k1 l0 l1 (x7_1 ++ t534)) else (none))))) = some r := by rw [if_pos rfl] at H; exact H
         clear H; have H := H1; clear H1; replace H := Option.bind_eq_some_iff.mp H; obtain ⟨t533, A160, H⟩ := H; replace H : (if t533 = (l0.length : Int) then (some x7_1) else ((spec_l3Run.f k1 l1 t533).bind fun t534 => (if x7_1.length + t534.length < 17592186044416 then (spec_l3Chain.l0 k1 l0 l1 (x7_1 ++ t534)) else (none)))) = some r := H; have A16 := az A160; clear A160; by_cases c17 : t533 = (l0.length : Int)
         ·
          rw [if_pos c17] at H; have c17b0 : (t533 == (l0.length : Int)) = true := beq_iff_eq.mpr c17; have c17b1 : (t533 != (l0.length : Int)) = false := bne_eq_false_iff_eq.mpr c17; clear c17; obtain rfl := Option.some.inj H; obtain ⟨Ao18, co18, eo18⟩ := Kd.R_slice HO_7.out; subst eo18; have p529 : 0 ≤ ((ji8) : Int) := of_decide_eq_true (by assumption); have q529 : (ji8) < (x7_1.length : Int) := of_decide_eq_true (by assumption); obtain ⟨ad529, e529, hx529_0⟩ := Kd.at_int (Kd.R_reads' HO_7.out).2.2 (ji8) p529 q529
          cases e529
          replace p529 := eq_true p529; replace q529 := eq_true q529; have p530 : 0 ≤ ((rd x7_1 (ji8)) : Int) := of_decide_eq_true (by assumption); have q530 : (rd x7_1 (ji8)) < (l0.length : Int) := of_decide_eq_true (by assumption); obtain ⟨ad530, e530, hx530_0⟩ := Kd.at_int HR0.out (rd x7_1 (ji8)) p530 q530
          cases e530
          replace hx530_0 := (HB.out.cell (World.block_lt_of_cell? w _ hx530_0)).trans hx530_0; replace p530 := eq_true p530; replace q530 := eq_true q530; go_wp2_with (first | ((with_reducible refine gate_callee (f := 20) rfl ?_); refine goesL_ (some 23) rfl rfl Try.func20 (by kernel_rfl) rfl #[.int .i64 (rd l0 (rd x7_1 (ji8)))] rfl (by (try simp only [List.map_toArray, List.map_cons, List.map_nil]); first | done | (simp only [hji8]; rfl) | rfl | (simp only [List.length_drop, List.length_take]; rfl)) ?_; (with_reducible refine (spec_RuneBidi.calls k1 (rd l0 (rd x7_1 (ji8))) t531 _ A13.out).mono ?_); rintro e w19 ⟨rfl, hb⟩; refine ⟨_, rfl, ?_⟩; have n0_ := az (Kd.R_below (by (with_reducible repeat (first | apply Kd.R_alloc | apply Kd.R_drewN | apply Kd.R_drew)); exact HO_7.out) hb); have n1_ := az (below_step (by repeat (first | (with_reducible first | exact HB.out | apply below_alloc | apply pw_below_drewN | apply below_drew1) | exact HB.out)) hb); clear HO_7; clear HB; have HO_7 := n0_; have HB := n1_; clear n0_ n1_; (try clear hb); (try clear hb2); (try clear hk); (try clear hi)) | ((with_reducible refine gate_callee (f := 86) rfl ?_); refine goesL_ (some 24) rfl rfl Try.func86 (by kernel_rfl) rfl #[.int .i64 t531] rfl (by (try simp only [List.map_toArray, List.map_cons, List.map_nil]); first | done | rfl) ?_; (with_reducible refine (spec_l3Opens.calls t531 true _ A14.out).mono ?_); rintro e w' ⟨rfl, ⟨nd, rfl⟩⟩; refine ⟨_, rfl, ?_⟩) | ((with_reducible refine gate_callee (f := 93) rfl ?_); refine goesL_ (some 29) rfl rfl Try.func93 (by kernel_rfl) rfl #[.slice (some ad530) l0.length c0, .int .i64 (rd x7_1 (ji8))] rfl (by (try simp only [List.map_toArray, List.map_cons, List.map_nil]); first | done | (simp only [hji8]; rfl) | rfl | (simp only [List.length_drop, List.length_take]; rfl)) ?_; (with_reducible refine (spec_l3Mate.calls k1 _ _ l0 (rd x7_1 (ji8)) t533 _ ?side1 ?side2 A16.out).mono ?_); (case side1 => repeat (first | exact (Kd.C_below HR0.out (by repeat (first | (with_reducible first | exact HB.out | apply below_alloc | apply pw_below_drewN | apply below_drew1) | exact HB.out))) | (with_reducible refine Kd.C_alloc ?_ _) | (with_reducible refine Kd.C_drewN ?_ _) | (with_reducible refine Kd.C_drew ?_))); (case side2 => exact HC0.out); rintro e w20 ⟨rfl, hb⟩; refine ⟨_, rfl, ?_⟩; have n0_ := az (Kd.R_below (by (with_reducible repeat (first | apply Kd.R_alloc | apply Kd.R_drewN | apply Kd.R_drew)); exact HO_7.out) hb); have n1_ := az (below_step (by repeat (first | (with_reducible first | exact HB.out | apply below_alloc | apply pw_below_drewN | apply below_drew1) | exact HB.out)) hb); clear HO_7; clear HB; have HO_7 := n0_; have HB := n1_; clear n0_ n1_; (try clear hb); (try clear hb2); (try clear hk); (try clear hi))); go_ret; exact ⟨_, by first | rfl | (simp [errW_none, errW_some] <;> rfl) | (simp only [← hji8]; first | rfl | (simp [errW_none, errW_some] <;> rfl)) | (simp [*, errW_none, errW_some] <;> rfl), by (with_reducible repeat (first | apply Kd.R_alloc | apply Kd.R_drewN | apply Kd.R_drew)); exact HO_7.out, by repeat (first | (with_reducible first | exact HB.out | apply below_alloc | apply pw_below_drewN | apply below_drew1) | exact HB.out)⟩
         ·
          rw [if_neg c17] at H; have c17b0 : (t533 == (l0.length : Int)) = false := beq_eq_false_iff_ne.mpr c17; have c17b1 : (t533 != (l0.length : Int)) = true := bne_iff_ne.mpr c17; replace H := Option.bind_eq_some_iff.mp H; obtain ⟨t534, A210, H⟩ := H; replace H : (if x7_1.length + t534.length < 17592186044416 then (spec_l3Chain.l0 k1 l0 l1 (x7_1 ++ t534)) else (none)) = some r := H; have A21 := az A210; clear A210; by_cases c22 : x7_1.length + t534.length < 17592186044416
          ·
           rw [if_pos c22] at H; have LMc22 := az c22; clear c22; obtain ⟨y537, hy537⟩ : ∃ y_ : List Int, y_ = (x7_1 ++ t534) := ⟨_, rfl⟩; replace H : (spec_l3Chain.l0 k1 l0 l1 y537) = some r := by first | (rw [hy537]; with_reducible exact H) | (have H2_ := (Option.bind_some _ _).symm.trans H; rw [hy537]; with_reducible exact H2_) | (have H2_ := (Option.bind_some _ _).symm.trans H; with_reducible exact H2_) | with_reducible exact H | (rw [hy537]; exact H) | exact H
           have Ny537 := az hy537; clear hy537; have H' := az H; clear H; obtain ⟨Ao23, co23, eo23⟩ := Kd.R_slice HO_7.out; subst eo23; have p529 : 0 ≤ ((ji8) : Int) := of_decide_eq_true (by assumption); have q529 : (ji8) < (x7_1.length : Int) := of_decide_eq_true (by assumption); obtain ⟨ad529, e529, hx529_0⟩ := Kd.at_int (Kd.R_reads' HO_7.out).2.2 (ji8) p529 q529
           cases e529
           replace p529 := eq_true p529; replace q529 := eq_true q529; have p530 : 0 ≤ ((rd x7_1 (ji8)) : Int) := of_decide_eq_true (by assumption); have q530 : (rd x7_1 (ji8)) < (l0.length : Int) := of_decide_eq_true (by assumption); obtain ⟨ad530, e530, hx530_0⟩ := Kd.at_int HR0.out (rd x7_1 (ji8)) p530 q530
           cases e530
           replace hx530_0 := (HB.out.cell (World.block_lt_of_cell? w _ hx530_0)).trans hx530_0; replace p530 := eq_true p530; replace q530 := eq_true q530; go_wp2_with (first | ((with_reducible refine gate_callee (f := 20) rfl ?_); refine goesL_ (some 23) rfl rfl Try.func20 (by kernel_rfl) rfl #[.int .i64 (rd l0 (rd x7_1 (ji8)))] rfl (by (try simp only [List.map_toArray, List.map_cons, List.map_nil]); first | done | (simp only [hji8]; rfl) | rfl | (simp only [List.length_drop, List.length_take]; rfl)) ?_; (with_reducible refine (spec_RuneBidi.calls k1 (rd l0 (rd x7_1 (ji8))) t531 _ A13.out).mono ?_); rintro e w24 ⟨rfl, hb⟩; refine ⟨_, rfl, ?_⟩; have n0_ := az (Kd.R_below (by (with_reducible repeat (first | apply Kd.R_alloc | apply Kd.R_drewN | apply Kd.R_drew)); exact HO_7.out) hb); have n1_ := az (below_step (by repeat (first | (with_reducible first | exact HB.out | apply below_alloc | apply pw_below_drewN | apply below_drew1) | exact HB.out)) hb); clear HO_7; clear HB; have HO_7 := n0_; have HB := n1_; clear n0_ n1_; (try clear hb); (try clear hb2); (try clear hk); (try clear hi)) | ((with_reducible refine gate_callee (f := 86) rfl ?_); refine goesL_ (some 24) rfl rfl Try.func86 (by kernel_rfl) rfl #[.int .i64 t531] rfl (by (try simp only [List.map_toArray, List.map_cons, List.map_nil]); first | done | rfl) ?_; (with_reducible refine (spec_l3Opens.calls t531 true _ A14.out).mono ?_); rintro e w' ⟨rfl, ⟨nd, rfl⟩⟩; refine ⟨_, rfl, ?_⟩) | ((with_reducible refine gate_callee (f := 93) rfl ?_); refine goesL_ (some 29) rfl rfl Try.func93 (by kernel_rfl) rfl #[.slice (some ad530) l0.length c0, .int .i64 (rd x7_1 (ji8))] rfl (by (try simp only [List.map_toArray, List.map_cons, List.map_nil]); first | done | (simp only [hji8]; rfl) | rfl | (simp only [List.length_drop, List.length_take]; rfl)) ?_; (with_reducible refine (spec_l3Mate.calls k1 _ _ l0 (rd x7_1 (ji8)) t533 _ ?side1 ?side2 A16.out).mono ?_); (case side1 => repeat (first | exact (Kd.C_below HR0.out (by repeat (first | (with_reducible first | exact HB.out | apply below_alloc | apply pw_below_drewN | apply below_drew1) | exact HB.out))) | (with_reducible refine Kd.C_alloc ?_ _) | (with_reducible refine Kd.C_drewN ?_ _) | (with_reducible refine Kd.C_drew ?_))); (case side2 => exact HC0.out); rintro e w25 ⟨rfl, hb⟩; refine ⟨_, rfl, ?_⟩; have n0_ := az (Kd.R_below (by (with_reducible repeat (first | apply Kd.R_alloc | apply Kd.R_drewN | apply Kd.R_drew)); exact HO_7.out) hb); have n1_ := az (below_step (by repeat (first | (with_reducible first | exact HB.out | apply below_alloc | apply pw_below_drewN | apply below_drew1) | exact HB.out)) hb); clear HO_7; clear HB; have HO_7 := n0_; have HB := n1_; clear n0_ n1_; (try clear hb); (try clear hb2); (try clear hk); (try clear hi)) | ((with_reducible refine gate_callee (f := 82) rfl ?_); refine goesL_ (some 38) rfl rfl Try.func82 (by kernel_rfl) rfl #[.slice A1 l1.length c1, .int .i64 t533] rfl (by (try simp only [List.map_toArray, List.map_cons, List.map_nil]); first | done | rfl) ?_; (with_reducible refine (spec_l3Run.calls k1 _ _ l1 t533 t534 _ ?side1 ?side2 A21.out).mono ?_); (case side1 => repeat (first | exact (Kd.C_below HR1.out HB.out) | (with_reducible refine Kd.C_alloc ?_ _) | (with_reducible refine Kd.C_drewN ?_ _) | (with_reducible refine Kd.C_drew ?_))); (case side2 => exact HC1.out); rintro e w26 ⟨v535, rfl, ho0, hb⟩; refine ⟨_, rfl, ?_⟩; have n0_ := az (Kd.R_elder' (by (with_reducible repeat (first | apply Kd.R_alloc | apply Kd.R_drewN | apply Kd.R_drew)); exact HO_7.out) (Kd.R_base ho0) hb); have n1_ := az (Kd.R_lower (Kd.R_new' ho0 (Kd.R_lt (by (with_reducible repeat (first | apply Kd.R_alloc | apply Kd.R_drewN | apply Kd.R_drew)); exact HO_7.out))) (below_size (by repeat (first | (with_reducible first | exact HB.out | apply below_alloc | apply pw_below_drewN | apply below_drew1) | exact HB.out)))); have n2_ := az (below_step (by repeat (first | (with_reducible first | exact HB.out | apply below_alloc | apply pw_below_drewN | apply below_drew1) | exact HB.out)) hb); clear HO_7; clear HB; have HO_7 := n0_; have HO536 := n1_; have HB := n2_; clear n0_ n1_ n2_; (try clear hb); (try clear hb2); (try clear hk); (try clear hi); (try clear ho0); obtain ⟨Ao28, co28, eo28⟩ := Kd.R_slice HO536.out; subst eo28) | ((with_reducible refine gate_builtin (b := .append) (xs := #[.tmp 35, .tmp 38]) rfl ?_); at_builtin; refine Kd.R_append_rows (Kd.int .i64) (w0 := w) w.heap.size rfl (.tmp 35) (.tmp 38) 22 3 (.int .i64 0) 8 rfl Try.underlying22 info3 rfl (by decide) (by omega) (.slice (some ad529) x7_1.length co23) x7_1 t534 _ _ _ (fun k_ => some k_ ≠ (.slice Ao28 t534.length co28 : Value).ownBlock) (fun _ => False) rfl rfl ?aO ?aR (fun _ _ h => h) (fun _ h => h.elim) ?aF ?aB ?aS ?aL ?_; (case aR => repeat (first | exact (Kd.R_reads' HO536.out).2.2 | (with_reducible refine Kd.C_alloc ?_ _) | (with_reducible refine Kd.C_drewN ?_ _) | (with_reducible refine Kd.C_drew ?_))); (case aB => exact (by repeat (first | (with_reducible first | exact HB.out | apply below_alloc | apply pw_below_drewN | apply below_drew1) | exact HB.out))); (case aF => exact (fun k_ hk => Kd.fresh' (Kd.R_lt (by (with_reducible repeat (first | apply Kd.R_alloc | apply Kd.R_drewN | apply Kd.R_drew)); exact HO536.out)) k_ hk)); (case aO => exact (by (with_reducible repeat (first | apply Kd.R_alloc | apply Kd.R_drewN | apply Kd.R_drew)); exact Kd.R_mono HO_7.out (fun _ hk => hk.2))); (case aS => exact (below_size (by repeat (first | (with_reducible first | exact HB.out | apply below_alloc | apply pw_below_drewN | apply below_drew1) | exact HB.out)))); (case aL => have := LMc22.out; omega); intro v538 w27 ho hb hg hat; rw [← Ny537.out] at ho; have n0_ := az (Kd.R_after (ok := (fun _ => True)) (by (with_reducible repeat (first | apply Kd.R_alloc | apply Kd.R_drewN | apply Kd.R_drew)); exact HO536.out) hg hat); have n1_ := az (hb); have n2_ := az (ho); clear HO536; clear HB; clear HO_7; have HO536 := n0_; have HB := n1_; have HO539 := n2_; clear n0_ n1_ n2_; clear ho hb hg hat))
           go_roundg k1
           case measure => have := HK1.out; omega
           case rel => exact ⟨(y537), H', ⟨by have := HK1.out; omega⟩, ⟨by (with_reducible repeat (first | apply Kd.R_alloc | apply Kd.R_drewN | apply Kd.R_drew)); exact Kd.R_mono HO539.out (fun _ hk => trivial)⟩, ⟨by repeat (first | (with_reducible first | exact HB.out | apply below_alloc | apply pw_below_drewN | apply below_drew1) | exact HB.out)⟩⟩
          ·
           rw [if_neg c22] at H; exact absurd H (by simp)
        ·
         replace c15 := Bool.eq_false_iff.mpr c15; subst c15; have H1 : (some x7_1) = some r := by rw [if_neg (show ¬ (false = true) by decide)] at H; exact H
         clear H; have H := H1; clear H1; obtain rfl := Option.some.inj H; obtain ⟨Ao29, co29, eo29⟩ := Kd.R_slice HO_7.out; subst eo29; have p529 : 0 ≤ ((ji8) : Int) := of_decide_eq_true (by assumption); have q529 : (ji8) < (x7_1.length : Int) := of_decide_eq_true (by assumption); obtain ⟨ad529, e529, hx529_0⟩ := Kd.at_int (Kd.R_reads' HO_7.out).2.2 (ji8) p529 q529
         cases e529
         replace p529 := eq_true p529; replace q529 := eq_true q529; have p530 : 0 ≤ ((rd x7_1 (ji8)) : Int) := of_decide_eq_true (by assumption); have q530 : (rd x7_1 (ji8)) < (l0.length : Int) := of_decide_eq_true (by assumption); obtain ⟨ad530, e530, hx530_0⟩ := Kd.at_int HR0.out (rd x7_1 (ji8)) p530 q530
         cases e530
         replace hx530_0 := (HB.out.cell (World.block_lt_of_cell? w _ hx530_0)).trans hx530_0; replace p530 := eq_true p530; replace q530 := eq_true q530; go_wp2_with (first | ((with_reducible refine gate_callee (f := 20) rfl ?_); refine goesL_ (some 23) rfl rfl Try.func20 (by kernel_rfl) rfl #[.int .i64 (rd l0 (rd x7_1 (ji8)))] rfl (by (try simp only [List.map_toArray, List.map_cons, List.map_nil]); first | done | (simp only [hji8]; rfl) | rfl | (simp only [List.length_drop, List.length_take]; rfl)) ?_; (with_reducible refine (spec_RuneBidi.calls k1 (rd l0 (rd x7_1 (ji8))) t531 _ A13.out).mono ?_); rintro e w30 ⟨rfl, hb⟩; refine ⟨_, rfl, ?_⟩; have n0_ := az (Kd.R_below (by (with_reducible repeat (first | apply Kd.R_alloc | apply Kd.R_drewN | apply Kd.R_drew)); exact HO_7.out) hb); have n1_ := az (below_step (by repeat (first | (with_reducible first | exact HB.out | apply below_alloc | apply pw_below_drewN | apply below_drew1) | exact HB.out)) hb); clear HO_7; clear HB; have HO_7 := n0_; have HB := n1_; clear n0_ n1_; (try clear hb); (try clear hb2); (try clear hk); (try clear hi)) | ((with_reducible refine gate_callee (f := 86) rfl ?_); refine goesL_ (some 24) rfl rfl Try.func86 (by kernel_rfl) rfl #[.int .i64 t531] rfl (by (try simp only [List.map_toArray, List.map_cons, List.map_nil]); first | done | rfl) ?_; (with_reducible refine (spec_l3Opens.calls t531 false _ A14.out).mono ?_); rintro e w' ⟨rfl, ⟨nd, rfl⟩⟩; refine ⟨_, rfl, ?_⟩)); go_ret; exact ⟨_, by first | rfl | (simp [errW_none, errW_some] <;> rfl) | (simp only [← hji8]; first | rfl | (simp [errW_none, errW_some] <;> rfl)) | (simp [*, errW_none, errW_some] <;> rfl), by (with_reducible repeat (first | apply Kd.R_alloc | apply Kd.R_drewN | apply Kd.R_drew)); exact HO_7.out, by repeat (first | (with_reducible first | exact HB.out | apply below_alloc | apply pw_below_drewN | apply below_drew1) | exact HB.out)⟩
       ·
        rw [if_neg c12] at H; exact absurd H (by simp)
      ·
       rw [if_neg c11] at H; exact absurd H (by simp)
     ·
      rw [if_neg c10] at H; exact absurd H (by simp)
    ·
     rw [if_neg c9] at H; exact absurd H (by simp)
 ·
  rw [if_neg c4] at H; exact absurd H (by simp)
mutual
def spec_l3Runs.l0 : Nat → List Int → List Int → List (List Int) → Int → Option ((List (List Int)))
 | 0, _, _, _, _ => none
 | k + 1, x0, x1, x5, x6 => if x6 < (x0.length : Int) then ((spec_l3Run.f k x1 x6).bind fun t544 => (if 0 ≤ (wrap64 ((t544.length : Int) - 1)) then (if (wrap64 ((t544.length : Int) - 1)) < (t544.length : Int) then (if 0 ≤ x6 then ((spec_RuneBidi.f k (rd x0 x6)).bind fun t549 => (if t549 = 22 then ((spec_l3Closes.f k x0 x6).bind fun t550 => (spec_l3Runs.j1 k x0 x1 x5 t544 (rd t544 (wrap64 ((t544.length : Int) - 1))) (!t550))) else (spec_l3Runs.j1 k x0 x1 x5 t544 (rd t544 (wrap64 ((t544.length : Int) - 1))) true))) else (none)) else (none)) else (none))) else (some x5)
def spec_l3Runs.j1 : Nat → List Int → List Int → List (List Int) → List Int → Int → Bool → Option ((List (List Int)))
 | 0, _, _, _, _, _, _ => none
 | k + 1, x0, x1, x5, x7, x8, x36 => if x36 = true then ((spec_l3Chain.f k x0 x1 x7).bind fun t551 => (if x5.length < 5864062014805 then ((spec_l3Left.f k x1 (wrap64 (x8 + 1))).bind fun t557 => (spec_l3Runs.l0 k x0 x1 (x5 ++ [t551]) t557)) else (none))) else ((spec_l3Left.f k x1 (wrap64 (x8 + 1))).bind fun t558 => (spec_l3Runs.l0 k x0 x1 x5 t558))
end
def spec_l3Runs.f (k : Nat) (l0 : List Int) (l1 : List Int) : Option ((List (List Int))) := (spec_l3Left.f k l1 0).bind fun t543 => (spec_l3Runs.l0 k l0 l1 (([] : List (List Int))) t543)
theorem spec_l3Runs.mono_l : ∀ k, (∀ y0 y1 y2 y3, LeO (spec_l3Runs.l0 k y0 y1 y2 y3) (spec_l3Runs.l0 (k + 1) y0 y1 y2 y3)) ∧ (∀ y0 y1 y2 y3 y4 y5, LeO (spec_l3Runs.j1 k y0 y1 y2 y3 y4 y5) (spec_l3Runs.j1 (k + 1) y0 y1 y2 y3 y4 y5))
 | 0 => ⟨fun _ _ _ _ r h => by simp [spec_l3Runs.l0] at h, fun _ _ _ _ _ _ r h => by simp [spec_l3Runs.j1] at h⟩
 | k + 1 => by
  obtain ⟨ih0, ih1⟩ := spec_l3Runs.mono_l k; refine ⟨?_, ?_⟩
  ·
   intro y0 y1 y2 y3; unfold spec_l3Runs.l0
   repeat' first
   | (with_reducible exact ih0 _ _ _ _)
   | (with_reducible exact ih1 _ _ _ _ _ _)
   | (with_reducible exact spec_RuneBidi.mono _ _)
   | (with_reducible exact spec_l3Chain.mono _ _ _ _)
   | (with_reducible exact spec_l3Closes.mono _ _ _)
   | (with_reducible exact spec_l3Left.mono _ _ _)
   | (with_reducible exact spec_l3Run.mono _ _ _)
   | (with_reducible exact LeO.refl _)
   | (with_reducible exact LeO.none _)
   | (with_reducible refine LeO.ite ?_ ?_)
   | (with_reducible refine LeO.bind ?_ (fun _ => ?_))
   | exact ih0 _ _ _ _
   | exact ih1 _ _ _ _ _ _
   | exact spec_RuneBidi.mono _ _
   | exact spec_l3Chain.mono _ _ _ _
   | exact spec_l3Closes.mono _ _ _
   | exact spec_l3Left.mono _ _ _
   | exact spec_l3Run.mono _ _ _
   | exact LeO.none _
   | refine LeO.ite ?_ ?_
   | refine LeO.bind ?_ (fun _ => ?_)
  ·
   intro y0 y1 y2 y3 y4 y5; unfold spec_l3Runs.j1
   repeat' first
   | (with_reducible exact ih0 _ _ _ _)
   | (with_reducible exact ih1 _ _ _ _ _ _)
   | (with_reducible exact spec_RuneBidi.mono _ _)
   | (with_reducible exact spec_l3Chain.mono _ _ _ _)
   | (with_reducible exact spec_l3Closes.mono _ _ _)
   | (with_reducible exact spec_l3Left.mono _ _ _)
   | (with_reducible exact spec_l3Run.mono _ _ _)
   | (with_reducible exact LeO.refl _)
   | (with_reducible exact LeO.none _)
   | (with_reducible refine LeO.ite ?_ ?_)
   | (with_reducible refine LeO.bind ?_ (fun _ => ?_))
   | exact ih0 _ _ _ _
   | exact ih1 _ _ _ _ _ _
   | exact spec_RuneBidi.mono _ _
   | exact spec_l3Chain.mono _ _ _ _
   | exact spec_l3Closes.mono _ _ _
   | exact spec_l3Left.mono _ _ _
   | exact spec_l3Run.mono _ _ _
   | exact LeO.none _
   | refine LeO.ite ?_ ?_
   | refine LeO.bind ?_ (fun _ => ?_)
theorem spec_l3Runs.mono : ∀ a0 a1 k, LeO (spec_l3Runs.f k a0 a1) (spec_l3Runs.f (k + 1) a0 a1) := by
 intro a0 a1 k; obtain ⟨ih0, ih1⟩ := spec_l3Runs.mono_l k; unfold spec_l3Runs.f
 repeat' first
   | (with_reducible exact ih0 _ _ _ _)
   | (with_reducible exact ih1 _ _ _ _ _ _)
   | (with_reducible exact spec_RuneBidi.mono _ _)
   | (with_reducible exact spec_l3Chain.mono _ _ _ _)
   | (with_reducible exact spec_l3Closes.mono _ _ _)
   | (with_reducible exact spec_l3Left.mono _ _ _)
   | (with_reducible exact spec_l3Run.mono _ _ _)
   | (with_reducible exact LeO.refl _)
   | (with_reducible exact LeO.none _)
   | (with_reducible refine LeO.ite ?_ ?_)
   | (with_reducible refine LeO.bind ?_ (fun _ => ?_))
   | exact ih0 _ _ _ _
   | exact ih1 _ _ _ _ _ _
   | exact spec_RuneBidi.mono _ _
   | exact spec_l3Chain.mono _ _ _ _
   | exact spec_l3Closes.mono _ _ _
   | exact spec_l3Left.mono _ _ _
   | exact spec_l3Run.mono _ _ _
   | exact LeO.none _
   | refine LeO.ite ?_ ?_
   | refine LeO.bind ?_ (fun _ => ?_)
theorem spec_l3Runs.calls (k : Nat) (A0 : Option Addr) (c0 : Nat) (l0 : List Int) (A1 : Option Addr) (c1 : Nat) (l1 : List Int) (r : List (List Int)) (w : World) (hr0 : Kd.C (Kd.int .i64) w A0 l0.length l0) (hc0 : l0.length ≤ c0) (hr1 : Kd.C (Kd.int .i64) w A1 l1.length l1) (hc1 : l1.length ≤ c1) (h : spec_l3Runs.f k l0 l1 = some r) :
  Calls Try.prog 55 #[.slice A0 l0.length c0, .slice A1 l1.length c1] w fun e w' => ∃ v0_ : Value, e = .returned (v0_) ∧ Kd.S (Kd.slice 3 (Kd.int .i64)) 22 w' w.heap.size (fun _ => True) v0_ r ∧ Below w.heap.size w w' := by
 have HR0 := az hr0; have HC0 := az hc0; clear hr0 hc0; have HR1 := az hr1; have HC1 := az hc1; clear hr1 hc1; have HB := az (Below.refl w.heap.size w); have H : ((spec_l3Left.f k l1 0).bind fun t543 => (spec_l3Runs.l0 k l0 l1 (([] : List (List Int))) t543)) = some r := h; clear h; obtain ⟨y540, hy540⟩ : ∃ y_ : List (List Int), y_ = (([] : List (List Int))) := ⟨_, rfl⟩; replace H : ((spec_l3Left.f k l1 0).bind fun t543 => (spec_l3Runs.l0 k l0 l1 y540 t543)) = some r := by first | (rw [hy540]; with_reducible exact H) | (have H2_ := (Option.bind_some _ _).symm.trans H; rw [hy540]; with_reducible exact H2_) | (have H2_ := (Option.bind_some _ _).symm.trans H; with_reducible exact H2_) | with_reducible exact H | (rw [hy540]; exact H) | exact H
 have Ny540 := az hy540; clear hy540; replace H := Option.bind_eq_some_iff.mp H; obtain ⟨t543, A30, H⟩ := H; replace H : (spec_l3Runs.l0 k l0 l1 y540 t543) = some r := H; have A3 := az A30; clear A30; have H' := az H; clear H; go_enter Try.func55, Try.ntmps55; go_wp2_with (first | ((with_reducible refine gate_dst (N := 9) rfl ?_); refine Kd.S_lit (Kd.slice 3 (Kd.int .i64)) _ 22 ?hg (N := 9) ?hd (xs := ([] : List (List Int))) (inner := []) (ok := fun _ => True) (okp := fun _ => True) ?hr ?hp (fun _ hk => hk) trivial (Below.refl _ _) (Nat.le_refl _) (by simp) ?_; (case hd => rfl); (case hg => rfl); (case hr => first | (go_simp; done) | (go_simp; rfl)); (case hp => exact (Reps.none _ _)); intro v541 w4 ho5 hb hg_ hnew_; clear hg_ hnew_; (first | rw [← Ny540.out] at ho5 | (simp only [Int.reduceToNat] at ho5; rw [← Ny540.out] at ho5)); have n0_ := az (Kd.S_lower ho5 (below_size (by repeat (first | (with_reducible first | exact HB.out | apply below_alloc | apply pw_below_drewN | apply below_drew1) | exact HB.out)))); have n1_ := az (below_step (by repeat (first | (with_reducible first | exact HB.out | apply below_alloc | apply pw_below_drewN | apply below_drew1) | exact HB.out)) hb); clear HB; have HO542 := n0_; have HB := n1_; clear n0_ n1_; clear hb ho5) | ((with_reducible refine gate_callee (f := 81) rfl ?_); refine goesL_ (some 11) rfl rfl Try.func81 (by kernel_rfl) rfl #[.slice A1 l1.length c1, .int .i64 0] rfl (by (try simp only [List.map_toArray, List.map_cons, List.map_nil]); first | done | rfl) ?_; (with_reducible refine (spec_l3Left.calls k _ _ l1 0 t543 _ ?side1 ?side2 A3.out).mono ?_); (case side1 => repeat (first | exact (Kd.C_below HR1.out HB.out) | (with_reducible refine Kd.C_alloc ?_ _) | (with_reducible refine Kd.C_drewN ?_ _) | (with_reducible refine Kd.C_drew ?_))); (case side2 => exact HC1.out); rintro e w' ⟨rfl, ⟨nd, rfl⟩⟩; refine ⟨_, rfl, ?_⟩)); go_loopg [5, 6] k (fun kq v5 v6 w' => ∃ (x5_1 : List (List Int)) (x6_1 : Int), v6 = .int .i64 x6_1 ∧ Aside0 (spec_l3Runs.l0 kq l0 l1 x5_1 x6_1 = some r) ∧ Aside0 (kq ≤ k) ∧ Aside0 (Kd.S (Kd.slice 3 (Kd.int .i64)) 22 w' w.heap.size (fun _ => True) v5 x5_1) ∧ Aside0 (Below w.heap.size w w'))
 case atStart => exact ⟨(y540), (t543), (by first | rfl | (simp; done) | (simp [*]; done)), H', ⟨Nat.le_refl _⟩, ⟨by (with_reducible repeat (first | apply Kd.S_alloc | apply Kd.S_drewN | apply Kd.S_drew)); exact HO542.out⟩, ⟨by repeat (first | (with_reducible first | exact HB.out | apply below_alloc | apply pw_below_drewN | apply below_drew1) | exact HB.out)⟩⟩
 case round =>
  clear H'; (try clear c1); (try clear p2); (try clear c5); obtain ⟨x5_1, x6_1, rfl, HA, HK1, HO_5, HB⟩ := hrel
  cases gk with
  | zero => exact absurd HA.out (by simp [spec_l3Runs.l0])
  | succ k1 =>
   have H := HA.out; clear HA; simp only [spec_l3Runs.l0] at H; by_cases c6 : x6_1 < (l0.length : Int)
   ·
    rw [if_pos c6] at H; have c6b0 : decide (x6_1 < (l0.length : Int)) = true := decide_eq_true c6; clear c6; replace H := Option.bind_eq_some_iff.mp H; obtain ⟨t544, A70, H⟩ := H; replace H : (if 0 ≤ (wrap64 ((t544.length : Int) - 1)) then (if (wrap64 ((t544.length : Int) - 1)) < (t544.length : Int) then (if 0 ≤ x6_1 then ((spec_RuneBidi.f k1 (rd l0 x6_1)).bind fun t549 => (if t549 = 22 then ((spec_l3Closes.f k1 l0 x6_1).bind fun t550 => (spec_l3Runs.j1 k1 l0 l1 x5_1 t544 (rd t544 (wrap64 ((t544.length : Int) - 1))) (!t550))) else (spec_l3Runs.j1 k1 l0 l1 x5_1 t544 (rd t544 (wrap64 ((t544.length : Int) - 1))) true))) else (none)) else (none)) else (none)) = some r := H; have A7 := az A70; clear A70; obtain ⟨ji8, hji8⟩ : ∃ j_ : Int, (wrap64 ((t544.length : Int) - 1)) = j_ := ⟨_, rfl⟩; replace H : (if 0 ≤ (ji8) then (if (ji8) < (t544.length : Int) then (if 0 ≤ x6_1 then ((spec_RuneBidi.f k1 (rd l0 x6_1)).bind fun t549 => (if t549 = 22 then ((spec_l3Closes.f k1 l0 x6_1).bind fun t550 => (spec_l3Runs.j1 k1 l0 l1 x5_1 t544 (rd t544 (ji8)) (!t550))) else (spec_l3Runs.j1 k1 l0 l1 x5_1 t544 (rd t544 (ji8)) true))) else (none)) else (none)) else (none)) = some r := by first | (rw [hji8] at H; exact H) | (simp only [hji8] at H ⊢; exact H)
    (try rw [hji8] at A7); have hji8w : (IntKind.i64.wrap ((t544.length : Int) - 1)) = ji8 := (i64_w _).trans hji8; by_cases c9 : 0 ≤ (ji8)
    ·
     rw [if_pos c9] at H; have c9b0 : decide (0 ≤ (ji8)) = true := decide_eq_true c9; clear c9; by_cases c10 : (ji8) < (t544.length : Int)
     ·
      rw [if_pos c10] at H; have c10b0 : decide ((ji8) < (t544.length : Int)) = true := decide_eq_true c10; clear c10; have HC11 := az H; clear H; go_upto_region 6 with (first | ((with_reducible refine gate_callee (f := 82) rfl ?_); refine goesL_ (some 18) rfl rfl Try.func82 (by kernel_rfl) rfl #[.slice A1 l1.length c1, .int .i64 x6_1] rfl (by (try simp only [List.map_toArray, List.map_cons, List.map_nil]); first | done | rfl) ?_; (with_reducible refine (spec_l3Run.calls k1 _ _ l1 x6_1 t544 _ ?side1 ?side2 A7.out).mono ?_); (case side1 => repeat (first | exact (Kd.C_below HR1.out HB.out) | (with_reducible refine Kd.C_alloc ?_ _) | (with_reducible refine Kd.C_drewN ?_ _) | (with_reducible refine Kd.C_drew ?_))); (case side2 => exact HC1.out); rintro e w12 ⟨v545, rfl, ho0, hb⟩; refine ⟨_, rfl, ?_⟩; have n0_ := az (Kd.S_elder' (by (with_reducible repeat (first | apply Kd.S_alloc | apply Kd.S_drewN | apply Kd.S_drew)); exact HO_5.out) (Kd.R_base ho0) hb); have n1_ := az (Kd.R_lower ho0 (below_size (by repeat (first | (with_reducible first | exact HB.out | apply below_alloc | apply pw_below_drewN | apply below_drew1) | exact HB.out)))); have n2_ := az (below_step (by repeat (first | (with_reducible first | exact HB.out | apply below_alloc | apply pw_below_drewN | apply below_drew1) | exact HB.out)) hb); clear HO_5; clear HB; have HO_5 := n0_; have HO546 := n1_; have HB := n2_; clear n0_ n1_ n2_; (try clear hb); (try clear hb2); (try clear hk); (try clear hi); (try clear ho0); obtain ⟨Ao13, co13, eo13⟩ := Kd.R_slice HO546.out; subst eo13; have p547 : 0 ≤ ((ji8) : Int) := of_decide_eq_true (by assumption); have q547 : (ji8) < (t544.length : Int) := of_decide_eq_true (by assumption); obtain ⟨ad547, e547, hx547_0⟩ := Kd.at_int (Kd.R_reads' HO546.out).2.2 (ji8) p547 q547; cases e547; replace p547 := eq_true p547; replace q547 := eq_true q547))
      (try simp only [Act.put, List.setIfInBounds_toArray, List.set_cons_zero, List.set_cons_succ]); go_cut [36] (fun v36 wc => ∃ (kq : Nat) (x36_10 : Bool), v36 = .bool x36_10 ∧ Aside0 (spec_l3Runs.j1 kq l0 l1 x5_1 t544 (rd t544 (ji8)) x36_10 = some r) ∧ Aside0 (kq ≤ k1) ∧ Aside0 (Kd.S (Kd.slice 3 (Kd.int .i64)) 22 wc w.heap.size (fun k_ => some k_ ≠ ((.slice (some ad547) t544.length co13) : Value).ownBlock) u5 x5_1) ∧ Aside0 (Kd.R (Kd.int .i64) 3 wc w.heap.size (fun _ => True) (.slice (some ad547) t544.length co13) t544) ∧ Aside0 (Below w.heap.size w wc))
      case first =>
       have H := HC11.out; clear HC11; by_cases c14 : 0 ≤ x6_1
       ·
        rw [if_pos c14] at H; have c14b0 : decide (0 ≤ x6_1) = true := decide_eq_true c14; clear c14; (first | rw [c14b0] | (simp only [i64_w, i32_w]; rw [c14b0]) | skip); replace H := Option.bind_eq_some_iff.mp H; obtain ⟨t549, A150, H⟩ := H; replace H : (if t549 = 22 then ((spec_l3Closes.f k1 l0 x6_1).bind fun t550 => (spec_l3Runs.j1 k1 l0 l1 x5_1 t544 (rd t544 (ji8)) (!t550))) else (spec_l3Runs.j1 k1 l0 l1 x5_1 t544 (rd t544 (ji8)) true)) = some r := H; have A15 := az A150; clear A150; by_cases c16 : t549 = 22
        ·
         rw [if_pos c16] at H; have c16b0 : (t549 == 22) = true := beq_iff_eq.mpr c16; have c16b1 : (t549 != 22) = false := bne_eq_false_iff_eq.mpr c16; clear c16; replace H := Option.bind_eq_some_iff.mp H; obtain ⟨t550, A170, H⟩ := H; replace H : (spec_l3Runs.j1 k1 l0 l1 x5_1 t544 (rd t544 (ji8)) (!t550)) = some r := H; have A17 := az A170; clear A170; have H' := az H; clear H; have p548 : 0 ≤ (x6_1 : Int) := of_decide_eq_true (by assumption); have q548 : x6_1 < (l0.length : Int) := of_decide_eq_true (by assumption); obtain ⟨ad548, e548, hx548_0⟩ := Kd.at_int HR0.out x6_1 p548 q548
         cases e548
         replace hx548_0 := (HB.out.cell (World.block_lt_of_cell? w _ hx548_0)).trans hx548_0; replace p548 := eq_true p548; replace q548 := eq_true q548; go_wp2_with (first | ((with_reducible refine gate_callee (f := 20) rfl ?_); refine goesL_ (some 29) rfl rfl Try.func20 (by kernel_rfl) rfl #[.int .i64 (rd l0 x6_1)] rfl (by (try simp only [List.map_toArray, List.map_cons, List.map_nil]); first | done | rfl) ?_; (with_reducible refine (spec_RuneBidi.calls k1 (rd l0 x6_1) t549 _ A15.out).mono ?_); rintro e w18 ⟨rfl, hb⟩; refine ⟨_, rfl, ?_⟩; have n0_ := az (Kd.S_below (by (with_reducible repeat (first | apply Kd.S_alloc | apply Kd.S_drewN | apply Kd.S_drew)); exact HO_5.out) hb); have n1_ := az (Kd.R_below (by (with_reducible repeat (first | apply Kd.R_alloc | apply Kd.R_drewN | apply Kd.R_drew)); exact HO546.out) hb); have n2_ := az (below_step (by repeat (first | (with_reducible first | exact HB.out | apply below_alloc | apply pw_below_drewN | apply below_drew1) | exact HB.out)) hb); clear HO_5; clear HO546; clear HB; have HO_5 := n0_; have HO546 := n1_; have HB := n2_; clear n0_ n1_ n2_; (try clear hb); (try clear hb2); (try clear hk); (try clear hi)) | (go_at_call 83; (with_reducible refine (spec_l3Closes.calls k1 _ _ l0 x6_1 t550 _ ?side1 ?side2 A17.out).mono ?_); (case side1 => repeat (first | exact (Kd.C_below HR0.out HB.out) | (with_reducible refine Kd.C_alloc ?_ _) | (with_reducible refine Kd.C_drewN ?_ _) | (with_reducible refine Kd.C_drew ?_))); (case side2 => exact HC0.out); rintro e w19 ⟨rfl, hb⟩; have n0_ := az (Kd.S_below (by (with_reducible repeat (first | apply Kd.S_alloc | apply Kd.S_drewN | apply Kd.S_drew)); exact HO_5.out) hb); have n1_ := az (Kd.R_below (by (with_reducible repeat (first | apply Kd.R_alloc | apply Kd.R_drewN | apply Kd.R_drew)); exact HO546.out) hb); have n2_ := az (below_step (by repeat (first | (with_reducible first | exact HB.out | apply below_alloc | apply pw_below_drewN | apply below_drew1) | exact HB.out)) hb); clear HO_5; clear HO546; clear HB; have HO_5 := n0_; have HO546 := n1_; have HB := n2_; clear n0_ n1_ n2_; (try clear hb); (try clear hb2); (try clear hk); (try clear hi))); go_meet
         case rel => exact ⟨_, (!t550), (by first | rfl | (simp; done) | (simp [*]; done)), H', ⟨by have := HK1.out; first | omega | exact Nat.le_refl _⟩, ⟨by (with_reducible repeat (first | apply Kd.S_alloc | apply Kd.S_drewN | apply Kd.S_drew)); exact Kd.S_mono HO_5.out (fun _ hk => hk.2)⟩, ⟨by (with_reducible repeat (first | apply Kd.R_alloc | apply Kd.R_drewN | apply Kd.R_drew)); exact HO546.out⟩, ⟨by repeat (first | (with_reducible first | exact HB.out | apply below_alloc | apply pw_below_drewN | apply below_drew1) | exact HB.out)⟩⟩
        ·
         rw [if_neg c16] at H; have c16b0 : (t549 == 22) = false := beq_eq_false_iff_ne.mpr c16; have c16b1 : (t549 != 22) = true := bne_iff_ne.mpr c16; have H' := az H; clear H; have p548 : 0 ≤ (x6_1 : Int) := of_decide_eq_true (by assumption); have q548 : x6_1 < (l0.length : Int) := of_decide_eq_true (by assumption); obtain ⟨ad548, e548, hx548_0⟩ := Kd.at_int HR0.out x6_1 p548 q548
         cases e548
         replace hx548_0 := (HB.out.cell (World.block_lt_of_cell? w _ hx548_0)).trans hx548_0; replace p548 := eq_true p548; replace q548 := eq_true q548; go_wp2_with (first | ((with_reducible refine gate_callee (f := 20) rfl ?_); refine goesL_ (some 29) rfl rfl Try.func20 (by kernel_rfl) rfl #[.int .i64 (rd l0 x6_1)] rfl (by (try simp only [List.map_toArray, List.map_cons, List.map_nil]); first | done | rfl) ?_; (with_reducible refine (spec_RuneBidi.calls k1 (rd l0 x6_1) t549 _ A15.out).mono ?_); rintro e w20 ⟨rfl, hb⟩; refine ⟨_, rfl, ?_⟩; have n0_ := az (Kd.S_below (by (with_reducible repeat (first | apply Kd.S_alloc | apply Kd.S_drewN | apply Kd.S_drew)); exact HO_5.out) hb); have n1_ := az (Kd.R_below (by (with_reducible repeat (first | apply Kd.R_alloc | apply Kd.R_drewN | apply Kd.R_drew)); exact HO546.out) hb); have n2_ := az (below_step (by repeat (first | (with_reducible first | exact HB.out | apply below_alloc | apply pw_below_drewN | apply below_drew1) | exact HB.out)) hb); clear HO_5; clear HO546; clear HB; have HO_5 := n0_; have HO546 := n1_; have HB := n2_; clear n0_ n1_ n2_; (try clear hb); (try clear hb2); (try clear hk); (try clear hi))); go_meet
         case rel => exact ⟨_, (true), (by first | rfl | (simp; done) | (simp [*]; done)), H', ⟨by have := HK1.out; first | omega | exact Nat.le_refl _⟩, ⟨by (with_reducible repeat (first | apply Kd.S_alloc | apply Kd.S_drewN | apply Kd.S_drew)); exact Kd.S_mono HO_5.out (fun _ hk => hk.2)⟩, ⟨by (with_reducible repeat (first | apply Kd.R_alloc | apply Kd.R_drewN | apply Kd.R_drew)); exact HO546.out⟩, ⟨by repeat (first | (with_reducible first | exact HB.out | apply below_alloc | apply pw_below_drewN | apply below_drew1) | exact HB.out)⟩⟩
       ·
        rw [if_neg c14] at H; exact absurd H (by simp)
      case rest =>
       clear HC11; (try clear c1); (try clear c2); (try clear p2); (try clear c5); (try clear p5); (try clear q5); (try clear hx5); (try clear c6); (try clear c6b0); (try clear p6); (try clear c8); (try clear c9); (try clear c9b0); (try clear c10); (try clear c10b0); (try clear c14); (try clear c14b0); (try clear c16); (try clear c16b0); (try clear c16b1); (try clear c20); (try clear hx547_0); (try clear hx548_0); (try clear p2); (try clear p547); (try clear p548); (try clear q547); (try clear q548); obtain ⟨kq, x36_10, rfl, HA, HJ10, HO_5, HO_7, HB⟩ := hcut
       cases kq with
       | zero => exact absurd HA.out (by simp [spec_l3Runs.j1])
       | succ kj10 =>
        have H := HA.out; clear HA; simp only [spec_l3Runs.j1] at H; by_cases c21 : x36_10 = true
        ·
         subst c21; have H1 : ((spec_l3Chain.f kj10 l0 l1 t544).bind fun t551 => (if x5_1.length < 5864062014805 then ((spec_l3Left.f kj10 l1 (wrap64 ((rd t544 (ji8)) + 1))).bind fun t557 => (spec_l3Runs.l0 kj10 l0 l1 (x5_1 ++ [t551]) t557)) else (none))) = some r := by rw [if_pos rfl] at H; exact H
         clear H; have H := H1; clear H1; replace H := Option.bind_eq_some_iff.mp H; obtain ⟨t551, A220, H⟩ := H; replace H : (if x5_1.length < 5864062014805 then ((spec_l3Left.f kj10 l1 (wrap64 ((rd t544 (ji8)) + 1))).bind fun t557 => (spec_l3Runs.l0 kj10 l0 l1 (x5_1 ++ [t551]) t557)) else (none)) = some r := H; have A22 := az A220; clear A220; by_cases c23 : x5_1.length < 5864062014805
         ·
          rw [if_pos c23] at H; have LMc23 := az c23; clear c23; obtain ⟨y554, hy554⟩ : ∃ y_ : List (List Int), y_ = (x5_1 ++ [t551]) := ⟨_, rfl⟩; replace H : ((spec_l3Left.f kj10 l1 (wrap64 ((rd t544 (ji8)) + 1))).bind fun t557 => (spec_l3Runs.l0 kj10 l0 l1 y554 t557)) = some r := by first | (rw [hy554]; with_reducible exact H) | (have H2_ := (Option.bind_some _ _).symm.trans H; rw [hy554]; with_reducible exact H2_) | (have H2_ := (Option.bind_some _ _).symm.trans H; with_reducible exact H2_) | with_reducible exact H | (rw [hy554]; exact H) | exact H
          have Ny554 := az hy554; clear hy554; replace H := Option.bind_eq_some_iff.mp H; obtain ⟨t557, A240, H⟩ := H; replace H : (spec_l3Runs.l0 kj10 l0 l1 y554 t557) = some r := H; have A24 := az A240; clear A240; have H' := az H; clear H; go_wp2_with (first | ((with_reducible refine gate_callee (f := 84) rfl ?_); refine goesL_ (some 41) rfl rfl Try.func84 (by kernel_rfl) rfl #[.slice A0 l0.length c0, .slice A1 l1.length c1, .slice (some ad547) t544.length co13] rfl (by (try simp only [List.map_toArray, List.map_cons, List.map_nil]); first | done | rfl) ?_; (with_reducible refine (spec_l3Chain.calls kj10 _ _ l0 _ _ l1 _ _ t544 t551 _ ?side1 ?side2 ?side3 ?side4 ?side5 ?side6 A22.out).mono ?_); (case side1 => repeat (first | exact (Kd.C_below HR0.out HB.out) | (with_reducible refine Kd.C_alloc ?_ _) | (with_reducible refine Kd.C_drewN ?_ _) | (with_reducible refine Kd.C_drew ?_))); (case side2 => exact HC0.out); (case side3 => repeat (first | exact (Kd.C_below HR1.out HB.out) | (with_reducible refine Kd.C_alloc ?_ _) | (with_reducible refine Kd.C_drewN ?_ _) | (with_reducible refine Kd.C_drew ?_))); (case side4 => exact HC1.out); (case side5 => repeat (first | exact (Kd.R_reads' HO_7.out).2.2 | (with_reducible refine Kd.C_alloc ?_ _) | (with_reducible refine Kd.C_drewN ?_ _) | (with_reducible refine Kd.C_drew ?_))); (case side6 => exact (Kd.R_reads' HO_7.out).2.1); rintro e w25 ⟨v552, rfl, ho0, hb⟩; refine ⟨_, rfl, ?_⟩; have n0_ := az (Kd.S_elder' (by (with_reducible repeat (first | apply Kd.S_alloc | apply Kd.S_drewN | apply Kd.S_drew)); exact HO_5.out) (Kd.R_base ho0) hb); have n1_ := az (Kd.R_elder' (by (with_reducible repeat (first | apply Kd.R_alloc | apply Kd.R_drewN | apply Kd.R_drew)); exact HO_7.out) (Kd.R_base ho0) hb); have n2_ := az (Kd.R_lower (Kd.R_new' ho0 (Kd.R_lt (by (with_reducible repeat (first | apply Kd.R_alloc | apply Kd.R_drewN | apply Kd.R_drew)); exact HO_7.out))) (below_size (by repeat (first | (with_reducible first | exact HB.out | apply below_alloc | apply pw_below_drewN | apply below_drew1) | exact HB.out)))); have n3_ := az (below_step (by repeat (first | (with_reducible first | exact HB.out | apply below_alloc | apply pw_below_drewN | apply below_drew1) | exact HB.out)) hb); clear HO_5; clear HO_7; clear HB; have HO_5 := n0_; have HO_7 := n1_; have HO553 := n2_; have HB := n3_; clear n0_ n1_ n2_ n3_; (try clear hb); (try clear hb2); (try clear hk); (try clear hi); (try clear ho0); obtain ⟨Ao27, co27, eo27⟩ := Kd.R_slice HO553.out; subst eo27) | ((with_reducible refine gate_builtin (b := .append) (xs := #[.tmp 37, .tmp 42]) rfl ?_); at_builtin; refine Kd.S_append (Kd.slice 3 (Kd.int .i64)) (w0 := w) w.heap.size rfl (.tmp 37) (.tmp 42) 36 22 (.slice none 0 0) 24 rfl Try.underlying36 info22 rfl (by decide) (by omega) u5 x5_1 t551 [.slice Ao27 t551.length co27] (fun k_ => some k_ ≠ (.slice (some ad547) t544.length co13 : Value).ownBlock) (fun k_ => some k_ = (.slice Ao27 t551.length co27 : Value).ownBlock) rfl rfl ?aP (fun k_ hk_ => ((Kd.R_mono (ok' := fun k_ => ((fun k_ => some k_ ≠ (.slice (some ad547) t544.length co13 : Value).ownBlock)) k_ ∧ some k_ ≠ (u5 : Value).ownBlock) (Kd.R_apart' (HO553.out) (Kd.S_typed HO_5.out) (by decide)) (fun k_ hk => ⟨hk.1.2, hk.2⟩))).1 k_ hk_.symm) ?aF ?aO ?aB ?aS ?aL ?_; (case aP => exact Kd.M_row (Kd.R_mono (Kd.R_tight rfl (Kd.R_mono (ok' := fun k_ => ((fun k_ => some k_ ≠ (.slice (some ad547) t544.length co13 : Value).ownBlock)) k_ ∧ some k_ ≠ (u5 : Value).ownBlock) (Kd.R_apart' (HO553.out) (Kd.S_typed HO_5.out) (by decide)) (fun k_ hk => ⟨hk.1.2, hk.2⟩))) (fun _ h_ => h_))); (case aB => exact (by repeat (first | (with_reducible first | exact HB.out | apply below_alloc | apply pw_below_drewN | apply below_drew1) | exact HB.out))); (case aF => exact (fun k_ hk => Kd.fresh' (Kd.R_lt (by (with_reducible repeat (first | apply Kd.R_alloc | apply Kd.R_drewN | apply Kd.R_drew)); exact HO_7.out)) k_ hk)); (case aO => exact (by (with_reducible repeat (first | apply Kd.S_alloc | apply Kd.S_drewN | apply Kd.S_drew)); exact Kd.S_mono HO_5.out (fun k_ hk => ⟨hk.1, fun e_ => hk.2 e_⟩))); (case aS => exact (below_size (by repeat (first | (with_reducible first | exact HB.out | apply below_alloc | apply pw_below_drewN | apply below_drew1) | exact HB.out)))); (case aL => have := LMc23.out; omega); intro v555 w26 ho hb hg hat; rw [← Ny554.out] at ho; have n0_ := az (Kd.R_over' (by (with_reducible repeat (first | apply Kd.R_alloc | apply Kd.R_drewN | apply Kd.R_drew)); exact HO_7.out) (Kd.S_typed (by (with_reducible repeat (first | apply Kd.S_alloc | apply Kd.S_drewN | apply Kd.S_drew)); exact HO_5.out)) (by decide) hg); have n1_ := az (hb); have n2_ := az (ho); clear HO_7; clear HB; clear HO_5; clear HO553; have HO_7 := n0_; have HB := n1_; have HO556 := n2_; clear n0_ n1_ n2_; clear ho hb hg hat) | ((with_reducible refine gate_callee (f := 81) rfl ?_); refine goesL_ (some 47) rfl rfl Try.func81 (by kernel_rfl) rfl #[.slice A1 l1.length c1, .int .i64 (wrap64 ((rd t544 (ji8)) + 1))] rfl (by (try simp only [List.map_toArray, List.map_cons, List.map_nil]); first | done | (simp only [hji8]; rfl) | rfl | (simp only [List.length_drop, List.length_take]; rfl)) ?_; (with_reducible refine (spec_l3Left.calls kj10 _ _ l1 (wrap64 ((rd t544 (ji8)) + 1)) t557 _ ?side1 ?side2 A24.out).mono ?_); (case side1 => repeat (first | exact (Kd.C_below HR1.out HB.out) | (with_reducible refine Kd.C_alloc ?_ _) | (with_reducible refine Kd.C_drewN ?_ _) | (with_reducible refine Kd.C_drew ?_))); (case side2 => exact HC1.out); rintro e w' ⟨rfl, ⟨nd, rfl⟩⟩; refine ⟨_, rfl, ?_⟩))
          go_roundg kj10
          case measure => have := HK1.out; have := HJ10.out; omega
          case rel => exact ⟨(y554), (t557), (by first | rfl | (simp; done) | (simp [*]; done)), H', ⟨by have := HK1.out; have := HJ10.out; omega⟩, ⟨by (with_reducible repeat (first | apply Kd.S_alloc | apply Kd.S_drewN | apply Kd.S_drew)); exact Kd.S_mono HO556.out (fun _ hk => trivial)⟩, ⟨by repeat (first | (with_reducible first | exact HB.out | apply below_alloc | apply pw_below_drewN | apply below_drew1) | exact HB.out)⟩⟩
         ·
          rw [if_neg c23] at H; exact absurd H (by simp)
        ·
         replace c21 := Bool.eq_false_iff.mpr c21; subst c21; have H1 : ((spec_l3Left.f kj10 l1 (wrap64 ((rd t544 (ji8)) + 1))).bind fun t558 => (spec_l3Runs.l0 kj10 l0 l1 x5_1 t558)) = some r := by rw [if_neg (show ¬ (false = true) by decide)] at H; exact H
         clear H; have H := H1; clear H1; replace H := Option.bind_eq_some_iff.mp H; obtain ⟨t558, A280, H⟩ := H; replace H : (spec_l3Runs.l0 kj10 l0 l1 x5_1 t558) = some r := H; have A28 := az A280; clear A280; have H' := az H; clear H; go_wp2_with (first | ((with_reducible refine gate_callee (f := 81) rfl ?_); refine goesL_ (some 47) rfl rfl Try.func81 (by kernel_rfl) rfl #[.slice A1 l1.length c1, .int .i64 (wrap64 ((rd t544 (ji8)) + 1))] rfl (by (try simp only [List.map_toArray, List.map_cons, List.map_nil]); first | done | (simp only [hji8]; rfl) | rfl | (simp only [List.length_drop, List.length_take]; rfl)) ?_; (with_reducible refine (spec_l3Left.calls kj10 _ _ l1 (wrap64 ((rd t544 (ji8)) + 1)) t558 _ ?side1 ?side2 A28.out).mono ?_); (case side1 => repeat (first | exact (Kd.C_below HR1.out HB.out) | (with_reducible refine Kd.C_alloc ?_ _) | (with_reducible refine Kd.C_drewN ?_ _) | (with_reducible refine Kd.C_drew ?_))); (case side2 => exact HC1.out); rintro e w' ⟨rfl, ⟨nd, rfl⟩⟩; refine ⟨_, rfl, ?_⟩)); go_roundg kj10
         case measure => have := HK1.out; have := HJ10.out; omega
         case rel => exact ⟨(x5_1), (t558), (by first | rfl | (simp; done) | (simp [*]; done)), H', ⟨by have := HK1.out; have := HJ10.out; omega⟩, ⟨by (with_reducible repeat (first | apply Kd.S_alloc | apply Kd.S_drewN | apply Kd.S_drew)); exact Kd.S_mono HO_5.out (fun _ hk => trivial)⟩, ⟨by repeat (first | (with_reducible first | exact HB.out | apply below_alloc | apply pw_below_drewN | apply below_drew1) | exact HB.out)⟩⟩
     ·
      rw [if_neg c10] at H; exact absurd H (by simp)
    ·
     rw [if_neg c9] at H; exact absurd H (by simp)
   ·
    rw [if_neg c6] at H; have c6b0 : decide (x6_1 < (l0.length : Int)) = false := decide_eq_false c6; clear c6; obtain rfl := Option.some.inj H; go_wp2; go_ret; exact ⟨_, by first | rfl | (simp [errW_none, errW_some] <;> rfl) | (simp [*, errW_none, errW_some] <;> rfl), by (with_reducible repeat (first | apply Kd.S_alloc | apply Kd.S_drewN | apply Kd.S_drew)); exact HO_5.out, by repeat (first | (with_reducible first | exact HB.out | apply below_alloc | apply pw_below_drewN | apply below_drew1) | exact HB.out)⟩
def spec_LevelRuns.f (k : Nat) (l0 : List Int) (a1 : Int) : Option (List (List Int)) :=
 (spec_l3Ok.f k l0 a1).bind fun b => if b = true then (if l0.length ≤ 400 then (walkF k l0 a1 l0.length).bind fun s => spec_l3Runs.f k l0 s.lv else none) else some []
theorem spec_LevelRuns.mono : ∀ a0 a1 k, LeO (spec_LevelRuns.f k a0 a1) (spec_LevelRuns.f (k + 1) a0 a1) := by
 intro a0 a1 k
 unfold spec_LevelRuns.f
 refine LeO.bind (spec_l3Ok.mono _ _ _) (fun b => LeO.ite (LeO.ite (LeO.bind (walkF_mono _ _ _ _) (fun s => spec_l3Runs.mono _ _ _)) (LeO.refl _)) (LeO.refl _))
theorem spec_LevelRuns.calls (k : Nat) (A0 : Option Addr) (c0 : Nat) (l0 : List Int) (a1 : Int) (r : List (List Int)) (w : World) (hr0 : Kd.C (Kd.int .i64) w A0 l0.length l0) (hc0 : l0.length ≤ c0) (h : spec_LevelRuns.f k l0 a1 = some r) :
  Calls Try.prog 22 #[.slice A0 l0.length c0, .int .i64 a1] w fun e w' => ∃ v0_ : Value, e = .returned (v0_) ∧ Kd.S (Kd.slice 3 (Kd.int .i64)) 22 w' w.heap.size (fun _ => True) v0_ r ∧ Below w.heap.size w w' := by
 have HR := az hr0
 have HC := az hc0
 clear hr0 hc0
 unfold spec_LevelRuns.f at h
 obtain ⟨b, hb, h⟩ := Option.bind_eq_some_iff.mp h
 have HOK := az hb
 clear hb
 cases b with
 | false =>
  rw [if_neg (by decide)] at h
  obtain rfl := Option.some.inj h
  clear h
  go_enter Try.func22, Try.ntmps22
  go_wp2_with (first
   | (go_at_call 45; refine (spec_l3Ok.calls k _ _ l0 a1 false _ HR.out HC.out HOK.out).mono ?_; rintro e w1 ⟨rfl, ⟨nd, rfl⟩⟩)
   | ((with_reducible refine gate_dst (N := 10) rfl ?_); refine Kd.S_lit (Kd.slice 3 (Kd.int .i64)) _ 22 ?hg (N := 10) ?hd (xs := ([] : List (List Int))) (inner := []) (ok := fun _ => True) (okp := fun _ => True) ?hr ?hp (fun _ hk => hk) trivial (Below.refl _ _) (Nat.le_refl _) (by simp) ?_; (case hd => rfl); (case hg => rfl); (case hr => first | (go_simp; done) | (go_simp; rfl)); (case hp => exact (Reps.none _ _)); intro v5 w6 ho6 hb6 hg_ hnew_; have HO6 := az ho6; have HB6 := az hb6; clear hg_ hnew_ ho6 hb6))
  go_ret
  exact ⟨_, rfl, Kd.S_lower HO6.out (Nat.le_refl _), below_then (pw_below_drewN (Below.refl w.heap.size w) nd) (pw_below_drewN (Below.refl w.heap.size w) nd).size HB6.out⟩
 | true =>
  rw [if_pos rfl] at h
  by_cases hn : l0.length ≤ 400
  ·
   rw [if_pos hn] at h
   obtain ⟨s, hs, h⟩ := Option.bind_eq_some_iff.mp h
   have HS := az hs
   have HN := az hn
   have HF := az h
   clear h hs hn
   go_enter Try.func22, Try.ntmps22
   go_wp2_with (first
    | (go_at_call 45; refine (spec_l3Ok.calls k _ _ l0 a1 true _ HR.out HC.out HOK.out).mono ?_; rintro e w1 ⟨rfl, ⟨nd, rfl⟩⟩)
    | (go_at_call 46; refine (l3All_calls k A0 c0 l0 a1 s _ (Kd.C_below HR.out (pw_below_drewN (Below.refl _ _) nd)) HC.out HN.out HS.out).mono ?_; rintro e w2 ⟨gb, rfl, h2, hb2⟩; obtain ⟨vl, vc, vs, q1, q2, q3, q4, q5⟩ := h2; obtain ⟨Al, cl_, hvl, hll, hCl⟩ := Kd.R_reads q2; subst hvl; have hc1 := (blk_cell q1 1).trans (show _ = some (.slice Al s.lv.length cl_) from rfl); have QC := az hCl; have QL := az hll; have HB2 := az (below_then (pw_below_drewN (Below.refl w.heap.size w) nd) (pw_below_drewN (Below.refl w.heap.size w) nd).size hb2); clear q1 q2 q3 q4 q5 hb2 hll hCl)
    | (go_at_call 55; refine (spec_l3Runs.calls k A0 c0 l0 Al cl_ s.lv r _ (Kd.C_below HR.out HB2.out) HC.out QC.out QL.out HF.out).mono ?_; rintro e w3 ⟨v3, rfl, ho3, hb3⟩; have HO3 := az ho3; have HB3 := az (below_then HB2.out HB2.out.size hb3); clear ho3 hb3))
   go_ret
   exact ⟨_, rfl, Kd.S_lower HO3.out HB2.out.size, HB3.out⟩
  ·
   rw [if_neg hn] at h
   cases h
def fstP (x : S62) : Int := x.f0.getD 0 0
def lastI (l : List Int) : Int := l.getD (l.length - 1) 0
def byF (ps : List S62) : Nat → Int → Option Int
 | 0 => fun _ => none
 | i + 1 => fun a => if a = fstP (ps.getD i z62) then some (i : Int) else byF ps i a
def chainG (ps : List S62) (mt : Int → Option Int) : Nat → List Int → List Int
 | 0, l => l
 | g + 1, l => match mt (lastI l) with
  | none => l
  | some m => match byF ps ps.length m with
   | none => l
   | some x => chainG ps mt g (l ++ (ps.getD x.toNat z62).f0)
def runsF (ps : List S62) (mt cd : Int → Option Int) (N : Nat) : Nat → List S62
 | 0 => []
 | i + 1 => if (cd (fstP (ps.getD i z62))).isSome = true then runsF ps mt cd N i else runsF ps mt cd N i ++ [⟨chainG ps mt N (ps.getD i z62).f0, (ps.getD i z62).f1⟩]
theorem runsF_len (ps : List S62) (mt cd : Int → Option Int) (N : Nat) : ∀ i, (runsF ps mt cd N i).length ≤ i
 | 0 => Nat.le_refl _
 | i + 1 => by
  have := runsF_len ps mt cd N i
  rw [runsF]
  split
  · omega
  · rw [List.length_append, List.length_singleton]; omega
def PiecesOk (N : Nat) (ps : List S62) : Prop := ∀ x ∈ ps, 0 < x.f0.length ∧ x.f0.length ≤ 400 ∧ (∀ p ∈ x.f0, 0 ≤ p ∧ p < N) ∧ fstP x ≤ lastI x.f0
theorem byF_inv {ps : List S62} {a x : Int} : ∀ i, byF ps i a = some x → ∃ j : Nat, j < i ∧ x = j ∧ a = fstP (ps.getD j z62)
 | 0, h => by cases h
 | i + 1, h => by
  simp only [byF] at h
  split at h
  ·
   rename_i e
   exact ⟨i, by omega, (Option.some.inj h).symm, e⟩
  ·
   obtain ⟨j, h1, h2⟩ := byF_inv i h
   exact ⟨j, by omega, h2⟩
theorem lastI_app {l l2 : List Int} (h : 0 < l2.length) : lastI (l ++ l2) = lastI l2 := by
 unfold lastI
 rw [List.length_append, List.getD_eq_getElem?_getD, List.getElem?_append_right (by omega), List.getD_eq_getElem?_getD]
 congr 2
 omega
theorem lastI_mem {l : List Int} (h : 0 < l.length) : lastI l ∈ l := by
 unfold lastI
 rw [List.getD_eq_getElem?_getD, List.getElem?_eq_getElem (by omega), Option.getD_some]
 exact List.getElem_mem _
theorem getD_memP {ps : List S62} {i : Nat} (h : i < ps.length) : ps.getD i z62 ∈ ps := by
 rw [List.getD_eq_getElem?_getD, List.getElem?_eq_getElem h, Option.getD_some]
 exact List.getElem_mem _
theorem rd_nP (ps : List S62) (i : Nat) : rd_T62 ps (i : Int) = ps.getD i z62 := by simp [rd_T62]
theorem piece_at {w : World} {A : Option Addr} {ps : List S62} (h : Kd.C k62 w A ps.length ps) {i : Nat} (hi : i < ps.length) (x : S62) (hx : ps.getD i z62 = x) (h0 : 0 < x.f0.length) :
  ∃ ad A0 c0 a0, A = some ad ∧ w.cell? (ad.add (i * 2)) = some (.slice (some A0) x.f0.length c0) ∧ w.cell? ⟨(ad.add (i * 2)).block, (ad.add (i * 2)).off + 1, none⟩ = some (.int .i64 x.f1) ∧ x.f0.length ≤ c0 ∧ Kd.C (Kd.int .i64) w (some A0) x.f0.length x.f0 ∧ a0 = A0 ∧ w.cell? A0 = some (.int .i64 (fstP x)) := by
 obtain ⟨ad, A0, c0, e, x0, x1, hl, hc⟩ := at_T62 h (i : Int) (by omega) (by omega)
 rw [rd_nP, hx] at x0 x1 hl hc
 rw [Int.toNat_natCast] at x0 x1
 obtain ⟨a0, e0, hx0⟩ := Kd.at_int hc 0 (by omega) (by omega)
 subst e0
 refine ⟨ad, a0, c0, a0, e, x0, x1, hl, hc, rfl, ?_⟩
 have e2 : rd x.f0 0 = fstP x := by simp [rd, fstP]
 rw [e2, show a0.add (0 : Int).toNat = a0 from rfl] at hx0
 exact hx0
end Go.Proofs.Ytojehfdioeglgaa.S
