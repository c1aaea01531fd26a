/- Of drawn letters, spans, a width and a width more: as full as can be, lines are no more with more room; they are the reference's. No condition beyond the statement's own. (text 4 of 7 of this claim: functions of the program and of the reference as plain Lean functions, what a call of each comes to, and what follows.) -/
import Derived.Test.YtmcdcogedcbndaaGreatZFnFillWiderA0
import Derived.Test.YtmcdcogedcbndaaGreatZFnFillWiderA2
import Derived.Test.YtmcdcogedcbndaaGreatZFnFillWiderA1
set_option maxHeartbeats 16000000
set_option maxRecDepth 100000
set_option linter.unusedVariables false
set_option linter.unusedSimpArgs false
namespace Go.Proofs.YtmcdcogedcbndaaGreat.S
open Go.RowKit Go.Proofs.YtmcdcogedcbndaaGreatW.PrintWords Go.Proofs.YtmcdcogedcbndaaGreatW.PrintLast
set_option linter.unusedVariables false
set_option linter.unusedSimpArgs false
mutual
def spec_l5Place.j0 : Nat → Int → Int → Int → Bool → Option (Int)
 | 0, _, _, _, _ => none
 | k + 1, x0, x1, x2, x10 => if x10 = true then (some 0) else (if x2 = 6 then (some 1) else (if x0 = 5 then (spec_l5Place.j1 k x0 x1 x2 true) else (if x1 = 5 then (if x0 = 3 then (spec_l5Place.j1 k x0 x1 x2 false) else (if x0 = 14 then (spec_l5Place.j1 k x0 x1 x2 false) else (spec_l5Place.j1 k x0 x1 x2 (x0 != 12)))) else (spec_l5Place.j1 k x0 x1 x2 false))))
def spec_l5Place.j1 : Nat → Int → Int → Int → Bool → Option (Int)
 | 0, _, _, _, _ => none
 | k + 1, x0, x1, x2, x24 => if x24 = true then (some 0) else ((spec_l5Never.f x1).bind fun t212 => (if t212 = true then (if x0 = 3 then ((spec_l5Never.f x1).bind fun t213 => (if t213 = true then (if x2 = 0 then (spec_l5Place.j2 k x0 x1 x2 false) else (spec_l5Place.j2 k x0 x1 x2 (x1 != 13))) else (spec_l5Place.j2 k x0 x1 x2 false))) else (spec_l5Place.j2 k x0 x1 x2 true)) else ((spec_l5Never.f x1).bind fun t214 => (if t214 = true then (if x2 = 0 then (spec_l5Place.j2 k x0 x1 x2 false) else (spec_l5Place.j2 k x0 x1 x2 (x1 != 13))) else (spec_l5Place.j2 k x0 x1 x2 false)))))
def spec_l5Place.j2 : Nat → Int → Int → Int → Bool → Option (Int)
 | 0, _, _, _, _ => none
 | k + 1, x0, x1, x2, x43 => if x43 = true then (some 0) else (if x2 = 8 then (some 0) else (if x0 = 3 then (some 1) else (if x0 = 11 then (some 0) else (if x1 = 11 then (some 0) else (if x1 = 14 then (some 0) else (if x1 = 12 then (some 0) else ((spec_l5Inner.f k x0 x1).bind fun t215 => (some t215))))))))
end
def spec_l5Place.f (k : Nat) (a0 : Int) (a1 : Int) (a2 : Int) : Option (Int) := if a0 = 4 then (some 2) else (if a1 = 4 then (spec_l5Place.j0 k a0 a1 a2 true) else (if a1 = 3 then (spec_l5Place.j0 k a0 a1 a2 true) else (spec_l5Place.j0 k a0 a1 a2 (a1 == 6))))
theorem spec_l5Place.mono_l : ∀ k, (∀ y0 y1 y2 y3, LeO (spec_l5Place.j0 k y0 y1 y2 y3) (spec_l5Place.j0 (k + 1) y0 y1 y2 y3)) ∧ (∀ y0 y1 y2 y3, LeO (spec_l5Place.j1 k y0 y1 y2 y3) (spec_l5Place.j1 (k + 1) y0 y1 y2 y3)) ∧ (∀ y0 y1 y2 y3, LeO (spec_l5Place.j2 k y0 y1 y2 y3) (spec_l5Place.j2 (k + 1) y0 y1 y2 y3))
 | 0 => ⟨fun _ _ _ _ r h => by simp [spec_l5Place.j0] at h, fun _ _ _ _ r h => by simp [spec_l5Place.j1] at h, fun _ _ _ _ r h => by simp [spec_l5Place.j2] at h⟩
 | k + 1 => by
  obtain ⟨ih0, ih1, ih2⟩ := spec_l5Place.mono_l k; refine ⟨?_, ?_, ?_⟩
  ·
   intro y0 y1 y2 y3; unfold spec_l5Place.j0
   repeat' first
   | (with_reducible exact ih0 _ _ _ _)
   | (with_reducible exact ih1 _ _ _ _)
   | (with_reducible exact ih2 _ _ _ _)
   | (with_reducible exact spec_l5Inner.mono _ _ _)
   | (with_reducible exact LeO.refl _)
   | (with_reducible exact LeO.none _)
   | (with_reducible refine LeO.ite ?_ ?_)
   | (with_reducible refine LeO.bind ?_ (fun _ => ?_))
   | exact ih0 _ _ _ _
   | exact ih1 _ _ _ _
   | exact ih2 _ _ _ _
   | exact spec_l5Inner.mono _ _ _
   | exact LeO.none _
   | refine LeO.ite ?_ ?_
   | refine LeO.bind ?_ (fun _ => ?_)
  ·
   intro y0 y1 y2 y3; unfold spec_l5Place.j1
   repeat' first
   | (with_reducible exact ih0 _ _ _ _)
   | (with_reducible exact ih1 _ _ _ _)
   | (with_reducible exact ih2 _ _ _ _)
   | (with_reducible exact spec_l5Inner.mono _ _ _)
   | (with_reducible exact LeO.refl _)
   | (with_reducible exact LeO.none _)
   | (with_reducible refine LeO.ite ?_ ?_)
   | (with_reducible refine LeO.bind ?_ (fun _ => ?_))
   | exact ih0 _ _ _ _
   | exact ih1 _ _ _ _
   | exact ih2 _ _ _ _
   | exact spec_l5Inner.mono _ _ _
   | exact LeO.none _
   | refine LeO.ite ?_ ?_
   | refine LeO.bind ?_ (fun _ => ?_)
  ·
   intro y0 y1 y2 y3; unfold spec_l5Place.j2
   repeat' first
   | (with_reducible exact ih0 _ _ _ _)
   | (with_reducible exact ih1 _ _ _ _)
   | (with_reducible exact ih2 _ _ _ _)
   | (with_reducible exact spec_l5Inner.mono _ _ _)
   | (with_reducible exact LeO.refl _)
   | (with_reducible exact LeO.none _)
   | (with_reducible refine LeO.ite ?_ ?_)
   | (with_reducible refine LeO.bind ?_ (fun _ => ?_))
   | exact ih0 _ _ _ _
   | exact ih1 _ _ _ _
   | exact ih2 _ _ _ _
   | exact spec_l5Inner.mono _ _ _
   | exact LeO.none _
   | refine LeO.ite ?_ ?_
   | refine LeO.bind ?_ (fun _ => ?_)
theorem spec_l5Place.mono : ∀ a0 a1 a2 k, LeO (spec_l5Place.f k a0 a1 a2) (spec_l5Place.f (k + 1) a0 a1 a2) := by
 intro a0 a1 a2 k; obtain ⟨ih0, ih1, ih2⟩ := spec_l5Place.mono_l k; unfold spec_l5Place.f
 repeat' first
   | (with_reducible exact ih0 _ _ _ _)
   | (with_reducible exact ih1 _ _ _ _)
   | (with_reducible exact ih2 _ _ _ _)
   | (with_reducible exact spec_l5Inner.mono _ _ _)
   | (with_reducible exact LeO.refl _)
   | (with_reducible exact LeO.none _)
   | (with_reducible refine LeO.ite ?_ ?_)
   | (with_reducible refine LeO.bind ?_ (fun _ => ?_))
   | exact ih0 _ _ _ _
   | exact ih1 _ _ _ _
   | exact ih2 _ _ _ _
   | exact spec_l5Inner.mono _ _ _
   | exact LeO.none _
   | refine LeO.ite ?_ ?_
   | refine LeO.bind ?_ (fun _ => ?_)
theorem spec_l5Place.calls (k : Nat) (a0 : Int) (a1 : Int) (a2 : Int) (r : Int) (w : World) (h : spec_l5Place.f k a0 a1 a2 = some r) :
  Calls Tryz.prog 127 #[.int .i64 a0, .int .i64 a1, .int .i64 a2] w fun e w' => e = .returned (.int .i64 r) ∧ Drawn0 w w' := by
 have H : (if a0 = 4 then (some 2) else (if a1 = 4 then (spec_l5Place.j0 k a0 a1 a2 true) else (if a1 = 3 then (spec_l5Place.j0 k a0 a1 a2 true) else (spec_l5Place.j0 k a0 a1 a2 (a1 == 6))))) = some r := h; clear h; by_cases c4 : a0 = 4
 ·
  rw [if_pos c4] at H; have c4b0 : (a0 == 4) = true := beq_iff_eq.mpr c4; have c4b1 : (a0 != 4) = false := bne_eq_false_iff_eq.mpr c4; clear c4; obtain rfl := Option.some.inj H; go_enter Tryz.func127, Tryz.ntmps127; go_wp2; go_ret; exact ⟨zB, zD⟩
 ·
  rw [if_neg c4] at H; have c4b0 : (a0 == 4) = false := beq_eq_false_iff_ne.mpr c4; have c4b1 : (a0 != 4) = true := bne_iff_ne.mpr c4; have HC5 := az H; clear H; go_enter Tryz.func127, Tryz.ntmps127; go_upto_region 3 with (fail)
  go_cut [10] (fun v10 wc => ∃ (kq : Nat) (x10_4 : Bool), v10 = .bool x10_4 ∧ Aside0 (spec_l5Place.j0 kq a0 a1 a2 x10_4 = some r) ∧ Aside0 (kq ≤ k) ∧ Drawn0 w wc)
  case first =>
   have H := HC5.out; clear HC5; by_cases c6 : a1 = 4
   ·
    rw [if_pos c6] at H; have c6b0 : (a1 == 4) = true := beq_iff_eq.mpr c6; have c6b1 : (a1 != 4) = false := bne_eq_false_iff_eq.mpr c6; clear c6; (first | rw [c6b0] | (simp only [i64_w, i32_w]; rw [c6b0]) | skip); have H' := az H; clear H; go_wp2; go_meet
    case rel => exact ⟨_, (true), zB, H', ⟨zJ⟩, zD⟩
   ·
    rw [if_neg c6] at H; have c6b0 : (a1 == 4) = false := beq_eq_false_iff_ne.mpr c6; have c6b1 : (a1 != 4) = true := bne_iff_ne.mpr c6; (first | rw [c6b0] | (simp only [i64_w, i32_w]; rw [c6b0]) | skip); by_cases c7 : a1 = 3
    ·
     rw [if_pos c7] at H; have c7b0 : (a1 == 3) = true := beq_iff_eq.mpr c7; have c7b1 : (a1 != 3) = false := bne_eq_false_iff_eq.mpr c7; clear c7; have H' := az H; clear H; go_wp2; go_meet
     case rel => exact ⟨_, (true), zB, H', ⟨zJ⟩, zD⟩
    ·
     rw [if_neg c7] at H; have c7b0 : (a1 == 3) = false := beq_eq_false_iff_ne.mpr c7; have c7b1 : (a1 != 3) = true := bne_iff_ne.mpr c7; have H' := az H; clear H; go_wp2; go_meet
     case rel => exact ⟨_, ((a1 == 6)), zB, H', ⟨zJ⟩, zD⟩
  case rest =>
   clear HC5; (try clear c1); (try clear p2); (try clear c4); (try clear c4b0); (try clear c4b1); (try clear c6); (try clear c6b0); (try clear c6b1); (try clear c7); (try clear c7b0); (try clear c7b1); obtain ⟨kq, x10_4, rfl, HA, HJ4, ⟨mc4, rfl⟩⟩ := hcut
   cases kq with
   | zero => exact absurd HA.out (by simp [spec_l5Place.j0])
   | succ kj4 =>
    have H := HA.out; clear HA; simp only [spec_l5Place.j0] at H; by_cases c8 : x10_4 = true
    ·
     subst c8; have H1 : (some 0) = some r := by rw [if_pos rfl] at H; exact H
     clear H; have H := H1; clear H1; obtain rfl := Option.some.inj H; go_wp2; go_ret; exact ⟨zB, zD⟩
    ·
     replace c8 := Bool.eq_false_iff.mpr c8; subst c8; have H1 : (if a2 = 6 then (some 1) else (if a0 = 5 then (spec_l5Place.j1 kj4 a0 a1 a2 true) else (if a1 = 5 then (if a0 = 3 then (spec_l5Place.j1 kj4 a0 a1 a2 false) else (if a0 = 14 then (spec_l5Place.j1 kj4 a0 a1 a2 false) else (spec_l5Place.j1 kj4 a0 a1 a2 (a0 != 12)))) else (spec_l5Place.j1 kj4 a0 a1 a2 false)))) = some r := by rw [if_neg (show ¬ (false = true) by decide)] at H; exact H
     clear H; have H := H1; clear H1; by_cases c9 : a2 = 6
     ·
      rw [if_pos c9] at H; have c9b0 : (a2 == 6) = true := beq_iff_eq.mpr c9; have c9b1 : (a2 != 6) = false := bne_eq_false_iff_eq.mpr c9; clear c9; obtain rfl := Option.some.inj H; go_wp2; go_ret; exact ⟨zB, zD⟩
     ·
      rw [if_neg c9] at H; have c9b0 : (a2 == 6) = false := beq_eq_false_iff_ne.mpr c9; have c9b1 : (a2 != 6) = true := bne_iff_ne.mpr c9; have HC10 := az H; clear H; go_upto_region 7 with (fail)
      go_cut [24] (fun v24 wc => ∃ (kq : Nat) (x24_9 : Bool), v24 = .bool x24_9 ∧ Aside0 (spec_l5Place.j1 kq a0 a1 a2 x24_9 = some r) ∧ Aside0 (kq ≤ kj4) ∧ Drawn0 w wc)
      case first =>
       have H := HC10.out; clear HC10; by_cases c11 : a0 = 5
       ·
        rw [if_pos c11] at H; have c11b0 : (a0 == 5) = true := beq_iff_eq.mpr c11; have c11b1 : (a0 != 5) = false := bne_eq_false_iff_eq.mpr c11; clear c11; (first | rw [c11b0] | (simp only [i64_w, i32_w]; rw [c11b0]) | skip); have H' := az H; clear H; go_wp2; go_meet
        case rel => exact ⟨_, (true), zB, H', ⟨zK HJ4.out⟩, zD⟩
       ·
        rw [if_neg c11] at H; have c11b0 : (a0 == 5) = false := beq_eq_false_iff_ne.mpr c11; have c11b1 : (a0 != 5) = true := bne_iff_ne.mpr c11; (first | rw [c11b0] | (simp only [i64_w, i32_w]; rw [c11b0]) | skip); by_cases c12 : a1 = 5
        ·
         rw [if_pos c12] at H; have c12b0 : (a1 == 5) = true := beq_iff_eq.mpr c12; have c12b1 : (a1 != 5) = false := bne_eq_false_iff_eq.mpr c12; clear c12; by_cases c13 : a0 = 3
         ·
          rw [if_pos c13] at H; have c13b0 : (a0 == 3) = true := beq_iff_eq.mpr c13; have c13b1 : (a0 != 3) = false := bne_eq_false_iff_eq.mpr c13; clear c13; have H' := az H; clear H; go_wp2; go_meet
          case rel => exact ⟨_, (false), zB, H', ⟨zK HJ4.out⟩, zD⟩
         ·
          rw [if_neg c13] at H; have c13b0 : (a0 == 3) = false := beq_eq_false_iff_ne.mpr c13; have c13b1 : (a0 != 3) = true := bne_iff_ne.mpr c13; by_cases c14 : a0 = 14
          ·
           rw [if_pos c14] at H; have c14b0 : (a0 == 14) = true := beq_iff_eq.mpr c14; have c14b1 : (a0 != 14) = false := bne_eq_false_iff_eq.mpr c14; clear c14; have H' := az H; clear H; go_wp2; go_meet
           case rel => exact ⟨_, (false), zB, H', ⟨zK HJ4.out⟩, zD⟩
          ·
           rw [if_neg c14] at H; have c14b0 : (a0 == 14) = false := beq_eq_false_iff_ne.mpr c14; have c14b1 : (a0 != 14) = true := bne_iff_ne.mpr c14; have H' := az H; clear H; go_wp2; go_meet
           case rel => exact ⟨_, ((a0 != 12)), zB, H', ⟨zK HJ4.out⟩, zD⟩
        ·
         rw [if_neg c12] at H; have c12b0 : (a1 == 5) = false := beq_eq_false_iff_ne.mpr c12; have c12b1 : (a1 != 5) = true := bne_iff_ne.mpr c12; have H' := az H; clear H; go_wp2; go_meet
         case rel => exact ⟨_, (false), zB, H', ⟨zK HJ4.out⟩, zD⟩
      case rest =>
       clear HC10; (try clear c1); (try clear p2); (try clear c4); (try clear c4b0); (try clear c4b1); (try clear c6); (try clear c6b0); (try clear c6b1); (try clear c7); (try clear c7b0); (try clear c7b1); (try clear c8); (try clear c9); (try clear c9b0); (try clear c9b1); (try clear c11); (try clear c11b0); (try clear c11b1); (try clear c12); (try clear c12b0); (try clear c12b1); (try clear c13); (try clear c13b0); (try clear c13b1); (try clear c14); (try clear c14b0); (try clear c14b1); (try clear p2); obtain ⟨kq, x24_9, rfl, HA, HJ9, ⟨mc9, rfl⟩⟩ := hcut
       cases kq with
       | zero => exact absurd HA.out (by simp [spec_l5Place.j1])
       | succ kj9 =>
        have H := HA.out; clear HA; simp only [spec_l5Place.j1] at H; by_cases c15 : x24_9 = true
        ·
         subst c15; have H1 : (some 0) = some r := by rw [if_pos rfl] at H; exact H
         clear H; have H := H1; clear H1; obtain rfl := Option.some.inj H; go_wp2; go_ret; exact ⟨zB, zD⟩
        ·
         replace c15 := Bool.eq_false_iff.mpr c15; subst c15; have H1 : ((spec_l5Never.f a1).bind fun t212 => (if t212 = true then (if a0 = 3 then ((spec_l5Never.f a1).bind fun t213 => (if t213 = true then (if a2 = 0 then (spec_l5Place.j2 kj9 a0 a1 a2 false) else (spec_l5Place.j2 kj9 a0 a1 a2 (a1 != 13))) else (spec_l5Place.j2 kj9 a0 a1 a2 false))) else (spec_l5Place.j2 kj9 a0 a1 a2 true)) else ((spec_l5Never.f a1).bind fun t214 => (if t214 = true then (if a2 = 0 then (spec_l5Place.j2 kj9 a0 a1 a2 false) else (spec_l5Place.j2 kj9 a0 a1 a2 (a1 != 13))) else (spec_l5Place.j2 kj9 a0 a1 a2 false))))) = some r := by rw [if_neg (show ¬ (false = true) by decide)] at H; exact H
         clear H; have H := H1; clear H1; have HC16 := az H; clear H; go_upto_region 9 with (fail)
         go_cut [43] (fun v43 wc => ∃ (kq : Nat) (x43_15 : Bool), v43 = .bool x43_15 ∧ Aside0 (spec_l5Place.j2 kq a0 a1 a2 x43_15 = some r) ∧ Aside0 (kq ≤ kj9) ∧ Drawn0 w wc)
         case first =>
          have H := HC16.out; clear HC16; replace H := Option.bind_eq_some_iff.mp H; obtain ⟨t212, A170, H⟩ := H; replace H : (if t212 = true then (if a0 = 3 then ((spec_l5Never.f a1).bind fun t213 => (if t213 = true then (if a2 = 0 then (spec_l5Place.j2 kj9 a0 a1 a2 false) else (spec_l5Place.j2 kj9 a0 a1 a2 (a1 != 13))) else (spec_l5Place.j2 kj9 a0 a1 a2 false))) else (spec_l5Place.j2 kj9 a0 a1 a2 true)) else ((spec_l5Never.f a1).bind fun t214 => (if t214 = true then (if a2 = 0 then (spec_l5Place.j2 kj9 a0 a1 a2 false) else (spec_l5Place.j2 kj9 a0 a1 a2 (a1 != 13))) else (spec_l5Place.j2 kj9 a0 a1 a2 false)))) = some r := H; have A17 := az A170; clear A170; by_cases c18 : t212 = true
          ·
           subst c18; have H1 : (if a0 = 3 then ((spec_l5Never.f a1).bind fun t213 => (if t213 = true then (if a2 = 0 then (spec_l5Place.j2 kj9 a0 a1 a2 false) else (spec_l5Place.j2 kj9 a0 a1 a2 (a1 != 13))) else (spec_l5Place.j2 kj9 a0 a1 a2 false))) else (spec_l5Place.j2 kj9 a0 a1 a2 true)) = some r := by rw [if_pos rfl] at H; exact H
           clear H; have H := H1; clear H1; by_cases c19 : a0 = 3
           ·
            rw [if_pos c19] at H; have c19b0 : (a0 == 3) = true := beq_iff_eq.mpr c19; have c19b1 : (a0 != 3) = false := bne_eq_false_iff_eq.mpr c19; clear c19; (first | rw [c19b0] | (simp only [i64_w, i32_w]; rw [c19b0]) | skip); replace H := Option.bind_eq_some_iff.mp H; obtain ⟨t213, A200, H⟩ := H; replace H : (if t213 = true then (if a2 = 0 then (spec_l5Place.j2 kj9 a0 a1 a2 false) else (spec_l5Place.j2 kj9 a0 a1 a2 (a1 != 13))) else (spec_l5Place.j2 kj9 a0 a1 a2 false)) = some r := H; have A20 := az A200; clear A200; by_cases c21 : t213 = true
            ·
             subst c21; have H1 : (if a2 = 0 then (spec_l5Place.j2 kj9 a0 a1 a2 false) else (spec_l5Place.j2 kj9 a0 a1 a2 (a1 != 13))) = some r := by rw [if_pos rfl] at H; exact H
             clear H; have H := H1; clear H1; by_cases c22 : a2 = 0
             ·
              rw [if_pos c22] at H; have c22b0 : (a2 == 0) = true := beq_iff_eq.mpr c22; have c22b1 : (a2 != 0) = false := bne_eq_false_iff_eq.mpr c22; clear c22; have H' := az H; clear H; go_wp2_with (first | ((with_reducible refine gate_callee (f := 140) rfl ?_); refine goesL_ (some 45) rfl rfl Tryz.func140 (by kernel_rfl) rfl #[.int .i64 a1] rfl zC ?_; (with_reducible refine (spec_l5Never.calls a1 true _ A17.out).mono ?_); rintro e w' ⟨rfl, ⟨nd, rfl⟩⟩; refine ⟨_, rfl, ?_⟩) | (go_at_call 140; (with_reducible refine (spec_l5Never.calls a1 true _ A20.out).mono ?_); rintro e w' ⟨rfl, ⟨nd, rfl⟩⟩)); go_meet
              case rel => exact ⟨_, (false), zB, H', ⟨zM HJ4.out HJ9.out⟩, zD⟩
             ·
              rw [if_neg c22] at H; have c22b0 : (a2 == 0) = false := beq_eq_false_iff_ne.mpr c22; have c22b1 : (a2 != 0) = true := bne_iff_ne.mpr c22; have H' := az H; clear H; go_wp2_with (first | ((with_reducible refine gate_callee (f := 140) rfl ?_); refine goesL_ (some 45) rfl rfl Tryz.func140 (by kernel_rfl) rfl #[.int .i64 a1] rfl zC ?_; (with_reducible refine (spec_l5Never.calls a1 true _ A17.out).mono ?_); rintro e w' ⟨rfl, ⟨nd, rfl⟩⟩; refine ⟨_, rfl, ?_⟩) | (go_at_call 140; (with_reducible refine (spec_l5Never.calls a1 true _ A20.out).mono ?_); rintro e w' ⟨rfl, ⟨nd, rfl⟩⟩)); go_meet
              case rel => exact ⟨_, ((a1 != 13)), zB, H', ⟨zM HJ4.out HJ9.out⟩, zD⟩
            ·
             replace c21 := Bool.eq_false_iff.mpr c21; subst c21; have H1 : (spec_l5Place.j2 kj9 a0 a1 a2 false) = some r := by rw [if_neg (show ¬ (false = true) by decide)] at H; exact H
             clear H; have H := H1; clear H1; have H' := az H; clear H; go_wp2_with (first | ((with_reducible refine gate_callee (f := 140) rfl ?_); refine goesL_ (some 45) rfl rfl Tryz.func140 (by kernel_rfl) rfl #[.int .i64 a1] rfl zC ?_; (with_reducible refine (spec_l5Never.calls a1 true _ A17.out).mono ?_); rintro e w' ⟨rfl, ⟨nd, rfl⟩⟩; refine ⟨_, rfl, ?_⟩) | (go_at_call 140; (with_reducible refine (spec_l5Never.calls a1 false _ A20.out).mono ?_); rintro e w' ⟨rfl, ⟨nd, rfl⟩⟩)); go_meet
             case rel => exact ⟨_, (false), zB, H', ⟨zM HJ4.out HJ9.out⟩, zD⟩
           ·
            rw [if_neg c19] at H; have c19b0 : (a0 == 3) = false := beq_eq_false_iff_ne.mpr c19; have c19b1 : (a0 != 3) = true := bne_iff_ne.mpr c19; (first | rw [c19b0] | (simp only [i64_w, i32_w]; rw [c19b0]) | skip); have H' := az H; clear H; go_wp2_with (first | ((with_reducible refine gate_callee (f := 140) rfl ?_); refine goesL_ (some 45) rfl rfl Tryz.func140 (by kernel_rfl) rfl #[.int .i64 a1] rfl zC ?_; (with_reducible refine (spec_l5Never.calls a1 true _ A17.out).mono ?_); rintro e w' ⟨rfl, ⟨nd, rfl⟩⟩; refine ⟨_, rfl, ?_⟩)); go_meet
            case rel => exact ⟨_, (true), zB, H', ⟨zM HJ4.out HJ9.out⟩, zD⟩
          ·
           replace c18 := Bool.eq_false_iff.mpr c18; subst c18; have H1 : ((spec_l5Never.f a1).bind fun t214 => (if t214 = true then (if a2 = 0 then (spec_l5Place.j2 kj9 a0 a1 a2 false) else (spec_l5Place.j2 kj9 a0 a1 a2 (a1 != 13))) else (spec_l5Place.j2 kj9 a0 a1 a2 false))) = some r := by rw [if_neg (show ¬ (false = true) by decide)] at H; exact H
           clear H; have H := H1; clear H1; replace H := Option.bind_eq_some_iff.mp H; obtain ⟨t214, A230, H⟩ := H; replace H : (if t214 = true then (if a2 = 0 then (spec_l5Place.j2 kj9 a0 a1 a2 false) else (spec_l5Place.j2 kj9 a0 a1 a2 (a1 != 13))) else (spec_l5Place.j2 kj9 a0 a1 a2 false)) = some r := H; have A23 := az A230; clear A230; by_cases c24 : t214 = true
           ·
            subst c24; have H1 : (if a2 = 0 then (spec_l5Place.j2 kj9 a0 a1 a2 false) else (spec_l5Place.j2 kj9 a0 a1 a2 (a1 != 13))) = some r := by rw [if_pos rfl] at H; exact H
            clear H; have H := H1; clear H1; by_cases c25 : a2 = 0
            ·
             rw [if_pos c25] at H; have c25b0 : (a2 == 0) = true := beq_iff_eq.mpr c25; have c25b1 : (a2 != 0) = false := bne_eq_false_iff_eq.mpr c25; clear c25; have H' := az H; clear H; go_wp2_with (first | ((with_reducible refine gate_callee (f := 140) rfl ?_); refine goesL_ (some 45) rfl rfl Tryz.func140 (by kernel_rfl) rfl #[.int .i64 a1] rfl zC ?_; (with_reducible refine (spec_l5Never.calls a1 false _ A17.out).mono ?_); rintro e w' ⟨rfl, ⟨nd, rfl⟩⟩; refine ⟨_, rfl, ?_⟩) | (go_at_call 140; (with_reducible refine (spec_l5Never.calls a1 true _ A23.out).mono ?_); rintro e w' ⟨rfl, ⟨nd, rfl⟩⟩)); go_meet
             case rel => exact ⟨_, (false), zB, H', ⟨zM HJ4.out HJ9.out⟩, zD⟩
            ·
             rw [if_neg c25] at H; have c25b0 : (a2 == 0) = false := beq_eq_false_iff_ne.mpr c25; have c25b1 : (a2 != 0) = true := bne_iff_ne.mpr c25; have H' := az H; clear H; go_wp2_with (first | ((with_reducible refine gate_callee (f := 140) rfl ?_); refine goesL_ (some 45) rfl rfl Tryz.func140 (by kernel_rfl) rfl #[.int .i64 a1] rfl zC ?_; (with_reducible refine (spec_l5Never.calls a1 false _ A17.out).mono ?_); rintro e w' ⟨rfl, ⟨nd, rfl⟩⟩; refine ⟨_, rfl, ?_⟩) | (go_at_call 140; (with_reducible refine (spec_l5Never.calls a1 true _ A23.out).mono ?_); rintro e w' ⟨rfl, ⟨nd, rfl⟩⟩)); go_meet
             case rel => exact ⟨_, ((a1 != 13)), zB, H', ⟨zM HJ4.out HJ9.out⟩, zD⟩
           ·
            replace c24 := Bool.eq_false_iff.mpr c24; subst c24; have H1 : (spec_l5Place.j2 kj9 a0 a1 a2 false) = some r := by rw [if_neg (show ¬ (false = true) by decide)] at H; exact H
            clear H; have H := H1; clear H1; have H' := az H; clear H; go_wp2_with (first | ((with_reducible refine gate_callee (f := 140) rfl ?_); refine goesL_ (some 45) rfl rfl Tryz.func140 (by kernel_rfl) rfl #[.int .i64 a1] rfl zC ?_; (with_reducible refine (spec_l5Never.calls a1 false _ A17.out).mono ?_); rintro e w' ⟨rfl, ⟨nd, rfl⟩⟩; refine ⟨_, rfl, ?_⟩) | (go_at_call 140; (with_reducible refine (spec_l5Never.calls a1 false _ A23.out).mono ?_); rintro e w' ⟨rfl, ⟨nd, rfl⟩⟩)); go_meet
            case rel => exact ⟨_, (false), zB, H', ⟨zM HJ4.out HJ9.out⟩, zD⟩
         case rest =>
          clear HC16; (try clear c1); (try clear c2); (try clear p2); (try clear c4); (try clear c4b0); (try clear c4b1); (try clear c6); (try clear c6b0); (try clear c6b1); (try clear c7); (try clear c7b0); (try clear c7b1); (try clear c8); (try clear c9); (try clear c9b0); (try clear c9b1); (try clear c11); (try clear c11b0); (try clear c11b1); (try clear c12); (try clear c12b0); (try clear c12b1); (try clear c13); (try clear c13b0); (try clear c13b1); (try clear c14); (try clear c14b0); (try clear c14b1); (try clear c15); (try clear c18); (try clear c19); (try clear c19b0); (try clear c19b1); (try clear c21); (try clear c22); (try clear c22b0); (try clear c22b1); (try clear c24); (try clear c25); (try clear c25b0); (try clear c25b1); (try clear p2); obtain ⟨kq, x43_15, rfl, HA, HJ15, ⟨mc15, rfl⟩⟩ := hcut
          cases kq with
          | zero => exact absurd HA.out (by simp [spec_l5Place.j2])
          | succ kj15 =>
           have H := HA.out; clear HA; simp only [spec_l5Place.j2] at H; by_cases c26 : x43_15 = true
           ·
            subst c26; have H1 : (some 0) = some r := by rw [if_pos rfl] at H; exact H
            clear H; have H := H1; clear H1; obtain rfl := Option.some.inj H; go_wp2; go_ret; exact ⟨zB, zD⟩
           ·
            replace c26 := Bool.eq_false_iff.mpr c26; subst c26; have H1 : (if a2 = 8 then (some 0) else (if a0 = 3 then (some 1) else (if a0 = 11 then (some 0) else (if a1 = 11 then (some 0) else (if a1 = 14 then (some 0) else (if a1 = 12 then (some 0) else ((spec_l5Inner.f kj15 a0 a1).bind fun t215 => (some t215)))))))) = some r := by rw [if_neg (show ¬ (false = true) by decide)] at H; exact H
            clear H; have H := H1; clear H1; by_cases c27 : a2 = 8
            ·
             rw [if_pos c27] at H; have c27b0 : (a2 == 8) = true := beq_iff_eq.mpr c27; have c27b1 : (a2 != 8) = false := bne_eq_false_iff_eq.mpr c27; clear c27; obtain rfl := Option.some.inj H; go_wp2; go_ret; exact ⟨zB, zD⟩
            ·
             rw [if_neg c27] at H; have c27b0 : (a2 == 8) = false := beq_eq_false_iff_ne.mpr c27; have c27b1 : (a2 != 8) = true := bne_iff_ne.mpr c27; by_cases c28 : a0 = 3
             ·
              rw [if_pos c28] at H; have c28b0 : (a0 == 3) = true := beq_iff_eq.mpr c28; have c28b1 : (a0 != 3) = false := bne_eq_false_iff_eq.mpr c28; clear c28; obtain rfl := Option.some.inj H; go_wp2; go_ret; exact ⟨zB, zD⟩
             ·
              rw [if_neg c28] at H; have c28b0 : (a0 == 3) = false := beq_eq_false_iff_ne.mpr c28; have c28b1 : (a0 != 3) = true := bne_iff_ne.mpr c28; by_cases c29 : a0 = 11
              ·
               rw [if_pos c29] at H; have c29b0 : (a0 == 11) = true := beq_iff_eq.mpr c29; have c29b1 : (a0 != 11) = false := bne_eq_false_iff_eq.mpr c29; clear c29; obtain rfl := Option.some.inj H; go_wp2; go_ret; exact ⟨zB, zD⟩
              ·
               rw [if_neg c29] at H; have c29b0 : (a0 == 11) = false := beq_eq_false_iff_ne.mpr c29; have c29b1 : (a0 != 11) = true := bne_iff_ne.mpr c29; by_cases c30 : a1 = 11
               ·
                rw [if_pos c30] at H; have c30b0 : (a1 == 11) = true := beq_iff_eq.mpr c30; have c30b1 : (a1 != 11) = false := bne_eq_false_iff_eq.mpr c30; clear c30; obtain rfl := Option.some.inj H; go_wp2; go_ret; exact ⟨zB, zD⟩
               ·
                rw [if_neg c30] at H; have c30b0 : (a1 == 11) = false := beq_eq_false_iff_ne.mpr c30; have c30b1 : (a1 != 11) = true := bne_iff_ne.mpr c30; by_cases c31 : a1 = 14
                ·
                 rw [if_pos c31] at H; have c31b0 : (a1 == 14) = true := beq_iff_eq.mpr c31; have c31b1 : (a1 != 14) = false := bne_eq_false_iff_eq.mpr c31; clear c31; obtain rfl := Option.some.inj H; go_wp2; go_ret; exact ⟨zB, zD⟩
                ·
                 rw [if_neg c31] at H; have c31b0 : (a1 == 14) = false := beq_eq_false_iff_ne.mpr c31; have c31b1 : (a1 != 14) = true := bne_iff_ne.mpr c31; by_cases c32 : a1 = 12
                 ·
                  rw [if_pos c32] at H; have c32b0 : (a1 == 12) = true := beq_iff_eq.mpr c32; have c32b1 : (a1 != 12) = false := bne_eq_false_iff_eq.mpr c32; clear c32; obtain rfl := Option.some.inj H; go_wp2; go_ret; exact ⟨zB, zD⟩
                 ·
                  rw [if_neg c32] at H; have c32b0 : (a1 == 12) = false := beq_eq_false_iff_ne.mpr c32; have c32b1 : (a1 != 12) = true := bne_iff_ne.mpr c32; replace H := Option.bind_eq_some_iff.mp H; obtain ⟨t215, A330, H⟩ := H; replace H : (some t215) = some r := H; have A33 := az A330; clear A330; obtain rfl := Option.some.inj H; go_wp2_with (first | ((with_reducible refine gate_callee (f := 141) rfl ?_); refine goesL_ (some 85) rfl rfl Tryz.func141 (by kernel_rfl) rfl #[.int .i64 a0, .int .i64 a1] rfl zC ?_; (with_reducible refine (spec_l5Inner.calls kj15 a0 a1 t215 _ A33.out).mono ?_); rintro e w' ⟨rfl, ⟨nd, rfl⟩⟩; refine ⟨_, rfl, ?_⟩)); go_ret; exact ⟨zB, zD⟩
abbrev q20M0 : Array Bool := #[false, false, false, false, false, false, false, false, false, false, false, false, false, false, false]
abbrev q20M1 : Array Bool := #[true, false, false, false, false, false, false, false, false, false, false, false, false, false, false]
abbrev q20M2 : Array Bool := #[true, true, false, false, false, false, false, false, false, false, false, false, false, false, false]
abbrev q20M3 : Array Bool := #[true, true, true, false, false, false, false, false, false, false, false, false, false, false, false]
abbrev q20M4 : Array Bool := #[true, true, true, true, false, false, false, false, false, false, false, false, false, false, false]
abbrev q20M5 : Array Bool := #[true, true, true, true, false, true, false, false, false, false, false, false, false, false, false]
abbrev q20M6 : Array Bool := #[true, true, true, true, false, true, true, false, false, false, false, false, false, false, false]
abbrev q20M7 : Array Bool := #[true, true, true, true, false, true, true, true, false, false, false, false, false, false, false]
abbrev q20M8 : Array Bool := #[true, true, true, true, false, true, true, true, true, false, false, false, false, false, false]
abbrev q20M9 : Array Bool := #[true, true, true, true, false, true, true, true, true, false, true, false, false, false, false]
abbrev q20M10 : Array Bool := #[true, true, true, true, true, true, true, true, true, false, true, false, false, false, false]
abbrev q20M11 : Array Bool := #[true, true, true, true, true, true, true, true, true, true, true, false, false, false, false]
abbrev q20M12 : Array Bool := #[true, true, true, true, true, true, true, true, true, true, true, true, false, false, false]
abbrev q20M13 : Array Bool := #[true, true, true, true, true, true, true, true, true, true, true, true, true, false, false]
abbrev q20M14 : Array Bool := #[true, true, true, true, true, true, true, true, true, true, true, true, true, true, false]
abbrev q20M15 : Array Bool := #[true, true, true, true, true, true, true, true, true, true, true, true, true, true, true]
theorem q20s {α : Type} (l : List α) (i : Nat) (a : α) : l.toArray.setIfInBounds i a = (l.set i a).toArray := List.setIfInBounds_toArray ..
theorem q20z {α : Type} (a : α) (l : List α) (b : α) : (a :: l).set 0 b = b :: l := List.set_cons_zero ..
theorem q20n {α : Type} (a : α) (l : List α) (i : Nat) (b : α) : (a :: l).set (i + 1) b = a :: l.set i b := List.set_cons_succ ..
mutual
def spec_l5Breaks.l0 : Nat → List Int → List Int → List Int → Int → Option (List Int)
 | 0, _, _, _, _ => none
 | k + 1, x0, x3, x4, x5 => if x5 < (x3.length : Int) then (if (wrap64 (x5 + 1)) = (x3.length : Int) then (if x4.length < 17592186044416 then (spec_l5Breaks.l0 k x0 x3 (x4 ++ [2]) (wrap64 (x5 + 1))) else (none)) else ((spec_l2Joins.f k x0 (wrap64 (x5 + 1))).bind fun t225 => (if t225 = true then (spec_l5Breaks.j1 k x0 x3 x4 x5 true) else (if 0 ≤ (wrap64 (x5 + 1)) then (if (wrap64 (x5 + 1)) < (x0.length : Int) then ((spec_RuneLine.f k (rd x0 (wrap64 (x5 + 1)))).bind fun t227 => (if t227 = 7 then (if 0 ≤ x5 then (if (rd x3 x5) = 3 then (spec_l5Breaks.j1 k x0 x3 x4 x5 false) else (if (rd x3 x5) = 4 then (spec_l5Breaks.j1 k x0 x3 x4 x5 false) else (spec_l5Breaks.j1 k x0 x3 x4 x5 ((rd x3 x5) != 6)))) else (none)) else (spec_l5Breaks.j1 k x0 x3 x4 x5 false))) else (none)) else (none))))) else (some x4)
def spec_l5Breaks.j1 : Nat → List Int → List Int → List Int → Int → Bool → Option (List Int)
 | 0, _, _, _, _, _ => none
 | k + 1, x0, x3, x4, x5, x49 => if x49 = true then (if x4.length < 17592186044416 then (spec_l5Breaks.l0 k x0 x3 (x4 ++ [0]) (wrap64 (x5 + 1))) else (none)) else ((spec_l5Before.f k x3 x5).bind fun t234 => (if t234 ≥ 0 then (if 0 ≤ t234 then (if t234 < (x3.length : Int) then (if 0 ≤ x5 then (if x5 < (x3.length : Int) then (if 0 ≤ (wrap64 (x5 + 1)) then (if (wrap64 (x5 + 1)) < (x3.length : Int) then ((spec_l5Place.f k (rd x3 x5) (rd x3 (wrap64 (x5 + 1))) (rd x3 t234)).bind fun t238 => (if x4.length < 17592186044416 then (spec_l5Breaks.l0 k x0 x3 (x4 ++ [t238]) (wrap64 (x5 + 1))) else (none))) else (none)) else (none)) else (none)) else (none)) else (none)) else (none)) else (if 0 ≤ x5 then (if x5 < (x3.length : Int) then (if 0 ≤ (wrap64 (x5 + 1)) then (if (wrap64 (x5 + 1)) < (x3.length : Int) then ((spec_l5Place.f k (rd x3 x5) (rd x3 (wrap64 (x5 + 1))) 0).bind fun t244 => (if x4.length < 17592186044416 then (spec_l5Breaks.l0 k x0 x3 (x4 ++ [t244]) (wrap64 (x5 + 1))) else (none))) else (none)) else (none)) else (none)) else (none))))
end
def spec_l5Breaks.f (k : Nat) (l0 : List Int) : Option (List Int) := (spec_l5Counts.f k l0).bind fun t216 => (spec_l5Breaks.l0 k l0 t216 (([] : List Int)) 0)
theorem spec_l5Breaks.mono_l : ∀ k, (∀ y0 y1 y2 y3, LeO (spec_l5Breaks.l0 k y0 y1 y2 y3) (spec_l5Breaks.l0 (k + 1) y0 y1 y2 y3)) ∧ (∀ y0 y1 y2 y3 y4, LeO (spec_l5Breaks.j1 k y0 y1 y2 y3 y4) (spec_l5Breaks.j1 (k + 1) y0 y1 y2 y3 y4))
 | 0 => ⟨fun _ _ _ _ r h => by simp [spec_l5Breaks.l0] at h, fun _ _ _ _ _ r h => by simp [spec_l5Breaks.j1] at h⟩
 | k + 1 => by
  obtain ⟨ih0, ih1⟩ := spec_l5Breaks.mono_l k; refine ⟨?_, ?_⟩
  ·
   intro y0 y1 y2 y3; unfold spec_l5Breaks.l0
   repeat' first
   | (with_reducible exact ih0 _ _ _ _)
   | (with_reducible exact ih1 _ _ _ _ _)
   | (with_reducible exact spec_RuneLine.mono _ _)
   | (with_reducible exact spec_l2Joins.mono _ _ _)
   | (with_reducible exact spec_l5Before.mono _ _ _)
   | (with_reducible exact spec_l5Counts.mono _ _)
   | (with_reducible exact spec_l5Place.mono _ _ _ _)
   | (with_reducible exact LeO.refl _)
   | (with_reducible exact LeO.none _)
   | (with_reducible refine LeO.ite ?_ ?_)
   | (with_reducible refine LeO.bind ?_ (fun _ => ?_))
   | exact ih0 _ _ _ _
   | exact ih1 _ _ _ _ _
   | exact spec_RuneLine.mono _ _
   | exact spec_l2Joins.mono _ _ _
   | exact spec_l5Before.mono _ _ _
   | exact spec_l5Counts.mono _ _
   | exact spec_l5Place.mono _ _ _ _
   | exact LeO.none _
   | refine LeO.ite ?_ ?_
   | refine LeO.bind ?_ (fun _ => ?_)
  ·
   intro y0 y1 y2 y3 y4; unfold spec_l5Breaks.j1
   repeat' first
   | (with_reducible exact ih0 _ _ _ _)
   | (with_reducible exact ih1 _ _ _ _ _)
   | (with_reducible exact spec_RuneLine.mono _ _)
   | (with_reducible exact spec_l2Joins.mono _ _ _)
   | (with_reducible exact spec_l5Before.mono _ _ _)
   | (with_reducible exact spec_l5Counts.mono _ _)
   | (with_reducible exact spec_l5Place.mono _ _ _ _)
   | (with_reducible exact LeO.refl _)
   | (with_reducible exact LeO.none _)
   | (with_reducible refine LeO.ite ?_ ?_)
   | (with_reducible refine LeO.bind ?_ (fun _ => ?_))
   | exact ih0 _ _ _ _
   | exact ih1 _ _ _ _ _
   | exact spec_RuneLine.mono _ _
   | exact spec_l2Joins.mono _ _ _
   | exact spec_l5Before.mono _ _ _
   | exact spec_l5Counts.mono _ _
   | exact spec_l5Place.mono _ _ _ _
   | exact LeO.none _
   | refine LeO.ite ?_ ?_
   | refine LeO.bind ?_ (fun _ => ?_)
theorem spec_l5Breaks.mono : ∀ a0 k, LeO (spec_l5Breaks.f k a0) (spec_l5Breaks.f (k + 1) a0) := by
 intro a0 k; obtain ⟨ih0, ih1⟩ := spec_l5Breaks.mono_l k; unfold spec_l5Breaks.f
 repeat' first
   | (with_reducible exact ih0 _ _ _ _)
   | (with_reducible exact ih1 _ _ _ _ _)
   | (with_reducible exact spec_RuneLine.mono _ _)
   | (with_reducible exact spec_l2Joins.mono _ _ _)
   | (with_reducible exact spec_l5Before.mono _ _ _)
   | (with_reducible exact spec_l5Counts.mono _ _)
   | (with_reducible exact spec_l5Place.mono _ _ _ _)
   | (with_reducible exact LeO.refl _)
   | (with_reducible exact LeO.none _)
   | (with_reducible refine LeO.ite ?_ ?_)
   | (with_reducible refine LeO.bind ?_ (fun _ => ?_))
   | exact ih0 _ _ _ _
   | exact ih1 _ _ _ _ _
   | exact spec_RuneLine.mono _ _
   | exact spec_l2Joins.mono _ _ _
   | exact spec_l5Before.mono _ _ _
   | exact spec_l5Counts.mono _ _
   | exact spec_l5Place.mono _ _ _ _
   | exact LeO.none _
   | refine LeO.ite ?_ ?_
   | refine LeO.bind ?_ (fun _ => ?_)
def spec_l5Breaks.T10 : Bool × List (List Nat × List Nat) := (true, [([], []), ([], []), ([], []), ([1, 2], [1, 2]), ([3], [3]), ([], []), ([], []), ([6], [6]), ([5, 7], [5, 7]), ([8], [8]), ([], []), ([4, 9, 10], [4, 9, 10]), ([11], [11]), ([0, 12, 11], [0, 12]), ([13, 13, 0, 1, 2, 3, 4, 5, 6, 7, 8, 9, 10, 11, 12, 13], [0, 13])])
def spec_l5Breaks.B10 : List Nat := [0, 0, 0, 6, 14, 0, 0, 64, 224, 480, 0, 2046, 4094, 8191, 16383]
theorem spec_l5Breaks.tab10 : rtab .any (opsOf Tryz.f91 10) = spec_l5Breaks.T10 := by kernel_rfl
theorem spec_l5Breaks.bits10 : waitsOk spec_l5Breaks.T10.2 spec_l5Breaks.B10 = true := by kernel_rfl
theorem spec_l5Breaks.calls (k : Nat) (A0 : Option Addr) (c0 : Nat) (l0 : List Int) (r : List Int) (w : World) (hr0 : Kd.C (Kd.int .i64) w A0 l0.length l0) (hc0 : l0.length ≤ c0) (h : spec_l5Breaks.f k l0 = some r) :
  Calls Tryz.prog 91 #[.slice A0 l0.length c0] w fun e w' => ∃ v0_ : Value, e = .returned (v0_) ∧ Kd.R (Kd.int .i64) 3 w' w.heap.size (fun _ => True) v0_ r ∧ Below w.heap.size w w' := by
 have HR0 := az hr0; have HC0 := az hc0; clear hr0 hc0; have HB := az (Below.refl w.heap.size w); have H : ((spec_l5Counts.f k l0).bind fun t216 => (spec_l5Breaks.l0 k l0 t216 (([] : List Int)) 0)) = some r := h; clear h; replace H := Option.bind_eq_some_iff.mp H; obtain ⟨t216, A20, H⟩ := H; replace H : (spec_l5Breaks.l0 k l0 t216 (([] : List Int)) 0) = some r := H; have A2 := az A20; clear A20; obtain ⟨y219, hy219⟩ : ∃ y_ : List Int, y_ = (([] : List Int)) := ⟨_, rfl⟩; replace H : (spec_l5Breaks.l0 k l0 t216 y219 0) = some r := by first | (rw [hy219]; with_reducible exact H) | (have H2_ := (Option.bind_some _ _).symm.trans H; rw [hy219]; with_reducible exact H2_) | (have H2_ := (Option.bind_some _ _).symm.trans H; with_reducible exact H2_) | with_reducible exact H | (rw [hy219]; exact H) | exact H
 have Ny219 := az hy219; clear hy219; have H' := az H; clear H; go_enter Tryz.func91, Tryz.ntmps91; go_wp2_with (first | ((with_reducible refine gate_callee (f := 123) rfl ?_); refine goesL_ (some 9) rfl rfl Tryz.func123 (by kernel_rfl) rfl #[.slice A0 l0.length c0] rfl zC ?_; (with_reducible refine (spec_l5Counts.calls k _ _ l0 t216 _ ?side1 ?side2 A2.out).mono ?_); (case side1 => exact (zP HR0.out)); (case side2 => exact HC0.out); rintro e w3 ⟨v217, rfl, ho0, hb⟩; refine ⟨_, rfl, ?_⟩; have n0_ := az (Kd.R_lower ho0 (below_size (zA HB.out))); have n1_ := az (below_step (zA HB.out) hb); clear HB; have HO218 := n0_; have HB := n1_; clear n0_ n1_; (try clear hb); (try clear hb2); (try clear hk); (try clear hi); (try clear ho0)) | ((with_reducible refine gate_dst (N := 10) rfl ?_); refine Kd.R_lit (Kd.int .i64) _ 3 ?hg (N := 10) ?hd (xs := ([] : List Int)) (inner := []) (ok := fun _ => True) (okp := fun _ => True) ?hr ?hp (fun _ hk => hk) trivial (Below.refl _ _) (Nat.le_refl _) (by simp) ?_; (case hd => rfl); (case hg => rfl); (case hr => first | (go_simp; done) | (go_simp; rfl)); (case hp => exact (Reps.none _ _)); intro v220 w4 ho5 hb hg_ hnew_; clear hg_ hnew_; (first | rw [← Ny219.out] at ho5 | (simp only [Int.reduceToNat] at ho5; rw [← Ny219.out] at ho5)); have n0_ := az (Kd.R_elder' (zF HO218.out) (Kd.R_base ho5) hb); have n1_ := az (Kd.R_lower (Kd.R_new' ho5 (Kd.R_lt (zF HO218.out))) (below_size (zA HB.out))); have n2_ := az (below_step (zA HB.out) hb); clear HO218; clear HB; have HO218 := n0_; have HO221 := n1_; have HB := n2_; clear n0_ n1_ n2_; clear hb ho5)); go_loopg [4, 5] k (fun kq v4 v5 w' => ∃ (x4_1 : List Int) (x5_1 : Int), v5 = .int .i64 x5_1 ∧ Aside0 (spec_l5Breaks.l0 kq l0 t216 x4_1 x5_1 = some r) ∧ Aside0 (kq ≤ k) ∧ Aside0 (Kd.R (Kd.int .i64) 3 w' w.heap.size (fun k_ => some k_ ≠ (v4 : Value).ownBlock) v217 t216) ∧ Aside0 (Kd.R (Kd.int .i64) 3 w' w.heap.size (fun k_ => some k_ ≠ (v217 : Value).ownBlock) v4 x4_1) ∧ Aside0 (Below w.heap.size w w'))
 case atStart => exact ⟨(y219), (0), zB, H', ⟨Nat.le_refl _⟩, ⟨zQ HO218.out⟩, ⟨zQ HO221.out⟩, ⟨zA HB.out⟩⟩
 case round =>
  clear H'; (try clear c1); (try clear p2); obtain ⟨x4_1, x5_1, rfl, HA, HK1, HO_3, HO_4, HB⟩ := hrel
  cases gk with
  | zero => exact absurd HA.out (by simp [spec_l5Breaks.l0])
  | succ k1 =>
   have H := HA.out; clear HA; simp only [spec_l5Breaks.l0] at H; by_cases c6 : x5_1 < (t216.length : Int)
   ·
    rw [if_pos c6] at H; have c6b0 : decide (x5_1 < (t216.length : Int)) = true := decide_eq_true c6; clear c6; by_cases c7 : (wrap64 (x5_1 + 1)) = (t216.length : Int)
    ·
     rw [if_pos c7] at H; have c7b0 : ((wrap64 (x5_1 + 1)) == (t216.length : Int)) = true := beq_iff_eq.mpr c7; have c7b1 : ((wrap64 (x5_1 + 1)) != (t216.length : Int)) = false := bne_eq_false_iff_eq.mpr c7; clear c7; by_cases c8 : x4_1.length < 17592186044416
     ·
      rw [if_pos c8] at H; have LMc8 := az c8; clear c8; obtain ⟨y222, hy222⟩ : ∃ y_ : List Int, y_ = (x4_1 ++ [2]) := ⟨_, rfl⟩; replace H : (spec_l5Breaks.l0 k1 l0 t216 y222 (wrap64 (x5_1 + 1))) = some r := by first | (rw [hy222]; with_reducible exact H) | (have H2_ := (Option.bind_some _ _).symm.trans H; rw [hy222]; with_reducible exact H2_) | (have H2_ := (Option.bind_some _ _).symm.trans H; with_reducible exact H2_) | with_reducible exact H | (rw [hy222]; exact H) | exact H
      have Ny222 := az hy222; clear hy222; have H' := az H; clear H; obtain ⟨Ao9, co9, eo9⟩ := Kd.R_slice HO_3.out; subst eo9; go_wp2_with (first | ((with_reducible refine gate_builtin (b := .append) (xs := #[.tmp 46, .tmp 47]) rfl ?_); at_builtin; refine Kd.R_append (Kd.int .i64) (w0 := w) w.heap.size rfl (.tmp 46) (.tmp 47) 22 3 (.int .i64 0) 8 rfl Tryz.underlying22 info3 rfl (by decide) (by omega) u4 x4_1 2 [.int .i64 2] (fun k_ => some k_ ≠ (.slice Ao9 t216.length co9 : Value).ownBlock) (fun _ => False) rfl rfl ?aP (fun _ hk => hk.elim) ?aF ?aO ?aB ?aS ?aL ?_; (case aP => exact rfl); (case aB => exact (zA HB.out)); (case aF => exact (fun k_ hk => Kd.fresh' (Kd.R_lt (zF HO_3.out)) k_ hk)); (case aO => exact (zF HO_4.out)); (case aS => exact (below_size (zA HB.out))); (case aL => have := LMc8.out; omega); intro v223 w10 ho hb hg hat; rw [← Ny222.out] at ho; have n0_ := az (Kd.R_after (ok := (fun _ => True)) (zU HO_3.out) hg hat); have n1_ := az (hb); have n2_ := az (ho); clear HO_3; clear HB; clear HO_4; have HO_3 := n0_; have HB := n1_; have HO224 := n2_; clear n0_ n1_ n2_; clear ho hb hg hat)); go_roundg k1
      case measure => have := HK1.out; omega
      case rel => exact ⟨(y222), (wrap64 (x5_1 + 1)), zB, H', ⟨zE HK1.out⟩, ⟨zQ HO_3.out⟩, ⟨zF HO224.out⟩, ⟨zA HB.out⟩⟩
     ·
      rw [if_neg c8] at H; exact absurd H (by simp)
    ·
     rw [if_neg c7] at H; have c7b0 : ((wrap64 (x5_1 + 1)) == (t216.length : Int)) = false := beq_eq_false_iff_ne.mpr c7; have c7b1 : ((wrap64 (x5_1 + 1)) != (t216.length : Int)) = true := bne_iff_ne.mpr c7; have HC11 := az H; clear H; obtain ⟨Ao12, co12, eo12⟩ := Kd.R_slice HO_3.out; subst eo12; go_upto_region 13 with (fail)
     go_cut [49] (fun v49 wc => ∃ (kq : Nat) (x49_10 : Bool), v49 = .bool x49_10 ∧ Aside0 (spec_l5Breaks.j1 kq l0 t216 x4_1 x5_1 x49_10 = some r) ∧ Aside0 (kq ≤ k1) ∧ Aside0 (Kd.R (Kd.int .i64) 3 wc w.heap.size (fun k_ => some k_ ≠ (u4 : Value).ownBlock) (.slice Ao12 t216.length co12) t216) ∧ Aside0 (Kd.R (Kd.int .i64) 3 wc w.heap.size (fun k_ => some k_ ≠ ((.slice Ao12 t216.length co12) : Value).ownBlock) u4 x4_1) ∧ Aside0 (Below w.heap.size w wc))
     case first =>
      have H := HC11.out; clear HC11; replace H := Option.bind_eq_some_iff.mp H; obtain ⟨t225, A130, H⟩ := H; replace H : (if t225 = true then (spec_l5Breaks.j1 k1 l0 t216 x4_1 x5_1 true) else (if 0 ≤ (wrap64 (x5_1 + 1)) then (if (wrap64 (x5_1 + 1)) < (l0.length : Int) then ((spec_RuneLine.f k1 (rd l0 (wrap64 (x5_1 + 1)))).bind fun t227 => (if t227 = 7 then (if 0 ≤ x5_1 then (if (rd t216 x5_1) = 3 then (spec_l5Breaks.j1 k1 l0 t216 x4_1 x5_1 false) else (if (rd t216 x5_1) = 4 then (spec_l5Breaks.j1 k1 l0 t216 x4_1 x5_1 false) else (spec_l5Breaks.j1 k1 l0 t216 x4_1 x5_1 ((rd t216 x5_1) != 6)))) else (none)) else (spec_l5Breaks.j1 k1 l0 t216 x4_1 x5_1 false))) else (none)) else (none))) = some r := H; have A13 := az A130; clear A130; by_cases c14 : t225 = true
      ·
       subst c14; have H1 : (spec_l5Breaks.j1 k1 l0 t216 x4_1 x5_1 true) = some r := by rw [if_pos rfl] at H; exact H
       clear H; have H := H1; clear H1; have H' := az H; clear H; go_wp2_with (first | ((with_reducible refine gate_callee (f := 124) rfl ?_); refine goesL_ (some 53) rfl rfl Tryz.func124 (by kernel_rfl) rfl #[.slice A0 l0.length c0, .int .i64 (wrap64 (x5_1 + 1))] rfl zC ?_; (with_reducible refine (spec_l2Joins.calls k1 _ _ l0 (wrap64 (x5_1 + 1)) true _ ?side1 ?side2 A13.out).mono ?_); (case side1 => exact (zO HR0.out HB.out)); (case side2 => exact HC0.out); rintro e w15 ⟨rfl, hb⟩; refine ⟨_, rfl, ?_⟩; have n0_ := az (Kd.R_below (zF HO_3.out) hb); have n1_ := az (Kd.R_below (zF HO_4.out) hb); have n2_ := az (below_step (zA HB.out) hb); clear HO_3; clear HO_4; clear HB; have HO_3 := n0_; have HO_4 := n1_; have HB := n2_; clear n0_ n1_ n2_; (try clear hb); (try clear hb2); (try clear hk); (try clear hi))); go_meet
       case rel => exact ⟨_, (true), zB, H', ⟨zK HK1.out⟩, ⟨zF HO_3.out⟩, ⟨zF HO_4.out⟩, ⟨zA HB.out⟩⟩
      ·
       replace c14 := Bool.eq_false_iff.mpr c14; subst c14; have H1 : (if 0 ≤ (wrap64 (x5_1 + 1)) then (if (wrap64 (x5_1 + 1)) < (l0.length : Int) then ((spec_RuneLine.f k1 (rd l0 (wrap64 (x5_1 + 1)))).bind fun t227 => (if t227 = 7 then (if 0 ≤ x5_1 then (if (rd t216 x5_1) = 3 then (spec_l5Breaks.j1 k1 l0 t216 x4_1 x5_1 false) else (if (rd t216 x5_1) = 4 then (spec_l5Breaks.j1 k1 l0 t216 x4_1 x5_1 false) else (spec_l5Breaks.j1 k1 l0 t216 x4_1 x5_1 ((rd t216 x5_1) != 6)))) else (none)) else (spec_l5Breaks.j1 k1 l0 t216 x4_1 x5_1 false))) else (none)) else (none)) = some r := by rw [if_neg (show ¬ (false = true) by decide)] at H; exact H
       clear H; have H := H1; clear H1; obtain ⟨ji16, hji16⟩ : ∃ j_ : Int, (wrap64 (x5_1 + 1)) = j_ := ⟨_, rfl⟩; replace H : (if 0 ≤ (ji16) then (if (ji16) < (l0.length : Int) then ((spec_RuneLine.f k1 (rd l0 (ji16))).bind fun t227 => (if t227 = 7 then (if 0 ≤ x5_1 then (if (rd t216 x5_1) = 3 then (spec_l5Breaks.j1 k1 l0 t216 x4_1 x5_1 false) else (if (rd t216 x5_1) = 4 then (spec_l5Breaks.j1 k1 l0 t216 x4_1 x5_1 false) else (spec_l5Breaks.j1 k1 l0 t216 x4_1 x5_1 ((rd t216 x5_1) != 6)))) else (none)) else (spec_l5Breaks.j1 k1 l0 t216 x4_1 x5_1 false))) else (none)) else (none)) = some r := by first | (rw [hji16] at H; exact H) | (simp only [hji16] at H ⊢; exact H)
       (try rw [hji16] at c7b0); (try rw [hji16] at c7b1); (try rw [hji16] at A13); have hji16w : (IntKind.i64.wrap (x5_1 + 1)) = ji16 := (i64_w _).trans hji16; by_cases c17 : 0 ≤ (ji16)
       ·
        rw [if_pos c17] at H; have c17b0 : decide (0 ≤ (ji16)) = true := decide_eq_true c17; clear c17; (first | rw [c17b0] | (simp only [i64_w, i32_w]; rw [c17b0]) | skip); by_cases c18 : (ji16) < (l0.length : Int)
        ·
         rw [if_pos c18] at H; have c18b0 : decide ((ji16) < (l0.length : Int)) = true := decide_eq_true c18; clear c18; replace H := Option.bind_eq_some_iff.mp H; obtain ⟨t227, A190, H⟩ := H; replace H : (if t227 = 7 then (if 0 ≤ x5_1 then (if (rd t216 x5_1) = 3 then (spec_l5Breaks.j1 k1 l0 t216 x4_1 x5_1 false) else (if (rd t216 x5_1) = 4 then (spec_l5Breaks.j1 k1 l0 t216 x4_1 x5_1 false) else (spec_l5Breaks.j1 k1 l0 t216 x4_1 x5_1 ((rd t216 x5_1) != 6)))) else (none)) else (spec_l5Breaks.j1 k1 l0 t216 x4_1 x5_1 false)) = some r := H; have A19 := az A190; clear A190; by_cases c20 : t227 = 7
         ·
          rw [if_pos c20] at H; have c20b0 : (t227 == 7) = true := beq_iff_eq.mpr c20; have c20b1 : (t227 != 7) = false := bne_eq_false_iff_eq.mpr c20; clear c20; by_cases c21 : 0 ≤ x5_1
          ·
           rw [if_pos c21] at H; have c21b0 : decide (0 ≤ x5_1) = true := decide_eq_true c21; clear c21; by_cases c22 : (rd t216 x5_1) = 3
           ·
            rw [if_pos c22] at H; have c22b0 : ((rd t216 x5_1) == 3) = true := beq_iff_eq.mpr c22; have c22b1 : ((rd t216 x5_1) != 3) = false := bne_eq_false_iff_eq.mpr c22; clear c22; have H' := az H; clear H; go_wp2_with (first | ((with_reducible refine gate_callee (f := 124) rfl ?_); refine goesL_ (some 53) rfl rfl Tryz.func124 (by kernel_rfl) rfl #[.slice A0 l0.length c0, .int .i64 ji16] rfl (by (try simp only [List.map_toArray, List.map_cons, List.map_nil]); first | done | (simp only [hji16]; rfl) | rfl | (simp only [List.length_drop, List.length_take]; rfl)) ?_; (with_reducible refine (spec_l2Joins.calls k1 _ _ l0 ji16 false _ ?side1 ?side2 A13.out).mono ?_); (case side1 => exact (zO HR0.out HB.out)); (case side2 => exact HC0.out); rintro e w23 ⟨rfl, hb⟩; refine ⟨_, rfl, ?_⟩; have n0_ := az (Kd.R_below (zF HO_3.out) hb); have n1_ := az (Kd.R_below (zF HO_4.out) hb); have n2_ := az (below_step (zA HB.out) hb); clear HO_3; clear HO_4; clear HB; have HO_3 := n0_; have HO_4 := n1_; have HB := n2_; clear n0_ n1_ n2_; (try clear hb); (try clear hb2); (try clear hk); (try clear hi); have p226 : 0 ≤ ((ji16) : Int) := of_decide_eq_true (by assumption); have q226 : (ji16) < (l0.length : Int) := of_decide_eq_true (by assumption); obtain ⟨ad226, e226, hx226_0⟩ := Kd.at_int HR0.out (ji16) p226 q226; cases e226; replace hx226_0 := (HB.out.cell (World.block_lt_of_cell? w _ hx226_0)).trans hx226_0; replace p226 := eq_true p226; replace q226 := eq_true q226) | (go_at_call 125; (with_reducible refine (spec_RuneLine.calls k1 (rd l0 (ji16)) t227 _ A19.out).mono ?_); rintro e w24 ⟨rfl, hb⟩; have n0_ := az (Kd.R_below (zF HO_3.out) hb); have n1_ := az (Kd.R_below (zF HO_4.out) hb); have n2_ := az (below_step (zA HB.out) hb); clear HO_3; clear HO_4; clear HB; have HO_3 := n0_; have HO_4 := n1_; have HB := n2_; clear n0_ n1_ n2_; (try clear hb); (try clear hb2); (try clear hk); (try clear hi); have p228 : 0 ≤ (x5_1 : Int) := of_decide_eq_true (by assumption); have q228 : x5_1 < (t216.length : Int) := of_decide_eq_true (by assumption); obtain ⟨ad228, e228, hx228_0⟩ := Kd.at_int (Kd.R_reads' HO_3.out).2.2 x5_1 p228 q228; cases e228; replace p228 := eq_true p228; replace q228 := eq_true q228)); go_meet
            case rel => exact ⟨_, (false), zB, H', ⟨zK HK1.out⟩, ⟨zF HO_3.out⟩, ⟨zF HO_4.out⟩, ⟨zA HB.out⟩⟩
           ·
            rw [if_neg c22] at H; have c22b0 : ((rd t216 x5_1) == 3) = false := beq_eq_false_iff_ne.mpr c22; have c22b1 : ((rd t216 x5_1) != 3) = true := bne_iff_ne.mpr c22; by_cases c25 : (rd t216 x5_1) = 4
            ·
             rw [if_pos c25] at H; have c25b0 : ((rd t216 x5_1) == 4) = true := beq_iff_eq.mpr c25; have c25b1 : ((rd t216 x5_1) != 4) = false := bne_eq_false_iff_eq.mpr c25; clear c25; have H' := az H; clear H; go_wp2_with (first | ((with_reducible refine gate_callee (f := 124) rfl ?_); refine goesL_ (some 53) rfl rfl Tryz.func124 (by kernel_rfl) rfl #[.slice A0 l0.length c0, .int .i64 ji16] rfl (by (try simp only [List.map_toArray, List.map_cons, List.map_nil]); first | done | (simp only [hji16]; rfl) | rfl | (simp only [List.length_drop, List.length_take]; rfl)) ?_; (with_reducible refine (spec_l2Joins.calls k1 _ _ l0 ji16 false _ ?side1 ?side2 A13.out).mono ?_); (case side1 => exact (zO HR0.out HB.out)); (case side2 => exact HC0.out); rintro e w26 ⟨rfl, hb⟩; refine ⟨_, rfl, ?_⟩; have n0_ := az (Kd.R_below (zF HO_3.out) hb); have n1_ := az (Kd.R_below (zF HO_4.out) hb); have n2_ := az (below_step (zA HB.out) hb); clear HO_3; clear HO_4; clear HB; have HO_3 := n0_; have HO_4 := n1_; have HB := n2_; clear n0_ n1_ n2_; (try clear hb); (try clear hb2); (try clear hk); (try clear hi); have p226 : 0 ≤ ((ji16) : Int) := of_decide_eq_true (by assumption); have q226 : (ji16) < (l0.length : Int) := of_decide_eq_true (by assumption); obtain ⟨ad226, e226, hx226_0⟩ := Kd.at_int HR0.out (ji16) p226 q226; cases e226; replace hx226_0 := (HB.out.cell (World.block_lt_of_cell? w _ hx226_0)).trans hx226_0; replace p226 := eq_true p226; replace q226 := eq_true q226) | (go_at_call 125; (with_reducible refine (spec_RuneLine.calls k1 (rd l0 (ji16)) t227 _ A19.out).mono ?_); rintro e w27 ⟨rfl, hb⟩; have n0_ := az (Kd.R_below (zF HO_3.out) hb); have n1_ := az (Kd.R_below (zF HO_4.out) hb); have n2_ := az (below_step (zA HB.out) hb); clear HO_3; clear HO_4; clear HB; have HO_3 := n0_; have HO_4 := n1_; have HB := n2_; clear n0_ n1_ n2_; (try clear hb); (try clear hb2); (try clear hk); (try clear hi); have p228 : 0 ≤ (x5_1 : Int) := of_decide_eq_true (by assumption); have q228 : x5_1 < (t216.length : Int) := of_decide_eq_true (by assumption); obtain ⟨ad228, e228, hx228_0⟩ := Kd.at_int (Kd.R_reads' HO_3.out).2.2 x5_1 p228 q228; cases e228; replace p228 := eq_true p228; replace q228 := eq_true q228; have p229 : 0 ≤ (x5_1 : Int) := of_decide_eq_true (by assumption); have q229 : x5_1 < (t216.length : Int) := of_decide_eq_true (by assumption); obtain ⟨ad229, e229, hx229_0⟩ := Kd.at_int (Kd.R_reads' HO_3.out).2.2 x5_1 p229 q229; obtain rfl : ad228 = ad229 := (by injection e229); replace p229 := eq_true p229; replace q229 := eq_true q229)); go_meet
             case rel => exact ⟨_, (false), zB, H', ⟨zK HK1.out⟩, ⟨zF HO_3.out⟩, ⟨zF HO_4.out⟩, ⟨zA HB.out⟩⟩
            ·
             rw [if_neg c25] at H; have c25b0 : ((rd t216 x5_1) == 4) = false := beq_eq_false_iff_ne.mpr c25; have c25b1 : ((rd t216 x5_1) != 4) = true := bne_iff_ne.mpr c25; have H' := az H; clear H; go_wp2_with (first | ((with_reducible refine gate_callee (f := 124) rfl ?_); refine goesL_ (some 53) rfl rfl Tryz.func124 (by kernel_rfl) rfl #[.slice A0 l0.length c0, .int .i64 ji16] rfl (by (try simp only [List.map_toArray, List.map_cons, List.map_nil]); first | done | (simp only [hji16]; rfl) | rfl | (simp only [List.length_drop, List.length_take]; rfl)) ?_; (with_reducible refine (spec_l2Joins.calls k1 _ _ l0 ji16 false _ ?side1 ?side2 A13.out).mono ?_); (case side1 => exact (zO HR0.out HB.out)); (case side2 => exact HC0.out); rintro e w28 ⟨rfl, hb⟩; refine ⟨_, rfl, ?_⟩; have n0_ := az (Kd.R_below (zF HO_3.out) hb); have n1_ := az (Kd.R_below (zF HO_4.out) hb); have n2_ := az (below_step (zA HB.out) hb); clear HO_3; clear HO_4; clear HB; have HO_3 := n0_; have HO_4 := n1_; have HB := n2_; clear n0_ n1_ n2_; (try clear hb); (try clear hb2); (try clear hk); (try clear hi); have p226 : 0 ≤ ((ji16) : Int) := of_decide_eq_true (by assumption); have q226 : (ji16) < (l0.length : Int) := of_decide_eq_true (by assumption); obtain ⟨ad226, e226, hx226_0⟩ := Kd.at_int HR0.out (ji16) p226 q226; cases e226; replace hx226_0 := (HB.out.cell (World.block_lt_of_cell? w _ hx226_0)).trans hx226_0; replace p226 := eq_true p226; replace q226 := eq_true q226) | (go_at_call 125; (with_reducible refine (spec_RuneLine.calls k1 (rd l0 (ji16)) t227 _ A19.out).mono ?_); rintro e w29 ⟨rfl, hb⟩; have n0_ := az (Kd.R_below (zF HO_3.out) hb); have n1_ := az (Kd.R_below (zF HO_4.out) hb); have n2_ := az (below_step (zA HB.out) hb); clear HO_3; clear HO_4; clear HB; have HO_3 := n0_; have HO_4 := n1_; have HB := n2_; clear n0_ n1_ n2_; (try clear hb); (try clear hb2); (try clear hk); (try clear hi); have p228 : 0 ≤ (x5_1 : Int) := of_decide_eq_true (by assumption); have q228 : x5_1 < (t216.length : Int) := of_decide_eq_true (by assumption); obtain ⟨ad228, e228, hx228_0⟩ := Kd.at_int (Kd.R_reads' HO_3.out).2.2 x5_1 p228 q228; cases e228; replace p228 := eq_true p228; replace q228 := eq_true q228; have p229 : 0 ≤ (x5_1 : Int) := of_decide_eq_true (by assumption); have q229 : x5_1 < (t216.length : Int) := of_decide_eq_true (by assumption); obtain ⟨ad229, e229, hx229_0⟩ := Kd.at_int (Kd.R_reads' HO_3.out).2.2 x5_1 p229 q229; obtain rfl : ad228 = ad229 := (by injection e229); replace p229 := eq_true p229; replace q229 := eq_true q229; have p230 : 0 ≤ (x5_1 : Int) := of_decide_eq_true (by assumption); have q230 : x5_1 < (t216.length : Int) := of_decide_eq_true (by assumption); obtain ⟨ad230, e230, hx230_0⟩ := Kd.at_int (Kd.R_reads' HO_3.out).2.2 x5_1 p230 q230; obtain rfl : ad228 = ad230 := (by injection e230); replace p230 := eq_true p230; replace q230 := eq_true q230))
             go_meet
             case rel => exact ⟨_, (((rd t216 x5_1) != 6)), zB, H', ⟨zK HK1.out⟩, ⟨zF HO_3.out⟩, ⟨zF HO_4.out⟩, ⟨zA HB.out⟩⟩
          ·
           rw [if_neg c21] at H; exact absurd H (by simp)
         ·
          rw [if_neg c20] at H; have c20b0 : (t227 == 7) = false := beq_eq_false_iff_ne.mpr c20; have c20b1 : (t227 != 7) = true := bne_iff_ne.mpr c20; have H' := az H; clear H; go_wp2_with (first | ((with_reducible refine gate_callee (f := 124) rfl ?_); refine goesL_ (some 53) rfl rfl Tryz.func124 (by kernel_rfl) rfl #[.slice A0 l0.length c0, .int .i64 ji16] rfl (by (try simp only [List.map_toArray, List.map_cons, List.map_nil]); first | done | (simp only [hji16]; rfl) | rfl | (simp only [List.length_drop, List.length_take]; rfl)) ?_; (with_reducible refine (spec_l2Joins.calls k1 _ _ l0 ji16 false _ ?side1 ?side2 A13.out).mono ?_); (case side1 => exact (zO HR0.out HB.out)); (case side2 => exact HC0.out); rintro e w30 ⟨rfl, hb⟩; refine ⟨_, rfl, ?_⟩; have n0_ := az (Kd.R_below (zF HO_3.out) hb); have n1_ := az (Kd.R_below (zF HO_4.out) hb); have n2_ := az (below_step (zA HB.out) hb); clear HO_3; clear HO_4; clear HB; have HO_3 := n0_; have HO_4 := n1_; have HB := n2_; clear n0_ n1_ n2_; (try clear hb); (try clear hb2); (try clear hk); (try clear hi); have p226 : 0 ≤ ((ji16) : Int) := of_decide_eq_true (by assumption); have q226 : (ji16) < (l0.length : Int) := of_decide_eq_true (by assumption); obtain ⟨ad226, e226, hx226_0⟩ := Kd.at_int HR0.out (ji16) p226 q226; cases e226; replace hx226_0 := (HB.out.cell (World.block_lt_of_cell? w _ hx226_0)).trans hx226_0; replace p226 := eq_true p226; replace q226 := eq_true q226) | (go_at_call 125; (with_reducible refine (spec_RuneLine.calls k1 (rd l0 (ji16)) t227 _ A19.out).mono ?_); rintro e w31 ⟨rfl, hb⟩; have n0_ := az (Kd.R_below (zF HO_3.out) hb); have n1_ := az (Kd.R_below (zF HO_4.out) hb); have n2_ := az (below_step (zA HB.out) hb); clear HO_3; clear HO_4; clear HB; have HO_3 := n0_; have HO_4 := n1_; have HB := n2_; clear n0_ n1_ n2_; (try clear hb); (try clear hb2); (try clear hk); (try clear hi))); go_meet
          case rel => exact ⟨_, (false), zB, H', ⟨zK HK1.out⟩, ⟨zF HO_3.out⟩, ⟨zF HO_4.out⟩, ⟨zA HB.out⟩⟩
        ·
         rw [if_neg c18] at H; exact absurd H (by simp)
       ·
        rw [if_neg c17] at H; exact absurd H (by simp)
     case rest =>
      clear HC11; (try clear c1); (try clear c2); (try clear p2); (try clear q2); (try clear hx2); (try clear c6); (try clear c6b0); (try clear p6); (try clear c7); (try clear c7b0); (try clear c7b1); (try clear c8); (try clear c9); (try clear c12); (try clear c14); (try clear c17); (try clear c17b0); (try clear c18); (try clear c18b0); (try clear c20); (try clear c20b0); (try clear c20b1); (try clear c21); (try clear c21b0); (try clear c22); (try clear c22b0); (try clear c22b1); (try clear p22); (try clear q22); (try clear hx22); (try clear p23); (try clear q23); (try clear hx23); (try clear c25); (try clear c25b0); (try clear c25b1); (try clear hx226_0); (try clear hx228_0); (try clear hx229_0); (try clear hx230_0); (try clear p2); (try clear p226); (try clear p228); (try clear p229); (try clear p230); (try clear q226); (try clear q228); (try clear q229); (try clear q230); obtain ⟨kq, x49_10, rfl, HA, HJ10, HO_3, HO_4, HB⟩ := hcut
      cases kq with
      | zero => exact absurd HA.out (by simp [spec_l5Breaks.j1])
      | succ kj10 =>
       have H := HA.out; clear HA; simp only [spec_l5Breaks.j1] at H; by_cases c32 : x49_10 = true
       ·
        subst c32; have H1 : (if x4_1.length < 17592186044416 then (spec_l5Breaks.l0 kj10 l0 t216 (x4_1 ++ [0]) (wrap64 (x5_1 + 1))) else (none)) = some r := by rw [if_pos rfl] at H; exact H
        clear H; have H := H1; clear H1; by_cases c33 : x4_1.length < 17592186044416
        ·
         rw [if_pos c33] at H; have LMc33 := az c33; clear c33; obtain ⟨y231, hy231⟩ : ∃ y_ : List Int, y_ = (x4_1 ++ [0]) := ⟨_, rfl⟩; replace H : (spec_l5Breaks.l0 kj10 l0 t216 y231 (wrap64 (x5_1 + 1))) = some r := by first | (rw [hy231]; with_reducible exact H) | (have H2_ := (Option.bind_some _ _).symm.trans H; rw [hy231]; with_reducible exact H2_) | (have H2_ := (Option.bind_some _ _).symm.trans H; with_reducible exact H2_) | with_reducible exact H | (rw [hy231]; exact H) | exact H
         have Ny231 := az hy231; clear hy231; have H' := az H; clear H; go_wp2_with (first | ((with_reducible refine gate_builtin (b := .append) (xs := #[.tmp 84, .tmp 85]) rfl ?_); at_builtin; refine Kd.R_append (Kd.int .i64) (w0 := w) w.heap.size rfl (.tmp 84) (.tmp 85) 22 3 (.int .i64 0) 8 rfl Tryz.underlying22 info3 rfl (by decide) (by omega) u4 x4_1 0 [.int .i64 0] (fun k_ => some k_ ≠ (.slice Ao12 t216.length co12 : Value).ownBlock) (fun _ => False) rfl rfl ?aP (fun _ hk => hk.elim) ?aF ?aO ?aB ?aS ?aL ?_; (case aP => exact rfl); (case aB => exact (zA HB.out)); (case aF => exact (fun k_ hk => Kd.fresh' (Kd.R_lt (zF HO_3.out)) k_ hk)); (case aO => exact (zF HO_4.out)); (case aS => exact (below_size (zA HB.out))); (case aL => have := LMc33.out; omega); intro v232 w34 ho hb hg hat; rw [← Ny231.out] at ho; have n0_ := az (Kd.R_after (ok := (fun _ => True)) (zU HO_3.out) hg hat); have n1_ := az (hb); have n2_ := az (ho); clear HO_3; clear HB; clear HO_4; have HO_3 := n0_; have HB := n1_; have HO233 := n2_; clear n0_ n1_ n2_; clear ho hb hg hat)); go_roundg kj10
         case measure => have := HK1.out; have := HJ10.out; omega
         case rel => exact ⟨(y231), (wrap64 (x5_1 + 1)), zB, H', ⟨zL HK1.out HJ10.out⟩, ⟨zQ HO_3.out⟩, ⟨zF HO233.out⟩, ⟨zA HB.out⟩⟩
        ·
         rw [if_neg c33] at H; exact absurd H (by simp)
       ·
        replace c32 := Bool.eq_false_iff.mpr c32; subst c32; have H1 : ((spec_l5Before.f kj10 t216 x5_1).bind fun t234 => (if t234 ≥ 0 then (if 0 ≤ t234 then (if t234 < (t216.length : Int) then (if 0 ≤ x5_1 then (if x5_1 < (t216.length : Int) then (if 0 ≤ (wrap64 (x5_1 + 1)) then (if (wrap64 (x5_1 + 1)) < (t216.length : Int) then ((spec_l5Place.f kj10 (rd t216 x5_1) (rd t216 (wrap64 (x5_1 + 1))) (rd t216 t234)).bind fun t238 => (if x4_1.length < 17592186044416 then (spec_l5Breaks.l0 kj10 l0 t216 (x4_1 ++ [t238]) (wrap64 (x5_1 + 1))) else (none))) else (none)) else (none)) else (none)) else (none)) else (none)) else (none)) else (if 0 ≤ x5_1 then (if x5_1 < (t216.length : Int) then (if 0 ≤ (wrap64 (x5_1 + 1)) then (if (wrap64 (x5_1 + 1)) < (t216.length : Int) then ((spec_l5Place.f kj10 (rd t216 x5_1) (rd t216 (wrap64 (x5_1 + 1))) 0).bind fun t244 => (if x4_1.length < 17592186044416 then (spec_l5Breaks.l0 kj10 l0 t216 (x4_1 ++ [t244]) (wrap64 (x5_1 + 1))) else (none))) else (none)) else (none)) else (none)) else (none)))) = some r := by rw [if_neg (show ¬ (false = true) by decide)] at H; exact H
        clear H; have H := H1; clear H1; replace H := Option.bind_eq_some_iff.mp H; obtain ⟨t234, A350, H⟩ := H; replace H : (if t234 ≥ 0 then (if 0 ≤ t234 then (if t234 < (t216.length : Int) then (if 0 ≤ x5_1 then (if x5_1 < (t216.length : Int) then (if 0 ≤ (wrap64 (x5_1 + 1)) then (if (wrap64 (x5_1 + 1)) < (t216.length : Int) then ((spec_l5Place.f kj10 (rd t216 x5_1) (rd t216 (wrap64 (x5_1 + 1))) (rd t216 t234)).bind fun t238 => (if x4_1.length < 17592186044416 then (spec_l5Breaks.l0 kj10 l0 t216 (x4_1 ++ [t238]) (wrap64 (x5_1 + 1))) else (none))) else (none)) else (none)) else (none)) else (none)) else (none)) else (none)) else (if 0 ≤ x5_1 then (if x5_1 < (t216.length : Int) then (if 0 ≤ (wrap64 (x5_1 + 1)) then (if (wrap64 (x5_1 + 1)) < (t216.length : Int) then ((spec_l5Place.f kj10 (rd t216 x5_1) (rd t216 (wrap64 (x5_1 + 1))) 0).bind fun t244 => (if x4_1.length < 17592186044416 then (spec_l5Breaks.l0 kj10 l0 t216 (x4_1 ++ [t244]) (wrap64 (x5_1 + 1))) else (none))) else (none)) else (none)) else (none)) else (none))) = some r := H; have A35 := az A350; clear A350; by_cases c36 : t234 ≥ 0
        ·
         rw [if_pos c36] at H; have c36b0 : decide (0 ≤ t234) = true := decide_eq_true c36; clear c36; by_cases c37 : 0 ≤ t234
         ·
          rw [if_pos c37] at H; have c37b0 : decide (0 ≤ t234) = true := decide_eq_true c37; clear c37; by_cases c38 : t234 < (t216.length : Int)
          ·
           rw [if_pos c38] at H; have c38b0 : decide (t234 < (t216.length : Int)) = true := decide_eq_true c38; clear c38; by_cases c39 : 0 ≤ x5_1
           ·
            rw [if_pos c39] at H; have c39b0 : decide (0 ≤ x5_1) = true := decide_eq_true c39; clear c39; by_cases c40 : x5_1 < (t216.length : Int)
            ·
             rw [if_pos c40] at H; have c40b0 : decide (x5_1 < (t216.length : Int)) = true := decide_eq_true c40; clear c40; obtain ⟨ji41, hji41⟩ : ∃ j_ : Int, (wrap64 (x5_1 + 1)) = j_ := ⟨_, rfl⟩; replace H : (if 0 ≤ (ji41) then (if (ji41) < (t216.length : Int) then ((spec_l5Place.f kj10 (rd t216 x5_1) (rd t216 (ji41)) (rd t216 t234)).bind fun t238 => (if x4_1.length < 17592186044416 then (spec_l5Breaks.l0 kj10 l0 t216 (x4_1 ++ [t238]) ji41) else (none))) else (none)) else (none)) = some r := by first | (rw [hji41] at H; exact H) | (simp only [hji41] at H ⊢; exact H)
             (try rw [hji41] at c7b0); (try rw [hji41] at c7b1); (try rw [hji41] at A35); have hji41w : (IntKind.i64.wrap (x5_1 + 1)) = ji41 := (i64_w _).trans hji41; by_cases c42 : 0 ≤ (ji41)
             ·
              rw [if_pos c42] at H; have c42b0 : decide (0 ≤ (ji41)) = true := decide_eq_true c42; clear c42; by_cases c43 : (ji41) < (t216.length : Int)
              ·
               rw [if_pos c43] at H; have c43b0 : decide ((ji41) < (t216.length : Int)) = true := decide_eq_true c43; clear c43; replace H := Option.bind_eq_some_iff.mp H; obtain ⟨t238, A440, H⟩ := H; replace H : (if x4_1.length < 17592186044416 then (spec_l5Breaks.l0 kj10 l0 t216 (x4_1 ++ [t238]) ji41) else (none)) = some r := H; have A44 := az A440; clear A440; by_cases c45 : x4_1.length < 17592186044416
               ·
                rw [if_pos c45] at H; have LMc45 := az c45; clear c45; obtain ⟨y239, hy239⟩ : ∃ y_ : List Int, y_ = (x4_1 ++ [t238]) := ⟨_, rfl⟩; replace H : (spec_l5Breaks.l0 kj10 l0 t216 y239 ji41) = some r := by first | (rw [hy239]; with_reducible exact H) | (have H2_ := (Option.bind_some _ _).symm.trans H; rw [hy239]; with_reducible exact H2_) | (have H2_ := (Option.bind_some _ _).symm.trans H; with_reducible exact H2_) | with_reducible exact H | (rw [hy239]; exact H) | exact H
                have Ny239 := az hy239; clear hy239; have H' := az H; clear H; (try go_wp2_with (first | ((with_reducible refine gate_callee (f := 126) rfl ?_); refine goesL_ (some 19) rfl rfl Tryz.func126 (by kernel_rfl) rfl #[.slice Ao12 t216.length co12, .int .i64 x5_1] rfl zC ?_; (with_reducible refine (spec_l5Before.calls kj10 _ _ t216 x5_1 t234 _ ?side1 ?side2 A35.out).mono ?_); (case side1 => exact (zR HO_3.out)); (case side2 => exact (Kd.R_reads' HO_3.out).2.1); rintro e w' ⟨rfl, ⟨nd, rfl⟩⟩; refine ⟨_, rfl, ?_⟩; have p235 : 0 ≤ (t234 : Int) := of_decide_eq_true (by assumption); have q235 : t234 < (t216.length : Int) := of_decide_eq_true (by assumption); obtain ⟨ad235, e235, hx235_0⟩ := Kd.at_int (Kd.R_reads' HO_3.out).2.2 t234 p235 q235; cases e235; replace p235 := eq_true p235; replace q235 := eq_true q235))); (try (rw [drewN_self wc]; generalize hq_ : World.drewN wc _ = wc; have n0_ : Aside0 (Kd.R (Kd.int .i64) 3 wc w.heap.size (fun k_ => some k_ ≠ (u4 : Value).ownBlock) (.slice (some ad235) t216.length co12) t216) := ⟨by rw [← hq_]; exact (zF HO_3.out)⟩; have n1_ : Aside0 (Kd.R (Kd.int .i64) 3 wc w.heap.size (fun k_ => some k_ ≠ (.slice (some ad235) t216.length co12 : Value).ownBlock) u4 x4_1) := ⟨by rw [← hq_]; exact (zF HO_4.out)⟩; have n2_ : Aside0 (Below w.heap.size w wc) := ⟨by rw [← hq_]; exact (zA HB.out)⟩; clear HO_3 HO_4 HB hq_; have HO_3 := n0_; have HO_4 := n1_; have HB := n2_; clear n0_ n1_ n2_)); have n0_ := az (Kd.R_drew HO_3.out); have n1_ := az (Kd.R_drew HO_4.out); have n2_ := az (below_drew1 HB.out); clear HO_3; clear HO_4; clear HB; have HO_3 := n0_; have HO_4 := n1_; have HB := n2_; clear n0_ n1_ n2_; have p236 : 0 ≤ (x5_1 : Int) := of_decide_eq_true (by assumption); have q236 : x5_1 < (t216.length : Int) := of_decide_eq_true (by assumption); obtain ⟨ad236, e236, hx236_0⟩ := Kd.at_int (Kd.R_reads' HO_3.out).2.2 x5_1 p236 q236; obtain rfl : ad235 = ad236 := (by injection e236); replace p236 := eq_true p236; replace q236 := eq_true q236; have p237 : 0 ≤ ((ji41) : Int) := of_decide_eq_true (by assumption); have q237 : (ji41) < (t216.length : Int) := of_decide_eq_true (by assumption); obtain ⟨ad237, e237, hx237_0⟩ := Kd.at_int (Kd.R_reads' HO_3.out).2.2 (ji41) p237 q237; obtain rfl : ad235 = ad237 := (by injection e237); replace p237 := eq_true p237; replace q237 := eq_true q237; refine start_ (n := 15) (S := fun w' => w'.cell? (ad235.add (x5_1).toNat) = some (.int .i64 (rd t216 x5_1)) ∧ w'.cell? (ad235.add ((ji41)).toNat) = some (.int .i64 (rd t216 (ji41)))) (ds := [12, 13]) q20M0 (by kernel_rfl) rfl rfl ⟨hx236_0, hx237_0⟩ (fun hHeld => ?_); refine with_tabW spec_l5Breaks.tab10 spec_l5Breaks.bits10 (fun HT_ HW_ => ?_); generalize wc.drew = w46 at HO_3 HO_4 HB hx236_0 hx237_0 hHeld ⊢; refine pure_ (i := 0) (N := some 26) (v := ?_) (a' := ?_) q20M1 rfl rfl (any_of HT_.out (by kernel_rfl)) (fun _ _ _ => id) (Or.inl ⟨by rfl, ?_⟩) ?_ ?_; rotate_left; intro w'; go_simp; (with_reducible rfl); rotate_left; simp only [Act.put, q20s, q20z, q20n, i64_w, i32_w]; rfl; refine pure_ (i := 1) (N := some 27) (v := ?_) (a' := ?_) q20M2 rfl rfl (any_of HT_.out (by kernel_rfl)) (fun _ _ _ => id) (Or.inl ⟨by rfl, ?_⟩) ?_ ?_
                rotate_left; intro w'; go_simp; (with_reducible rfl); rotate_left; simp only [Act.put, q20s, q20z, q20n, i64_w, i32_w]; rfl; refine pure_ (i := 2) (N := some 28) (v := ?_) (a' := ?_) q20M3 rfl rfl (any_of HT_.out (by kernel_rfl)) (fun _ _ _ => id) (Or.inl ⟨by rfl, ?_⟩) ?_ ?_; rotate_left; intro w'; go_simp; (with_reducible rfl); rotate_left; simp only [Act.put, q20s, q20z, q20n, i64_w, i32_w]; rfl; refine pure_ (i := 3) (N := some 29) (v := ?_) (a' := ?_) q20M4 rfl rfl (any_of HT_.out (by kernel_rfl)) (fun _ _ _ => id) (Or.inl ⟨by rfl, ?_⟩) ?_ ?_; rotate_left; intro w'; go_simp; (with_reducible rfl); rotate_left; simp only [Act.put, q20s, q20z, q20n, i64_w, i32_w]; rfl; refine pure_ (i := 5) (N := some 31) (v := ?_) (a' := ?_) q20M5 rfl rfl (any_of HT_.out (by kernel_rfl)) (fun _ _ _ => id) (Or.inl ⟨by rfl, ?_⟩) ?_ ?_; rotate_left; intro w'; go_simp; (with_reducible rfl); rotate_left; simp only [Act.put, q20s, q20z, q20n, i64_w, i32_w]; rfl; refine pure_ (i := 6) (N := some 32) (v := ?_) (a' := ?_) q20M6 rfl rfl (any_of HT_.out (by kernel_rfl)) (fun _ _ _ => id) (Or.inl ⟨by rfl, ?_⟩) ?_ ?_; rotate_left; intro w'; go_simp; (with_reducible rfl); rotate_left; simp only [Act.put, q20s, q20z, q20n, i64_w, i32_w]; rfl; refine pure_ (i := 7) (N := some 33) (v := ?_) (a' := ?_) q20M7 rfl rfl (any_of HT_.out (by kernel_rfl)) (fun _ _ _ => id) (Or.inl ⟨by rfl, ?_⟩) ?_ ?_; rotate_left; intro w'; go_simp; (with_reducible rfl); rotate_left; simp only [Act.put, q20s, q20z, q20n, i64_w, i32_w]; rfl; refine pure_ (i := 8) (N := some 34) (v := ?_) (a' := ?_) q20M8 rfl rfl (any_of HT_.out (by kernel_rfl)) (fun _ _ _ => id) (Or.inl ⟨by rfl, ?_⟩) ?_ ?_; rotate_left; intro w'; go_simp; (with_reducible rfl); rotate_left; simp only [Act.put, q20s, q20z, q20n, i64_w, i32_w]; rfl; refine pure_ (i := 10) (N := some 36) (v := ?_) (a' := ?_) q20M9 rfl rfl (any_of HT_.out (by kernel_rfl)) (fun _ _ _ => id) (Or.inl ⟨by rfl, ?_⟩) ?_ ?_; rotate_left; intro w'; go_simp; (with_reducible rfl); rotate_left; simp only [Act.put, q20s, q20z, q20n, i64_w, i32_w]; rfl; refine take_ (i := 4) (N := some 30) (v := ?_) (a' := ?_) q20M10 rfl rfl (take_ofW HT_.out HW_.out (by kernel_rfl)) (fun _ _ _ => id) (Or.inl ⟨by rfl, ?_⟩) hHeld ?_ ?_; rotate_left
                ·
                 rintro w' ⟨s0, s1⟩; go_simp; with_reducible rfl
                rotate_left
                · simp only [Act.put, q20s, q20z, q20n, i64_w, i32_w]; rfl
                refine take_ (i := 9) (N := some 35) (v := ?_) (a' := ?_) q20M11 rfl rfl (take_ofW HT_.out HW_.out (by kernel_rfl)) (fun _ _ _ => id) (Or.inl ⟨by rfl, ?_⟩) hHeld ?_ ?_; rotate_left
                ·
                 rintro w' ⟨s0, s1⟩; go_simp; with_reducible rfl
                rotate_left
                · simp only [Act.put, q20s, q20z, q20n, i64_w, i32_w]; rfl
                refine one_ (i := 11) (N := some 37) q20M12 rfl rfl (one_of HT_.out (by kernel_rfl)) (by decide) (fun K hK => ?_); refine goes_ Tryz.func127 (by kernel_rfl) rfl #[.int .i64 (rd t216 x5_1), .int .i64 (rd t216 (ji41)), .int .i64 (rd t216 t234)] (by rfl) rfl rfl (by (try simp only [List.map_toArray, List.map_cons, List.map_nil]); first | done | (simp only [hji41]; rfl) | rfl | (simp only [List.length_drop, List.length_take]; rfl)) ?_; with_reducible refine (spec_l5Place.calls kj10 (rd t216 x5_1) (rd t216 (ji41)) (rd t216 t234) t238 _ A44.out).mono ?_
                rintro e w' ⟨rfl, ⟨nd, rfl⟩⟩; refine ⟨_, rfl, ?_⟩; refine hK.out _ _ ⟨hHeld.1, hHeld.2⟩ (fun hHeld => ?_); clear hK K; refine norm_ (a' := ?_) ?_ ?_; rotate_left
                ·
                 show Act.put _ (some 37) _ = _; simp only [Act.put, q20s, q20z, q20n, i64_w, i32_w]; rfl
                refine last_ (i := 12) (N := some 38) q20M13 rfl rfl (one_of HT_.out (by kernel_rfl)) (by decide) (fun K hK => ?_); refine value_ (w1 := ?_) (v := ?_) (by rfl) rfl ?_ ?_; rotate_left 2
                ·
                 go_simp; constructor
                 · rfl
                 · rfl
                refine hK.out _ _ ?_; clear hK K; refine norm_ (a' := ?_) ?_ ?_; rotate_left
                ·
                 show Act.put _ (some 38) _ = _; simp only [Act.put, q20s, q20z, q20n, i64_w, i32_w]; rfl
                refine last_ (i := 13) (N := some 39) q20M14 rfl rfl (one_of HT_.out (by kernel_rfl)) (by decide) (fun K hK => ?_); refine Kd.R_append_step (Kd.int .i64) (w0 := w) w.heap.size (by rfl) (.tmp 26) (.tmp 38) 22 3 (.int .i64 0) 8 rfl Tryz.underlying22 info3 rfl (by decide) (by omega) u4 x4_1 t238 [.int .i64 t238] (fun k_ => some k_ ≠ (.slice (some ad235) t216.length co12 : Value).ownBlock) (fun _ => False) rfl rfl ?aP (fun _ hk => hk.elim) ?aF ?aO ?aB ?aS ?aL ?_; (case aP => exact rfl); (case aB => exact (zA HB.out)); (case aF => exact (fun k_ hk => Kd.fresh' (Kd.R_lt (zF HO_3.out)) k_ hk)); (case aO => exact (zF HO_4.out)); (case aS => exact (below_size (zA HB.out))); (case aL => have := LMc45.out; omega); intro v240 w47 ho hb hg hat; rw [← Ny239.out] at ho; have n0_ := az (Kd.R_after (ok := (fun _ => True)) (zU HO_3.out) hg hat); have n1_ := az (hb); have n2_ := az (ho); clear HO_3; clear HB; clear HO_4; have HO_3 := n0_; have HB := n1_; have HO241 := n2_; clear n0_ n1_ n2_; clear ho hb hg hat; refine hK.out _ _ ?_; clear hK K; refine norm_ (a' := ?_) ?_ ?_; rotate_left
                ·
                 show Act.put _ (some 39) _ = _; simp only [Act.put, q20s, q20z, q20n, i64_w, i32_w]; rfl
                refine pure_ (i := 14) (N := some 4) (v := ?_) (a' := ?_) q20M15 rfl rfl (any_of HT_.out (by kernel_rfl)) (fun _ _ _ => id) (Or.inl ⟨by rfl, ?_⟩) ?_ ?_; rotate_left; intro w'; go_simp; (with_reducible rfl); rotate_left; simp only [Act.put, q20s, q20z, q20n, i64_w, i32_w]; rfl; refine done_ (done_of HT_.out (by kernel_rfl)) ?_; (try go_wp2); go_roundg kj10
                case measure => have := HK1.out; have := HJ10.out; omega
                case rel => exact ⟨(y239), (ji41), (by first | rfl | (simp; done) | (simp only [← hji41] <;> (first | rfl | simp)) | (simp [*]; done)), H', ⟨zL HK1.out HJ10.out⟩, ⟨zQ HO_3.out⟩, ⟨zF HO241.out⟩, ⟨zA HB.out⟩⟩
               ·
                rw [if_neg c45] at H; exact absurd H (by simp)
              ·
               rw [if_neg c43] at H; exact absurd H (by simp)
             ·
              rw [if_neg c42] at H; exact absurd H (by simp)
            ·
             rw [if_neg c40] at H; exact absurd H (by simp)
           ·
            rw [if_neg c39] at H; exact absurd H (by simp)
          ·
           rw [if_neg c38] at H; exact absurd H (by simp)
         ·
          rw [if_neg c37] at H; exact absurd H (by simp)
        ·
         rw [if_neg c36] at H; have c36b0 : decide (0 ≤ t234) = false := decide_eq_false c36; clear c36; by_cases c48 : 0 ≤ x5_1
         ·
          rw [if_pos c48] at H; have c48b0 : decide (0 ≤ x5_1) = true := decide_eq_true c48; clear c48; by_cases c49 : x5_1 < (t216.length : Int)
          ·
           rw [if_pos c49] at H; have c49b0 : decide (x5_1 < (t216.length : Int)) = true := decide_eq_true c49; clear c49; obtain ⟨ji50, hji50⟩ : ∃ j_ : Int, (wrap64 (x5_1 + 1)) = j_ := ⟨_, rfl⟩; replace H : (if 0 ≤ (ji50) then (if (ji50) < (t216.length : Int) then ((spec_l5Place.f kj10 (rd t216 x5_1) (rd t216 (ji50)) 0).bind fun t244 => (if x4_1.length < 17592186044416 then (spec_l5Breaks.l0 kj10 l0 t216 (x4_1 ++ [t244]) ji50) else (none))) else (none)) else (none)) = some r := by first | (rw [hji50] at H; exact H) | (simp only [hji50] at H ⊢; exact H)
           (try rw [hji50] at c7b0); (try rw [hji50] at c7b1); (try rw [hji50] at A35); have hji50w : (IntKind.i64.wrap (x5_1 + 1)) = ji50 := (i64_w _).trans hji50; by_cases c51 : 0 ≤ (ji50)
           ·
            rw [if_pos c51] at H; have c51b0 : decide (0 ≤ (ji50)) = true := decide_eq_true c51; clear c51; by_cases c52 : (ji50) < (t216.length : Int)
            ·
             rw [if_pos c52] at H; have c52b0 : decide ((ji50) < (t216.length : Int)) = true := decide_eq_true c52; clear c52; replace H := Option.bind_eq_some_iff.mp H; obtain ⟨t244, A530, H⟩ := H; replace H : (if x4_1.length < 17592186044416 then (spec_l5Breaks.l0 kj10 l0 t216 (x4_1 ++ [t244]) ji50) else (none)) = some r := H; have A53 := az A530; clear A530; by_cases c54 : x4_1.length < 17592186044416
             ·
              rw [if_pos c54] at H; have LMc54 := az c54; clear c54; obtain ⟨y245, hy245⟩ : ∃ y_ : List Int, y_ = (x4_1 ++ [t244]) := ⟨_, rfl⟩; replace H : (spec_l5Breaks.l0 kj10 l0 t216 y245 ji50) = some r := by first | (rw [hy245]; with_reducible exact H) | (have H2_ := (Option.bind_some _ _).symm.trans H; rw [hy245]; with_reducible exact H2_) | (have H2_ := (Option.bind_some _ _).symm.trans H; with_reducible exact H2_) | with_reducible exact H | (rw [hy245]; exact H) | exact H
              have Ny245 := az hy245; clear hy245; have H' := az H; clear H; (try go_wp2_with (first | ((with_reducible refine gate_callee (f := 126) rfl ?_); refine goesL_ (some 19) rfl rfl Tryz.func126 (by kernel_rfl) rfl #[.slice Ao12 t216.length co12, .int .i64 x5_1] rfl zC ?_; (with_reducible refine (spec_l5Before.calls kj10 _ _ t216 x5_1 t234 _ ?side1 ?side2 A35.out).mono ?_); (case side1 => exact (zR HO_3.out)); (case side2 => exact (Kd.R_reads' HO_3.out).2.1); rintro e w' ⟨rfl, ⟨nd, rfl⟩⟩; refine ⟨_, rfl, ?_⟩))); (try (rw [drewN_self wc]; generalize hq_ : World.drewN wc _ = wc; have n0_ : Aside0 (Kd.R (Kd.int .i64) 3 wc w.heap.size (fun k_ => some k_ ≠ (u4 : Value).ownBlock) (.slice Ao12 t216.length co12) t216) := ⟨by rw [← hq_]; exact (zF HO_3.out)⟩; have n1_ : Aside0 (Kd.R (Kd.int .i64) 3 wc w.heap.size (fun k_ => some k_ ≠ (.slice Ao12 t216.length co12 : Value).ownBlock) u4 x4_1) := ⟨by rw [← hq_]; exact (zF HO_4.out)⟩; have n2_ : Aside0 (Below w.heap.size w wc) := ⟨by rw [← hq_]; exact (zA HB.out)⟩; clear HO_3 HO_4 HB hq_; have HO_3 := n0_; have HO_4 := n1_; have HB := n2_; clear n0_ n1_ n2_)); have n0_ := az (Kd.R_drew HO_3.out); have n1_ := az (Kd.R_drew HO_4.out); have n2_ := az (below_drew1 HB.out); clear HO_3; clear HO_4; clear HB; have HO_3 := n0_; have HO_4 := n1_; have HB := n2_; clear n0_ n1_ n2_; have p242 : 0 ≤ (x5_1 : Int) := of_decide_eq_true (by assumption); have q242 : x5_1 < (t216.length : Int) := of_decide_eq_true (by assumption); obtain ⟨ad242, e242, hx242_0⟩ := Kd.at_int (Kd.R_reads' HO_3.out).2.2 x5_1 p242 q242
              cases e242
              replace p242 := eq_true p242; replace q242 := eq_true q242; have p243 : 0 ≤ ((ji50) : Int) := of_decide_eq_true (by assumption); have q243 : (ji50) < (t216.length : Int) := of_decide_eq_true (by assumption); obtain ⟨ad243, e243, hx243_0⟩ := Kd.at_int (Kd.R_reads' HO_3.out).2.2 (ji50) p243 q243; obtain rfl : ad242 = ad243 := (by injection e243); replace p243 := eq_true p243; replace q243 := eq_true q243; refine start_ (n := 15) (S := fun w' => w'.cell? (ad242.add (x5_1).toNat) = some (.int .i64 (rd t216 x5_1)) ∧ w'.cell? (ad242.add ((ji50)).toNat) = some (.int .i64 (rd t216 (ji50)))) (ds := [12, 13]) q20M0 (by kernel_rfl) rfl rfl ⟨hx242_0, hx243_0⟩ (fun hHeld => ?_); refine with_tabW spec_l5Breaks.tab10 spec_l5Breaks.bits10 (fun HT_ HW_ => ?_); generalize wc.drew = w55 at HO_3 HO_4 HB hx242_0 hx243_0 hHeld ⊢; refine pure_ (i := 0) (N := some 26) (v := ?_) (a' := ?_) q20M1 rfl rfl (any_of HT_.out (by kernel_rfl)) (fun _ _ _ => id) (Or.inl ⟨by rfl, ?_⟩) ?_ ?_; rotate_left; intro w'; go_simp; (with_reducible rfl); rotate_left; simp only [Act.put, q20s, q20z, q20n, i64_w, i32_w]; rfl; refine pure_ (i := 1) (N := some 27) (v := ?_) (a' := ?_) q20M2 rfl rfl (any_of HT_.out (by kernel_rfl)) (fun _ _ _ => id) (Or.inl ⟨by rfl, ?_⟩) ?_ ?_; rotate_left; intro w'; go_simp; (with_reducible rfl); rotate_left; simp only [Act.put, q20s, q20z, q20n, i64_w, i32_w]; rfl; refine pure_ (i := 2) (N := some 28) (v := ?_) (a' := ?_) q20M3 rfl rfl (any_of HT_.out (by kernel_rfl)) (fun _ _ _ => id) (Or.inl ⟨by rfl, ?_⟩) ?_ ?_; rotate_left; intro w'; go_simp; (with_reducible rfl); rotate_left; simp only [Act.put, q20s, q20z, q20n, i64_w, i32_w]; rfl; refine pure_ (i := 3) (N := some 29) (v := ?_) (a' := ?_) q20M4 rfl rfl (any_of HT_.out (by kernel_rfl)) (fun _ _ _ => id) (Or.inl ⟨by rfl, ?_⟩) ?_ ?_; rotate_left; intro w'; go_simp; (with_reducible rfl); rotate_left; simp only [Act.put, q20s, q20z, q20n, i64_w, i32_w]; rfl; refine pure_ (i := 5) (N := some 31) (v := ?_) (a' := ?_) q20M5 rfl rfl (any_of HT_.out (by kernel_rfl)) (fun _ _ _ => id) (Or.inl ⟨by rfl, ?_⟩) ?_ ?_; rotate_left; intro w'; go_simp; (with_reducible rfl); rotate_left; simp only [Act.put, q20s, q20z, q20n, i64_w, i32_w]; rfl; refine pure_ (i := 6) (N := some 32) (v := ?_) (a' := ?_) q20M6 rfl rfl (any_of HT_.out (by kernel_rfl)) (fun _ _ _ => id) (Or.inl ⟨by rfl, ?_⟩) ?_ ?_; rotate_left; intro w'; go_simp; (with_reducible rfl); rotate_left; simp only [Act.put, q20s, q20z, q20n, i64_w, i32_w]; rfl; refine pure_ (i := 7) (N := some 33) (v := ?_) (a' := ?_) q20M7 rfl rfl (any_of HT_.out (by kernel_rfl)) (fun _ _ _ => id) (Or.inl ⟨by rfl, ?_⟩) ?_ ?_; rotate_left; intro w'; go_simp; (with_reducible rfl); rotate_left; simp only [Act.put, q20s, q20z, q20n, i64_w, i32_w]; rfl; refine pure_ (i := 8) (N := some 34) (v := ?_) (a' := ?_) q20M8 rfl rfl (any_of HT_.out (by kernel_rfl)) (fun _ _ _ => id) (Or.inl ⟨by rfl, ?_⟩) ?_ ?_; rotate_left; intro w'; go_simp; (with_reducible rfl); rotate_left; simp only [Act.put, q20s, q20z, q20n, i64_w, i32_w]; rfl; refine pure_ (i := 10) (N := some 36) (v := ?_) (a' := ?_) q20M9 rfl rfl (any_of HT_.out (by kernel_rfl)) (fun _ _ _ => id) (Or.inl ⟨by rfl, ?_⟩) ?_ ?_; rotate_left; intro w'; go_simp; (with_reducible rfl); rotate_left; simp only [Act.put, q20s, q20z, q20n, i64_w, i32_w]; rfl; refine take_ (i := 4) (N := some 30) (v := ?_) (a' := ?_) q20M10 rfl rfl (take_ofW HT_.out HW_.out (by kernel_rfl)) (fun _ _ _ => id) (Or.inl ⟨by rfl, ?_⟩) hHeld ?_ ?_; rotate_left
              ·
               rintro w' ⟨s0, s1⟩; go_simp; with_reducible rfl
              rotate_left
              · simp only [Act.put, q20s, q20z, q20n, i64_w, i32_w]; rfl
              refine take_ (i := 9) (N := some 35) (v := ?_) (a' := ?_) q20M11 rfl rfl (take_ofW HT_.out HW_.out (by kernel_rfl)) (fun _ _ _ => id) (Or.inl ⟨by rfl, ?_⟩) hHeld ?_ ?_; rotate_left
              ·
               rintro w' ⟨s0, s1⟩; go_simp; with_reducible rfl
              rotate_left
              · simp only [Act.put, q20s, q20z, q20n, i64_w, i32_w]; rfl
              refine one_ (i := 11) (N := some 37) q20M12 rfl rfl (one_of HT_.out (by kernel_rfl)) (by decide) (fun K hK => ?_); refine goes_ Tryz.func127 (by kernel_rfl) rfl #[.int .i64 (rd t216 x5_1), .int .i64 (rd t216 (ji50)), .int .i64 0] (by rfl) rfl rfl (by (try simp only [List.map_toArray, List.map_cons, List.map_nil]); first | done | (simp only [hji50]; rfl) | rfl | (simp only [List.length_drop, List.length_take]; rfl)) ?_; with_reducible refine (spec_l5Place.calls kj10 (rd t216 x5_1) (rd t216 (ji50)) 0 t244 _ A53.out).mono ?_
              rintro e w' ⟨rfl, ⟨nd, rfl⟩⟩; refine ⟨_, rfl, ?_⟩; refine hK.out _ _ ⟨hHeld.1, hHeld.2⟩ (fun hHeld => ?_); clear hK K; refine norm_ (a' := ?_) ?_ ?_; rotate_left
              ·
               show Act.put _ (some 37) _ = _; simp only [Act.put, q20s, q20z, q20n, i64_w, i32_w]; rfl
              refine last_ (i := 12) (N := some 38) q20M13 rfl rfl (one_of HT_.out (by kernel_rfl)) (by decide) (fun K hK => ?_); refine value_ (w1 := ?_) (v := ?_) (by rfl) rfl ?_ ?_; rotate_left 2
              ·
               go_simp; constructor
               · rfl
               · rfl
              refine hK.out _ _ ?_; clear hK K; refine norm_ (a' := ?_) ?_ ?_; rotate_left
              ·
               show Act.put _ (some 38) _ = _; simp only [Act.put, q20s, q20z, q20n, i64_w, i32_w]; rfl
              refine last_ (i := 13) (N := some 39) q20M14 rfl rfl (one_of HT_.out (by kernel_rfl)) (by decide) (fun K hK => ?_); refine Kd.R_append_step (Kd.int .i64) (w0 := w) w.heap.size (by rfl) (.tmp 26) (.tmp 38) 22 3 (.int .i64 0) 8 rfl Tryz.underlying22 info3 rfl (by decide) (by omega) u4 x4_1 t244 [.int .i64 t244] (fun k_ => some k_ ≠ (.slice (some ad242) t216.length co12 : Value).ownBlock) (fun _ => False) rfl rfl ?aP (fun _ hk => hk.elim) ?aF ?aO ?aB ?aS ?aL ?_; (case aP => exact rfl); (case aB => exact (zA HB.out)); (case aF => exact (fun k_ hk => Kd.fresh' (Kd.R_lt (zF HO_3.out)) k_ hk)); (case aO => exact (zF HO_4.out)); (case aS => exact (below_size (zA HB.out))); (case aL => have := LMc54.out; omega); intro v246 w56 ho hb hg hat; rw [← Ny245.out] at ho; have n0_ := az (Kd.R_after (ok := (fun _ => True)) (zU HO_3.out) hg hat); have n1_ := az (hb); have n2_ := az (ho); clear HO_3; clear HB; clear HO_4; have HO_3 := n0_; have HB := n1_; have HO247 := n2_; clear n0_ n1_ n2_; clear ho hb hg hat; refine hK.out _ _ ?_; clear hK K; refine norm_ (a' := ?_) ?_ ?_; rotate_left
              ·
               show Act.put _ (some 39) _ = _; simp only [Act.put, q20s, q20z, q20n, i64_w, i32_w]; rfl
              refine pure_ (i := 14) (N := some 4) (v := ?_) (a' := ?_) q20M15 rfl rfl (any_of HT_.out (by kernel_rfl)) (fun _ _ _ => id) (Or.inl ⟨by rfl, ?_⟩) ?_ ?_; rotate_left; intro w'; go_simp; (with_reducible rfl); rotate_left; simp only [Act.put, q20s, q20z, q20n, i64_w, i32_w]; rfl; refine done_ (done_of HT_.out (by kernel_rfl)) ?_; (try go_wp2); go_roundg kj10
              case measure => have := HK1.out; have := HJ10.out; omega
              case rel => exact ⟨(y245), (ji50), (by first | rfl | (simp; done) | (simp only [← hji50] <;> (first | rfl | simp)) | (simp [*]; done)), H', ⟨zL HK1.out HJ10.out⟩, ⟨zQ HO_3.out⟩, ⟨zF HO247.out⟩, ⟨zA HB.out⟩⟩
             ·
              rw [if_neg c54] at H; exact absurd H (by simp)
            ·
             rw [if_neg c52] at H; exact absurd H (by simp)
           ·
            rw [if_neg c51] at H; exact absurd H (by simp)
          ·
           rw [if_neg c49] at H; exact absurd H (by simp)
         ·
          rw [if_neg c48] at H; exact absurd H (by simp)
   ·
    rw [if_neg c6] at H; have c6b0 : decide (x5_1 < (t216.length : Int)) = false := decide_eq_false c6; clear c6; obtain rfl := Option.some.inj H; obtain ⟨Ao57, co57, eo57⟩ := Kd.R_slice HO_3.out; subst eo57; go_wp2; go_ret; exact ⟨_, zG, by (with_reducible repeat (first | apply Kd.R_alloc | apply Kd.R_drewN | apply Kd.R_drew)); exact Kd.R_mono HO_4.out (fun _ hk => trivial), zA HB.out⟩
def spec_l1Has.l0 : Nat → List Int → Int → Int → Option (Bool)
 | 0, _, _, _ => none
 | k + 1, x0, x1, x5 => if x5 < (x0.length : Int) then (if 0 ≤ x5 then (if (rd x0 x5) = x1 then (some true) else (spec_l1Has.l0 k x0 x1 (wrap64 (x5 + 1)))) else (none)) else (some false)
def spec_l1Has.f (k : Nat) (l0 : List Int) (a1 : Int) : Option (Bool) := spec_l1Has.l0 k l0 a1 0
theorem spec_l1Has.mono_l : ∀ k, (∀ y0 y1 y2, LeO (spec_l1Has.l0 k y0 y1 y2) (spec_l1Has.l0 (k + 1) y0 y1 y2))
 | 0 => fun _ _ _ r h => by simp [spec_l1Has.l0] at h
 | k + 1 => by
  have ih0 := spec_l1Has.mono_l k
  ·
   intro y0 y1 y2; unfold spec_l1Has.l0
   repeat' first
   | (with_reducible exact ih0 _ _ _)
   | (with_reducible exact LeO.refl _)
   | (with_reducible exact LeO.none _)
   | (with_reducible refine LeO.ite ?_ ?_)
   | (with_reducible refine LeO.bind ?_ (fun _ => ?_))
   | exact ih0 _ _ _
   | exact LeO.none _
   | refine LeO.ite ?_ ?_
   | refine LeO.bind ?_ (fun _ => ?_)
theorem spec_l1Has.mono : ∀ a0 a1 k, LeO (spec_l1Has.f k a0 a1) (spec_l1Has.f (k + 1) a0 a1) := by
 intro a0 a1 k; have ih0 := spec_l1Has.mono_l k; unfold spec_l1Has.f
 repeat' first
   | (with_reducible exact ih0 _ _ _)
   | (with_reducible exact LeO.refl _)
   | (with_reducible exact LeO.none _)
   | (with_reducible refine LeO.ite ?_ ?_)
   | (with_reducible refine LeO.bind ?_ (fun _ => ?_))
   | exact ih0 _ _ _
   | exact LeO.none _
   | refine LeO.ite ?_ ?_
   | refine LeO.bind ?_ (fun _ => ?_)
theorem spec_l1Has.calls (k : Nat) (A0 : Option Addr) (c0 : Nat) (l0 : List Int) (a1 : Int) (r : Bool) (w : World) (hr0 : Kd.C (Kd.int .i64) w A0 l0.length l0) (hc0 : l0.length ≤ c0) (h : spec_l1Has.f k l0 a1 = some r) :
  Calls Tryz.prog 143 #[.slice A0 l0.length c0, .int .i64 a1] w fun e w' => e = .returned (.bool r) ∧ Drawn0 w w' := by
 have HR0 := az hr0; have HC0 := az hc0; clear hr0 hc0; have H : (spec_l1Has.l0 k l0 a1 0) = some r := h; clear h; have H' := az H; clear H; go_enter Tryz.func143, Tryz.ntmps143; go_wp2; go_loopg [5] k (fun kq v5 w' => ∃ (x5_1 : Int), v5 = .int .i64 x5_1 ∧ Aside0 (spec_l1Has.l0 kq l0 a1 x5_1 = some r) ∧ Aside0 (kq ≤ k) ∧ Drawn0 w w')
 case atStart => exact ⟨(0), zB, H', ⟨Nat.le_refl _⟩, zD⟩
 case round =>
  clear H'; (try clear c1); (try clear p2); obtain ⟨x5_1, rfl, HA, HK1, ⟨m1, rfl⟩⟩ := hrel
  cases gk with
  | zero => exact absurd HA.out (by simp [spec_l1Has.l0])
  | succ k1 =>
   have H := HA.out; clear HA; simp only [spec_l1Has.l0] at H; by_cases c3 : x5_1 < (l0.length : Int)
   ·
    rw [if_pos c3] at H; have c3b0 : decide (x5_1 < (l0.length : Int)) = true := decide_eq_true c3; clear c3; by_cases c4 : 0 ≤ x5_1
    ·
     rw [if_pos c4] at H; have c4b0 : decide (0 ≤ x5_1) = true := decide_eq_true c4; clear c4; by_cases c5 : (rd l0 x5_1) = a1
     ·
      rw [if_pos c5] at H; have c5b0 : ((rd l0 x5_1) == a1) = true := beq_iff_eq.mpr c5; have c5b1 : ((rd l0 x5_1) != a1) = false := bne_eq_false_iff_eq.mpr c5; clear c5; obtain rfl := Option.some.inj H; have p146 : 0 ≤ (x5_1 : Int) := of_decide_eq_true (by assumption); have q146 : x5_1 < (l0.length : Int) := of_decide_eq_true (by assumption); obtain ⟨ad146, e146, hx146_0⟩ := Kd.at_int HR0.out x5_1 p146 q146
      cases e146
      replace p146 := eq_true p146; replace q146 := eq_true q146; go_wp2; go_ret; exact ⟨zB, zD⟩
     ·
      rw [if_neg c5] at H; have c5b0 : ((rd l0 x5_1) == a1) = false := beq_eq_false_iff_ne.mpr c5; have c5b1 : ((rd l0 x5_1) != a1) = true := bne_iff_ne.mpr c5; have H' := az H; clear H; have p146 : 0 ≤ (x5_1 : Int) := of_decide_eq_true (by assumption); have q146 : x5_1 < (l0.length : Int) := of_decide_eq_true (by assumption); obtain ⟨ad146, e146, hx146_0⟩ := Kd.at_int HR0.out x5_1 p146 q146
      cases e146
      replace p146 := eq_true p146; replace q146 := eq_true q146; go_wp2; go_roundg k1
      case measure => have := HK1.out; omega
      case rel => exact ⟨(wrap64 (x5_1 + 1)), zB, H', ⟨zE HK1.out⟩, zD⟩
    ·
     rw [if_neg c4] at H; exact absurd H (by simp)
   ·
    rw [if_neg c3] at H; have c3b0 : decide (x5_1 < (l0.length : Int)) = false := decide_eq_false c3; clear c3; obtain rfl := Option.some.inj H; go_wp2; go_ret; exact ⟨zB, zD⟩
mutual
def spec_RuneWide.j0 : Nat → Int → Int → Bool → Option (Int)
 | 0, _, _, _ => none
 | k + 1, x0, x3, x6 => if x6 = true then (some 0) else ((spec_l1Has.f k (([105, 106, 108, 102, 116] : List Int)) x0).bind fun t151 => (if t151 = true then (some 6) else (if x0 = 109 then (spec_RuneWide.j1 k x0 x3 true) else (spec_RuneWide.j1 k x0 x3 (x0 == 119)))))
def spec_RuneWide.j1 : Nat → Int → Int → Bool → Option (Int)
 | 0, _, _, _ => none
 | k + 1, x0, x3, x29 => if x29 = true then (some 16) else ((spec_l1In.f x0 19968 40959).bind fun t152 => (if t152 = true then (some 20) else (if x3 = 2 then (spec_RuneWide.j2 k x3 true) else (spec_RuneWide.j2 k x3 (x3 == 3)))))
def spec_RuneWide.j2 : Nat → Int → Bool → Option (Int)
 | 0, _, _ => none
 | k + 1, x3, x39 => if x39 = true then (some 12) else (if x3 = 11 then (some 40) else (if x3 = 12 then (some 6) else (if x3 = 8 then (some 6) else (some 10))))
end
def spec_RuneWide.f (k : Nat) (a0 : Int) : Option (Int) := (spec_RuneBidi.f k a0).bind fun t147 => (if t147 = 9 then (spec_RuneWide.j0 k a0 t147 true) else (if t147 = 10 then (spec_RuneWide.j0 k a0 t147 true) else (if t147 ≥ 14 then (spec_RuneWide.j0 k a0 t147 true) else (if a0 = 10 then (spec_RuneWide.j0 k a0 t147 true) else (spec_RuneWide.j0 k a0 t147 (a0 == 13))))))
theorem spec_RuneWide.mono_l : ∀ k, (∀ y0 y1 y2, LeO (spec_RuneWide.j0 k y0 y1 y2) (spec_RuneWide.j0 (k + 1) y0 y1 y2)) ∧ (∀ y0 y1 y2, LeO (spec_RuneWide.j1 k y0 y1 y2) (spec_RuneWide.j1 (k + 1) y0 y1 y2)) ∧ (∀ y0 y1, LeO (spec_RuneWide.j2 k y0 y1) (spec_RuneWide.j2 (k + 1) y0 y1))
 | 0 => ⟨fun _ _ _ r h => by simp [spec_RuneWide.j0] at h, fun _ _ _ r h => by simp [spec_RuneWide.j1] at h, fun _ _ r h => by simp [spec_RuneWide.j2] at h⟩
 | k + 1 => by
  obtain ⟨ih0, ih1, ih2⟩ := spec_RuneWide.mono_l k; refine ⟨?_, ?_, ?_⟩
  ·
   intro y0 y1 y2; unfold spec_RuneWide.j0
   repeat' first
   | (with_reducible exact ih0 _ _ _)
   | (with_reducible exact ih1 _ _ _)
   | (with_reducible exact ih2 _ _)
   | (with_reducible exact spec_RuneBidi.mono _ _)
   | (with_reducible exact spec_l1Has.mono _ _ _)
   | (with_reducible exact LeO.refl _)
   | (with_reducible exact LeO.none _)
   | (with_reducible refine LeO.ite ?_ ?_)
   | (with_reducible refine LeO.bind ?_ (fun _ => ?_))
   | exact ih0 _ _ _
   | exact ih1 _ _ _
   | exact ih2 _ _
   | exact spec_RuneBidi.mono _ _
   | exact spec_l1Has.mono _ _ _
   | exact LeO.none _
   | refine LeO.ite ?_ ?_
   | refine LeO.bind ?_ (fun _ => ?_)
  ·
   intro y0 y1 y2; unfold spec_RuneWide.j1
   repeat' first
   | (with_reducible exact ih0 _ _ _)
   | (with_reducible exact ih1 _ _ _)
   | (with_reducible exact ih2 _ _)
   | (with_reducible exact spec_RuneBidi.mono _ _)
   | (with_reducible exact spec_l1Has.mono _ _ _)
   | (with_reducible exact LeO.refl _)
   | (with_reducible exact LeO.none _)
   | (with_reducible refine LeO.ite ?_ ?_)
   | (with_reducible refine LeO.bind ?_ (fun _ => ?_))
   | exact ih0 _ _ _
   | exact ih1 _ _ _
   | exact ih2 _ _
   | exact spec_RuneBidi.mono _ _
   | exact spec_l1Has.mono _ _ _
   | exact LeO.none _
   | refine LeO.ite ?_ ?_
   | refine LeO.bind ?_ (fun _ => ?_)
  ·
   intro y0 y1; unfold spec_RuneWide.j2
   repeat' first
   | (with_reducible exact ih0 _ _ _)
   | (with_reducible exact ih1 _ _ _)
   | (with_reducible exact ih2 _ _)
   | (with_reducible exact spec_RuneBidi.mono _ _)
   | (with_reducible exact spec_l1Has.mono _ _ _)
   | (with_reducible exact LeO.refl _)
   | (with_reducible exact LeO.none _)
   | (with_reducible refine LeO.ite ?_ ?_)
   | (with_reducible refine LeO.bind ?_ (fun _ => ?_))
   | exact ih0 _ _ _
   | exact ih1 _ _ _
   | exact ih2 _ _
   | exact spec_RuneBidi.mono _ _
   | exact spec_l1Has.mono _ _ _
   | exact LeO.none _
   | refine LeO.ite ?_ ?_
   | refine LeO.bind ?_ (fun _ => ?_)
theorem spec_RuneWide.mono : ∀ a0 k, LeO (spec_RuneWide.f k a0) (spec_RuneWide.f (k + 1) a0) := by
 intro a0 k; obtain ⟨ih0, ih1, ih2⟩ := spec_RuneWide.mono_l k; unfold spec_RuneWide.f
 repeat' first
   | (with_reducible exact ih0 _ _ _)
   | (with_reducible exact ih1 _ _ _)
   | (with_reducible exact ih2 _ _)
   | (with_reducible exact spec_RuneBidi.mono _ _)
   | (with_reducible exact spec_l1Has.mono _ _ _)
   | (with_reducible exact LeO.refl _)
   | (with_reducible exact LeO.none _)
   | (with_reducible refine LeO.ite ?_ ?_)
   | (with_reducible refine LeO.bind ?_ (fun _ => ?_))
   | exact ih0 _ _ _
   | exact ih1 _ _ _
   | exact ih2 _ _
   | exact spec_RuneBidi.mono _ _
   | exact spec_l1Has.mono _ _ _
   | exact LeO.none _
   | refine LeO.ite ?_ ?_
   | refine LeO.bind ?_ (fun _ => ?_)
theorem spec_RuneWide.calls (k : Nat) (a0 : Int) (r : Int) (w : World) (h : spec_RuneWide.f k a0 = some r) :
  Calls Tryz.prog 136 #[.int .i64 a0] w fun e w' => e = .returned (.int .i64 r) ∧ Below w.heap.size w w' := by
 have HB := az (Below.refl w.heap.size w); have H : ((spec_RuneBidi.f k a0).bind fun t147 => (if t147 = 9 then (spec_RuneWide.j0 k a0 t147 true) else (if t147 = 10 then (spec_RuneWide.j0 k a0 t147 true) else (if t147 ≥ 14 then (spec_RuneWide.j0 k a0 t147 true) else (if a0 = 10 then (spec_RuneWide.j0 k a0 t147 true) else (spec_RuneWide.j0 k a0 t147 (a0 == 13))))))) = some r := h; clear h; replace H := Option.bind_eq_some_iff.mp H; obtain ⟨t147, A20, H⟩ := H; replace H : (if t147 = 9 then (spec_RuneWide.j0 k a0 t147 true) else (if t147 = 10 then (spec_RuneWide.j0 k a0 t147 true) else (if t147 ≥ 14 then (spec_RuneWide.j0 k a0 t147 true) else (if a0 = 10 then (spec_RuneWide.j0 k a0 t147 true) else (spec_RuneWide.j0 k a0 t147 (a0 == 13)))))) = some r := H; have A2 := az A20; clear A20; have HC3 := az H; clear H; go_enter Tryz.func136, Tryz.ntmps136; go_upto_region 2 with (first | ((with_reducible refine gate_callee (f := 137) rfl ?_); refine goesL_ (some 5) rfl rfl Tryz.func137 (by kernel_rfl) rfl #[.int .i64 a0] rfl zC ?_; (with_reducible refine (spec_RuneBidi.calls k a0 t147 _ A2.out).mono ?_); rintro e w4 ⟨rfl, hb⟩; refine ⟨_, rfl, ?_⟩; have n0_ := az (below_step (zA HB.out) hb); clear HB; have HB := n0_; clear n0_; (try clear hb); (try clear hb2); (try clear hk); (try clear hi)))
 (try simp only [Act.put, List.setIfInBounds_toArray, List.set_cons_zero, List.set_cons_succ]); go_cut [6] (fun v6 wc => ∃ (kq : Nat) (x6_2 : Bool), v6 = .bool x6_2 ∧ Aside0 (spec_RuneWide.j0 kq a0 t147 x6_2 = some r) ∧ Aside0 (kq ≤ k) ∧ Aside0 (Below w.heap.size w wc))
 case first =>
  have H := HC3.out; clear HC3; by_cases c5 : t147 = 9
  ·
   rw [if_pos c5] at H; have c5b0 : (t147 == 9) = true := beq_iff_eq.mpr c5; have c5b1 : (t147 != 9) = false := bne_eq_false_iff_eq.mpr c5; clear c5; (first | rw [c5b0] | (simp only [i64_w, i32_w]; rw [c5b0]) | skip); have H' := az H; clear H; go_wp2; go_meet
   case rel => exact ⟨_, (true), zB, H', ⟨zJ⟩, ⟨zA HB.out⟩⟩
  ·
   rw [if_neg c5] at H; have c5b0 : (t147 == 9) = false := beq_eq_false_iff_ne.mpr c5; have c5b1 : (t147 != 9) = true := bne_iff_ne.mpr c5; (first | rw [c5b0] | (simp only [i64_w, i32_w]; rw [c5b0]) | skip); by_cases c6 : t147 = 10
   ·
    rw [if_pos c6] at H; have c6b0 : (t147 == 10) = true := beq_iff_eq.mpr c6; have c6b1 : (t147 != 10) = false := bne_eq_false_iff_eq.mpr c6; clear c6; have H' := az H; clear H; go_wp2; go_meet
    case rel => exact ⟨_, (true), zB, H', ⟨zJ⟩, ⟨zA HB.out⟩⟩
   ·
    rw [if_neg c6] at H; have c6b0 : (t147 == 10) = false := beq_eq_false_iff_ne.mpr c6; have c6b1 : (t147 != 10) = true := bne_iff_ne.mpr c6; by_cases c7 : t147 ≥ 14
    ·
     rw [if_pos c7] at H; have c7b0 : decide (14 ≤ t147) = true := decide_eq_true c7; clear c7; have H' := az H; clear H; go_wp2; go_meet
     case rel => exact ⟨_, (true), zB, H', ⟨zJ⟩, ⟨zA HB.out⟩⟩
    ·
     rw [if_neg c7] at H; have c7b0 : decide (14 ≤ t147) = false := decide_eq_false c7; clear c7; by_cases c8 : a0 = 10
     ·
      rw [if_pos c8] at H; have c8b0 : (a0 == 10) = true := beq_iff_eq.mpr c8; have c8b1 : (a0 != 10) = false := bne_eq_false_iff_eq.mpr c8; clear c8; have H' := az H; clear H; go_wp2; go_meet
      case rel => exact ⟨_, (true), zB, H', ⟨zJ⟩, ⟨zA HB.out⟩⟩
     ·
      rw [if_neg c8] at H; have c8b0 : (a0 == 10) = false := beq_eq_false_iff_ne.mpr c8; have c8b1 : (a0 != 10) = true := bne_iff_ne.mpr c8; have H' := az H; clear H; go_wp2; go_meet
      case rel => exact ⟨_, ((a0 == 13)), zB, H', ⟨zJ⟩, ⟨zA HB.out⟩⟩
 case rest =>
  clear HC3; (try clear c1); (try clear p2); (try clear c5); (try clear c5b0); (try clear c5b1); (try clear c6); (try clear c6b0); (try clear c6b1); (try clear c7); (try clear c7b0); (try clear c8); (try clear c8b0); (try clear c8b1); obtain ⟨kq, x6_2, rfl, HA, HJ2, HB⟩ := hcut
  cases kq with
  | zero => exact absurd HA.out (by simp [spec_RuneWide.j0])
  | succ kj2 =>
   have H := HA.out; clear HA; simp only [spec_RuneWide.j0] at H; by_cases c9 : x6_2 = true
   ·
    subst c9; have H1 : (some 0) = some r := by rw [if_pos rfl] at H; exact H
    clear H; have H := H1; clear H1; obtain rfl := Option.some.inj H; go_wp2; go_ret; exact ⟨zG, zA HB.out⟩
   ·
    replace c9 := Bool.eq_false_iff.mpr c9; subst c9; have H1 : ((spec_l1Has.f kj2 (([105, 106, 108, 102, 116] : List Int)) a0).bind fun t151 => (if t151 = true then (some 6) else (if a0 = 109 then (spec_RuneWide.j1 kj2 a0 t147 true) else (spec_RuneWide.j1 kj2 a0 t147 (a0 == 119))))) = some r := by rw [if_neg (show ¬ (false = true) by decide)] at H; exact H
    clear H; have H := H1; clear H1; obtain ⟨y148, hy148⟩ : ∃ y_ : List Int, y_ = (([105, 106, 108, 102, 116] : List Int)) := ⟨_, rfl⟩; replace H : ((spec_l1Has.f kj2 y148 a0).bind fun t151 => (if t151 = true then (some 6) else (if a0 = 109 then (spec_RuneWide.j1 kj2 a0 t147 true) else (spec_RuneWide.j1 kj2 a0 t147 (a0 == 119))))) = some r := by first | (rw [hy148]; with_reducible exact H) | (have H2_ := (Option.bind_some _ _).symm.trans H; rw [hy148]; with_reducible exact H2_) | (have H2_ := (Option.bind_some _ _).symm.trans H; with_reducible exact H2_) | with_reducible exact H | (rw [hy148]; exact H) | exact H
    have Ny148 := az hy148; clear hy148; replace H := Option.bind_eq_some_iff.mp H; obtain ⟨t151, A100, H⟩ := H; replace H : (if t151 = true then (some 6) else (if a0 = 109 then (spec_RuneWide.j1 kj2 a0 t147 true) else (spec_RuneWide.j1 kj2 a0 t147 (a0 == 119)))) = some r := H; have A10 := az A100; clear A100; by_cases c11 : t151 = true
    ·
     subst c11; have H1 : (some 6) = some r := by rw [if_pos rfl] at H; exact H
     clear H; have H := H1; clear H1; obtain rfl := Option.some.inj H; go_wp2_with (first | ((with_reducible refine gate_dst (N := 26) rfl ?_); refine Kd.R_lit (Kd.int .i64) _ 3 ?hg (N := 26) ?hd (xs := ([105, 106, 108, 102, 116] : List Int)) (inner := [.int .i64 105, .int .i64 106, .int .i64 108, .int .i64 102, .int .i64 116]) (ok := fun _ => True) (okp := fun _ => True) ?hr ?hp (fun _ hk => hk) trivial (Below.refl _ _) (Nat.le_refl _) (by simp) ?_; (case hd => rfl); (case hg => rfl); (case hr => first | (go_simp; done) | (go_simp; rfl)); (case hp => exact (Reps.one (show Kd.M (Kd.int .i64) _ _ _ 105 [.int .i64 105] from rfl) (Reps.one (show Kd.M (Kd.int .i64) _ _ _ 106 [.int .i64 106] from rfl) (Reps.one (show Kd.M (Kd.int .i64) _ _ _ 108 [.int .i64 108] from rfl) (Reps.one (show Kd.M (Kd.int .i64) _ _ _ 102 [.int .i64 102] from rfl) (Reps.one (show Kd.M (Kd.int .i64) _ _ _ 116 [.int .i64 116] from rfl) (Reps.none _ _))))))); intro v149 w12 ho13 hb hg_ hnew_; clear hg_ hnew_; (first | rw [← Ny148.out] at ho13 | (simp only [Int.reduceToNat] at ho13; rw [← Ny148.out] at ho13)); have n0_ := az (Kd.R_lower ho13 (below_size (zA HB.out))); have n1_ := az (below_step (zA HB.out) hb); clear HB; have HO150 := n0_; have HB := n1_; clear n0_ n1_; clear hb ho13; obtain ⟨Ao14, co14, eo14⟩ := Kd.R_slice HO150.out; subst eo14) | ((with_reducible refine gate_callee (f := 143) rfl ?_); refine goesL_ (some 28) rfl rfl Tryz.func143 (by kernel_rfl) rfl #[.slice Ao14 y148.length co14, .int .i64 a0] rfl zC ?_; (with_reducible refine (spec_l1Has.calls kj2 _ _ y148 a0 true _ ?side1 ?side2 A10.out).mono ?_); (case side1 => exact (zR HO150.out)); (case side2 => exact (Kd.R_reads' HO150.out).2.1); rintro e w' ⟨rfl, ⟨nd, rfl⟩⟩; refine ⟨_, rfl, ?_⟩)); go_ret; exact ⟨zG, zA HB.out⟩
    ·
     replace c11 := Bool.eq_false_iff.mpr c11; subst c11; have H1 : (if a0 = 109 then (spec_RuneWide.j1 kj2 a0 t147 true) else (spec_RuneWide.j1 kj2 a0 t147 (a0 == 119))) = some r := by rw [if_neg (show ¬ (false = true) by decide)] at H; exact H
     clear H; have H := H1; clear H1; have HC15 := az H; clear H; go_upto_region 6 with (first | ((with_reducible refine gate_dst (N := 26) rfl ?_); refine Kd.R_lit (Kd.int .i64) _ 3 ?hg (N := 26) ?hd (xs := ([105, 106, 108, 102, 116] : List Int)) (inner := [.int .i64 105, .int .i64 106, .int .i64 108, .int .i64 102, .int .i64 116]) (ok := fun _ => True) (okp := fun _ => True) ?hr ?hp (fun _ hk => hk) trivial (Below.refl _ _) (Nat.le_refl _) (by simp) ?_; (case hd => rfl); (case hg => rfl); (case hr => first | (go_simp; done) | (go_simp; rfl)); (case hp => exact (Reps.one (show Kd.M (Kd.int .i64) _ _ _ 105 [.int .i64 105] from rfl) (Reps.one (show Kd.M (Kd.int .i64) _ _ _ 106 [.int .i64 106] from rfl) (Reps.one (show Kd.M (Kd.int .i64) _ _ _ 108 [.int .i64 108] from rfl) (Reps.one (show Kd.M (Kd.int .i64) _ _ _ 102 [.int .i64 102] from rfl) (Reps.one (show Kd.M (Kd.int .i64) _ _ _ 116 [.int .i64 116] from rfl) (Reps.none _ _))))))); intro v149 w16 ho17 hb hg_ hnew_; clear hg_ hnew_; (first | rw [← Ny148.out] at ho17 | (simp only [Int.reduceToNat] at ho17; rw [← Ny148.out] at ho17)); have n0_ := az (Kd.R_lower ho17 (below_size (zA HB.out))); have n1_ := az (below_step (zA HB.out) hb); clear HB; have HO150 := n0_; have HB := n1_; clear n0_ n1_; clear hb ho17; obtain ⟨Ao18, co18, eo18⟩ := Kd.R_slice HO150.out; subst eo18) | ((with_reducible refine gate_callee (f := 143) rfl ?_); refine goesL_ (some 28) rfl rfl Tryz.func143 (by kernel_rfl) rfl #[.slice Ao18 y148.length co18, .int .i64 a0] rfl zC ?_; (with_reducible refine (spec_l1Has.calls kj2 _ _ y148 a0 false _ ?side1 ?side2 A10.out).mono ?_); (case side1 => exact (zR HO150.out)); (case side2 => exact (Kd.R_reads' HO150.out).2.1); rintro e w' ⟨rfl, ⟨nd, rfl⟩⟩; refine ⟨_, rfl, ?_⟩))
     (try simp only [Act.put, List.setIfInBounds_toArray, List.set_cons_zero, List.set_cons_succ]); go_cut [29] (fun v29 wc => ∃ (kq : Nat) (x29_14 : Bool), v29 = .bool x29_14 ∧ Aside0 (spec_RuneWide.j1 kq a0 t147 x29_14 = some r) ∧ Aside0 (kq ≤ kj2) ∧ Aside0 (Below w.heap.size w wc))
     case first =>
      have H := HC15.out; clear HC15; by_cases c19 : a0 = 109
      ·
       rw [if_pos c19] at H; have c19b0 : (a0 == 109) = true := beq_iff_eq.mpr c19; have c19b1 : (a0 != 109) = false := bne_eq_false_iff_eq.mpr c19; clear c19; (first | rw [c19b0] | (simp only [i64_w, i32_w]; rw [c19b0]) | skip); have H' := az H; clear H; go_wp2; go_meet
       case rel => exact ⟨_, (true), zB, H', ⟨zK HJ2.out⟩, ⟨zA HB.out⟩⟩
      ·
       rw [if_neg c19] at H; have c19b0 : (a0 == 109) = false := beq_eq_false_iff_ne.mpr c19; have c19b1 : (a0 != 109) = true := bne_iff_ne.mpr c19; (first | rw [c19b0] | (simp only [i64_w, i32_w]; rw [c19b0]) | skip); have H' := az H; clear H; go_wp2; go_meet
       case rel => exact ⟨_, ((a0 == 119)), zB, H', ⟨zK HJ2.out⟩, ⟨zA HB.out⟩⟩
     case rest =>
      clear HC15; (try clear c1); (try clear p2); (try clear c5); (try clear c5b0); (try clear c5b1); (try clear c6); (try clear c6b0); (try clear c6b1); (try clear c7); (try clear c7b0); (try clear c8); (try clear c8b0); (try clear c8b1); (try clear c9); (try clear c11); (try clear c13); (try clear c14); (try clear c19); (try clear c19b0); (try clear c19b1); (try clear p2); obtain ⟨kq, x29_14, rfl, HA, HJ14, HB⟩ := hcut
      cases kq with
      | zero => exact absurd HA.out (by simp [spec_RuneWide.j1])
      | succ kj14 =>
       have H := HA.out; clear HA; simp only [spec_RuneWide.j1] at H; by_cases c20 : x29_14 = true
       ·
        subst c20; have H1 : (some 16) = some r := by rw [if_pos rfl] at H; exact H
        clear H; have H := H1; clear H1; obtain rfl := Option.some.inj H; go_wp2; go_ret; exact ⟨zG, zA HB.out⟩
       ·
        replace c20 := Bool.eq_false_iff.mpr c20; subst c20; have H1 : ((spec_l1In.f a0 19968 40959).bind fun t152 => (if t152 = true then (some 20) else (if t147 = 2 then (spec_RuneWide.j2 kj14 t147 true) else (spec_RuneWide.j2 kj14 t147 (t147 == 3))))) = some r := by rw [if_neg (show ¬ (false = true) by decide)] at H; exact H
        clear H; have H := H1; clear H1; replace H := Option.bind_eq_some_iff.mp H; obtain ⟨t152, A210, H⟩ := H; replace H : (if t152 = true then (some 20) else (if t147 = 2 then (spec_RuneWide.j2 kj14 t147 true) else (spec_RuneWide.j2 kj14 t147 (t147 == 3)))) = some r := H; have A21 := az A210; clear A210; by_cases c22 : t152 = true
        ·
         subst c22; have H1 : (some 20) = some r := by rw [if_pos rfl] at H; exact H
         clear H; have H := H1; clear H1; obtain rfl := Option.some.inj H; go_wp2_with (first | ((with_reducible refine gate_callee (f := 36) rfl ?_); refine goesL_ (some 38) rfl rfl Tryz.func36 (by kernel_rfl) rfl #[.int .i64 a0, .int .i64 19968, .int .i64 40959] rfl zC ?_; (with_reducible refine (spec_l1In.calls a0 19968 40959 true _ A21.out).mono ?_); rintro e w' ⟨rfl, ⟨nd, rfl⟩⟩; refine ⟨_, rfl, ?_⟩)); go_ret; exact ⟨zG, zA HB.out⟩
        ·
         replace c22 := Bool.eq_false_iff.mpr c22; subst c22; have H1 : (if t147 = 2 then (spec_RuneWide.j2 kj14 t147 true) else (spec_RuneWide.j2 kj14 t147 (t147 == 3))) = some r := by rw [if_neg (show ¬ (false = true) by decide)] at H; exact H
         clear H; have H := H1; clear H1; have HC23 := az H; clear H; go_upto_region 10 with (first | ((with_reducible refine gate_callee (f := 36) rfl ?_); refine goesL_ (some 38) rfl rfl Tryz.func36 (by kernel_rfl) rfl #[.int .i64 a0, .int .i64 19968, .int .i64 40959] rfl zC ?_; (with_reducible refine (spec_l1In.calls a0 19968 40959 false _ A21.out).mono ?_); rintro e w' ⟨rfl, ⟨nd, rfl⟩⟩; refine ⟨_, rfl, ?_⟩))
         (try simp only [Act.put, List.setIfInBounds_toArray, List.set_cons_zero, List.set_cons_succ]); go_cut [39] (fun v39 wc => ∃ (kq : Nat) (x39_22 : Bool), v39 = .bool x39_22 ∧ Aside0 (spec_RuneWide.j2 kq t147 x39_22 = some r) ∧ Aside0 (kq ≤ kj14) ∧ Aside0 (Below w.heap.size w wc))
         case first =>
          have H := HC23.out; clear HC23; by_cases c24 : t147 = 2
          ·
           rw [if_pos c24] at H; have c24b0 : (t147 == 2) = true := beq_iff_eq.mpr c24; have c24b1 : (t147 != 2) = false := bne_eq_false_iff_eq.mpr c24; clear c24; (first | rw [c24b0] | (simp only [i64_w, i32_w]; rw [c24b0]) | skip); have H' := az H; clear H; go_wp2; go_meet
           case rel => exact ⟨_, (true), zB, H', ⟨zM HJ2.out HJ14.out⟩, ⟨zA HB.out⟩⟩
          ·
           rw [if_neg c24] at H; have c24b0 : (t147 == 2) = false := beq_eq_false_iff_ne.mpr c24; have c24b1 : (t147 != 2) = true := bne_iff_ne.mpr c24; (first | rw [c24b0] | (simp only [i64_w, i32_w]; rw [c24b0]) | skip); have H' := az H; clear H; go_wp2; go_meet
           case rel => exact ⟨_, ((t147 == 3)), zB, H', ⟨zM HJ2.out HJ14.out⟩, ⟨zA HB.out⟩⟩
         case rest =>
          clear HC23; (try clear c1); (try clear c2); (try clear p2); (try clear c3); (try clear c5); (try clear c5b0); (try clear c5b1); (try clear c6); (try clear c6b0); (try clear c6b1); (try clear c7); (try clear c7b0); (try clear c8); (try clear c8b0); (try clear c8b1); (try clear c9); (try clear c11); (try clear c13); (try clear c14); (try clear c19); (try clear c19b0); (try clear c19b1); (try clear c20); (try clear c22); (try clear c24); (try clear c24b0); (try clear c24b1); (try clear p2); obtain ⟨kq, x39_22, rfl, HA, HJ22, HB⟩ := hcut
          cases kq with
          | zero => exact absurd HA.out (by simp [spec_RuneWide.j2])
          | succ kj22 =>
           have H := HA.out; clear HA; simp only [spec_RuneWide.j2] at H; by_cases c25 : x39_22 = true
           ·
            subst c25; have H1 : (some 12) = some r := by rw [if_pos rfl] at H; exact H
            clear H; have H := H1; clear H1; obtain rfl := Option.some.inj H; go_wp2; go_ret; exact ⟨zG, zA HB.out⟩
           ·
            replace c25 := Bool.eq_false_iff.mpr c25; subst c25; have H1 : (if t147 = 11 then (some 40) else (if t147 = 12 then (some 6) else (if t147 = 8 then (some 6) else (some 10)))) = some r := by rw [if_neg (show ¬ (false = true) by decide)] at H; exact H
            clear H; have H := H1; clear H1; by_cases c26 : t147 = 11
            ·
             rw [if_pos c26] at H; have c26b0 : (t147 == 11) = true := beq_iff_eq.mpr c26; have c26b1 : (t147 != 11) = false := bne_eq_false_iff_eq.mpr c26; clear c26; obtain rfl := Option.some.inj H; go_wp2; go_ret; exact ⟨zG, zA HB.out⟩
            ·
             rw [if_neg c26] at H; have c26b0 : (t147 == 11) = false := beq_eq_false_iff_ne.mpr c26; have c26b1 : (t147 != 11) = true := bne_iff_ne.mpr c26; by_cases c27 : t147 = 12
             ·
              rw [if_pos c27] at H; have c27b0 : (t147 == 12) = true := beq_iff_eq.mpr c27; have c27b1 : (t147 != 12) = false := bne_eq_false_iff_eq.mpr c27; clear c27; obtain rfl := Option.some.inj H; go_wp2; go_ret; exact ⟨zG, zA HB.out⟩
             ·
              rw [if_neg c27] at H; have c27b0 : (t147 == 12) = false := beq_eq_false_iff_ne.mpr c27; have c27b1 : (t147 != 12) = true := bne_iff_ne.mpr c27; by_cases c28 : t147 = 8
              ·
               rw [if_pos c28] at H; have c28b0 : (t147 == 8) = true := beq_iff_eq.mpr c28; have c28b1 : (t147 != 8) = false := bne_eq_false_iff_eq.mpr c28; clear c28; obtain rfl := Option.some.inj H; go_wp2; go_ret; exact ⟨zG, zA HB.out⟩
              ·
               rw [if_neg c28] at H; have c28b0 : (t147 == 8) = false := beq_eq_false_iff_ne.mpr c28; have c28b1 : (t147 != 8) = true := bne_iff_ne.mpr c28; obtain rfl := Option.some.inj H; go_wp2; go_ret; exact ⟨zG, zA HB.out⟩
end Go.Proofs.YtmcdcogedcbndaaGreat.S
/- What a search by halves in an ascending row of reaches finds: the first reach that holds the number. -/
namespace Go.Proofs.YtmcdcogedcbndaaGreat.Pure
open Go.RowKit Go.Proofs.YtmcdcogedcbndaaGreat.S Go.Proofs.YtmcdcogedcbndaaGreatW.PrintWords Go.Proofs.YtmcdcogedcbndaaGreatW.PrintLast
theorem cmpR_neg {x : S120} {r : Int} (h : x.f0 ≤ x.f1) : cmpR x r < 0 ↔ x.f1 < r := by
 unfold cmpR; split
 · omega
 ·
  split
  · omega
  · split <;> omega
theorem cmpR_zero {x : S120} {r : Int} (h : x.f0 ≤ x.f1) : cmpR x r = 0 ↔ x.f0 ≤ r ∧ r ≤ x.f1 := by
 unfold cmpR; split
 · omega
 ·
  split
  · omega
  · split <;> omega
def inR (r : Int) (x : S120) : Bool := decide (x.f0 ≤ r) && decide (r ≤ x.f1)
theorem inR_iff {r : Int} {x : S120} : inR r x = true ↔ x.f0 ≤ r ∧ r ≤ x.f1 := by simp [inR]
theorem inR_not {r : Int} {x : S120} (h : ¬ (x.f0 ≤ r ∧ r ≤ x.f1)) : inR r x = false := by
 cases e : inR r x
 · rfl
 · exact absurd (inR_iff.1 e) h
def ascR : List S120 → Bool
 | [] => true
 | x :: l => decide (x.f0 ≤ x.f1) && l.all (fun y => decide (x.f1 < y.f0)) && ascR l
theorem ascR_le : ∀ {l : List S120}, ascR l = true → ∀ t, t < l.length → (l.getD t z120).f0 ≤ (l.getD t z120).f1
 | x :: l, h, 0, _ => by simp [ascR] at h; simpa using h.1.1
 | x :: l, h, t + 1, ht => by simp [ascR] at h; simpa using ascR_le (l := l) h.2 t (by simpa using ht)
theorem ascR_lt : ∀ {l : List S120}, ascR l = true → ∀ s t, s < t → t < l.length → (l.getD s z120).f1 < (l.getD t z120).f0
 | x :: l, h, 0, t + 1, _, ht => by
  simp [ascR] at h
  have ht' : t < l.length := by simpa using ht
  simpa [List.getD_eq_getElem?_getD, ht'] using h.1.2 (l[t]) (List.getElem_mem ht')
 | x :: l, h, s + 1, t + 1, hst, ht => by simp [ascR] at h; simpa using ascR_lt (l := l) h.2 s t (by omega) (by simpa using ht)
theorem bsR_bounds {l : List S120} {r : Int} (ha : ascR l = true) : ∀ (k lo hi : Nat), hi - lo ≤ k → lo ≤ hi → hi ≤ l.length →
  (∀ t, t < lo → (l.getD t z120).f1 < r) → (∀ t, hi ≤ t → t < l.length → r ≤ (l.getD t z120).f1) →
  bsR l r k lo hi ≤ l.length ∧ (∀ t, t < bsR l r k lo hi → (l.getD t z120).f1 < r) ∧ (∀ t, bsR l r k lo hi ≤ t → t < l.length → r ≤ (l.getD t z120).f1)
 | 0, lo, hi, hk, hlh, hn, h1, h2 => by
  obtain rfl : lo = hi := by omega
  exact ⟨hn, h1, h2⟩
 | k + 1, lo, hi, hk, hlh, hn, h1, h2 => by
  rw [bsR]
  by_cases hlt : lo < hi
  ·
   rw [if_pos hlt]
   have hm : (lo + hi) / 2 < l.length := by omega
   have hle := ascR_le ha _ hm
   by_cases hc : cmpR (l.getD ((lo + hi) / 2) z120) r < 0
   ·
    rw [if_pos hc]
    refine bsR_bounds ha k _ hi (by omega) (by omega) hn (fun t ht => ?_) h2
    have hc' := (cmpR_neg hle).1 hc
    by_cases e : t = (lo + hi) / 2
    · rw [e]; exact hc'
    ·
     have := ascR_lt ha t ((lo + hi) / 2) (by omega) hm
     omega
   ·
    rw [if_neg hc]
    refine bsR_bounds ha k lo _ (by omega) (by omega) (by omega) h1 (fun t ht htn => ?_)
    have hc' : r ≤ (l.getD ((lo + hi) / 2) z120).f1 := by
     have := (cmpR_neg (r := r) hle).2
     omega
    by_cases e : t = (lo + hi) / 2
    · rw [e]; exact hc'
    ·
     have a := ascR_lt ha ((lo + hi) / 2) t (by omega) htn
     have b := ascR_le ha t htn
     omega
  ·
   rw [if_neg hlt]
   obtain rfl : lo = hi := by omega
   exact ⟨hn, h1, h2⟩
theorem find?_at {l : List S120} {p : S120 → Bool} {i : Nat} (hi : i < l.length) (hp : p (l.getD i z120) = true) (hb : ∀ t, t < i → p (l.getD t z120) = false) : l.find? p = some (l.getD i z120) := by
 induction l generalizing i with
 | nil => simp at hi
 | cons x l ih =>
  cases i with
  | zero => simp at hp ⊢; simp [hp]
  | succ i =>
   have h0 : p x = false := by simpa using hb 0 (by omega)
   rw [List.find?_cons, h0]
   simpa using ih (i := i) (by simpa using hi) (by simpa using hp) (fun t ht => by simpa using hb (t + 1) (by omega))
theorem find?_none' {l : List S120} {p : S120 → Bool} (hb : ∀ t, t < l.length → p (l.getD t z120) = false) : l.find? p = none := by
 rw [List.find?_eq_none]
 intro x hx
 obtain ⟨t, ht, rfl⟩ := List.getElem_of_mem hx
 have := hb t ht
 simpa [List.getD_eq_getElem?_getD, ht] using this
theorem findV_eq {l : List S120} (ha : ascR l = true) (r o : Int) : findV l r o = match l.find? (inR r) with | some x => x.f2 | none => o := by
 obtain ⟨hn, h1, h2⟩ := bsR_bounds (r := r) ha l.length 0 l.length (by omega) (by omega) (Nat.le_refl _) (fun t ht => absurd ht (Nat.not_lt_zero _)) (fun t h h' => by omega)
 unfold findV
 generalize bsR l r l.length 0 l.length = i at hn h1 h2
 by_cases hc : i < l.length ∧ cmpR (l.getD i z120) r = 0
 ·
  rw [if_pos hc]
  have hz := (cmpR_zero (ascR_le ha i hc.1)).1 hc.2
  rw [find?_at hc.1 (inR_iff.2 hz) (fun t ht => inR_not (by have := h1 t ht; omega))]
 ·
  rw [if_neg hc]
  rw [find?_none' (fun t ht => ?_)]
  by_cases hlt : t < i
  · have := h1 t hlt; exact inR_not (by omega)
  ·
   have hi : i < l.length := by omega
   have hz : ¬ ((l.getD i z120).f0 ≤ r ∧ r ≤ (l.getD i z120).f1) := fun hh => hc ⟨hi, (cmpR_zero (ascR_le ha i hi)).2 hh⟩
   have hr := h2 i (Nat.le_refl _) hi
   by_cases e : t = i
   · rw [e]; exact inR_not hz
   ·
    have := ascR_lt ha i t (by omega) ht
    exact inR_not (by omega)
end Go.Proofs.YtmcdcogedcbndaaGreat.Pure
/- The direction of a letter, by both texts. -/
namespace Go.Proofs.YtmcdcogedcbndaaGreat.Pure
open Go.RowKit Go.Proofs.YtmcdcogedcbndaaGreat.S Go.Proofs.YtmcdcogedcbndaaGreatW.PrintWords Go.Proofs.YtmcdcogedcbndaaGreatW.PrintLast
theorem l1In_b (a b c : Int) : spec_l1In.f a b c = some (decide (b ≤ a) && decide (a ≤ c)) := by
 unfold spec_l1In.f
 by_cases h : b ≤ a <;> simp [h]
def moveV (a : Int) : Int := if a = 8234 then 14 else if a = 8235 then 15 else if a = 8236 then 16 else if a = 8237 then 17 else if a = 8238 then 18 else if a = 8294 then 19 else if a = 8295 then 20 else if a = 8296 then 21 else if a = 8297 then 22 else 13
def bidiV (a : Int) : Int := if 97 ≤ a ∧ a ≤ 122 then 1 else if 65 ≤ a ∧ a ≤ 90 then 1 else if 19968 ≤ a ∧ a ≤ 40959 then 1 else if 1488 ≤ a ∧ a ≤ 1514 then 2 else if 1569 ≤ a ∧ a ≤ 1610 then 3 else if 48 ≤ a ∧ a ≤ 57 then 4 else if 1632 ≤ a ∧ a ≤ 1641 then 7
 else if a = 43 then 5 else if a = 45 then 5 else if 35 ≤ a ∧ a ≤ 37 then 6 else if a = 44 then 8 else if a = 46 then 8 else if a = 47 then 8 else if a = 58 then 8 else if 768 ≤ a ∧ a ≤ 879 then 9
 else if a = 8203 then 10 else if a = 8205 then 10 else if a = 173 then 10 else if a = 9 then 11 else if a = 32 then 12 else moveV a
theorem moves_p (k : Nat) (a : Int) : spec_l1Moves.f (k + 10) a = some (moveV a) := by
 by_cases h1 : a = 8234
 · subst h1; simp [spec_l1Moves.f, spec_l1Moves.l0, rd, wrap64, moveV]
 by_cases h2 : a = 8235
 · subst h2; simp [spec_l1Moves.f, spec_l1Moves.l0, rd, wrap64, moveV]
 by_cases h3 : a = 8236
 · subst h3; simp [spec_l1Moves.f, spec_l1Moves.l0, rd, wrap64, moveV]
 by_cases h4 : a = 8237
 · subst h4; simp [spec_l1Moves.f, spec_l1Moves.l0, rd, wrap64, moveV]
 by_cases h5 : a = 8238
 · subst h5; simp [spec_l1Moves.f, spec_l1Moves.l0, rd, wrap64, moveV]
 by_cases h6 : a = 8294
 · subst h6; simp [spec_l1Moves.f, spec_l1Moves.l0, rd, wrap64, moveV]
 by_cases h7 : a = 8295
 · subst h7; simp [spec_l1Moves.f, spec_l1Moves.l0, rd, wrap64, moveV]
 by_cases h8 : a = 8296
 · subst h8; simp [spec_l1Moves.f, spec_l1Moves.l0, rd, wrap64, moveV]
 by_cases h9 : a = 8297
 · subst h9; simp [spec_l1Moves.f, spec_l1Moves.l0, rd, wrap64, moveV]
 have e : moveV a = 13 := by simp [moveV, h1, h2, h3, h4, h5, h6, h7, h8, h9]
 simp [spec_l1Moves.f, spec_l1Moves.l0, rd, wrap64, e, Ne.symm h1, Ne.symm h2, Ne.symm h3, Ne.symm h4, Ne.symm h5, Ne.symm h6, Ne.symm h7, Ne.symm h8, Ne.symm h9]
theorem signs_p (k : Nat) (a : Int) : spec_l1Signs.f (k + 13) a = some (if a = 43 then 5 else if a = 45 then 5 else if 35 ≤ a ∧ a ≤ 37 then 6 else if a = 44 then 8 else if a = 46 then 8 else if a = 47 then 8 else if a = 58 then 8 else if 768 ≤ a ∧ a ≤ 879 then 9
 else if a = 8203 then 10 else if a = 8205 then 10 else if a = 173 then 10 else if a = 9 then 11 else if a = 32 then 12 else moveV a) := by
 simp only [spec_l1Signs.f, spec_l1Signs.j0, spec_l1Signs.j1, spec_l1Signs.j2, l1In_b, Option.bind_some, moves_p]
 grind (splits := 40)
theorem spec_bidi_p (k : Nat) (a : Int) : spec_RuneBidi.f (k + 14) a = some (bidiV a) := by
 simp only [spec_RuneBidi.f, spec_RuneBidi.j0, l1In_b, Option.bind_some, signs_p, bidiV]
 grind (splits := 40)
theorem spec_bidi_k {k : Nat} (h : 14 ≤ k) (a : Int) : spec_RuneBidi.f k a = some (bidiV a) := by
 obtain ⟨k, rfl⟩ : ∃ m, k = m + 14 := ⟨k - 14, by omega⟩
 exact spec_bidi_p k a
theorem find_if {α : Type} (p : α → Bool) (x : α) (l : List α) : (x :: l).find? p = if p x = true then some x else l.find? p := by
 cases h : p x <;> simp [h]
theorem bidi_chain (a : Int) : (if 9 ≤ a ∧ a ≤ 9 then (11 : Int) else if 32 ≤ a ∧ a ≤ 32 then (12 : Int) else if 35 ≤ a ∧ a ≤ 37 then (6 : Int) else if 43 ≤ a ∧ a ≤ 43 then (5 : Int) else if 44 ≤ a ∧ a ≤ 44 then (8 : Int) else if 45 ≤ a ∧ a ≤ 45 then (5 : Int) else if 46 ≤ a ∧ a ≤ 47 then (8 : Int) else if 48 ≤ a ∧ a ≤ 57 then (4 : Int) else if 58 ≤ a ∧ a ≤ 58 then (8 : Int) else if 65 ≤ a ∧ a ≤ 90 then (1 : Int) else if 97 ≤ a ∧ a ≤ 122 then (1 : Int) else if 173 ≤ a ∧ a ≤ 173 then (10 : Int) else if 768 ≤ a ∧ a ≤ 879 then (9 : Int) else if 1488 ≤ a ∧ a ≤ 1514 then (2 : Int) else if 1569 ≤ a ∧ a ≤ 1610 then (3 : Int) else if 1632 ≤ a ∧ a ≤ 1641 then (7 : Int) else if 8203 ≤ a ∧ a ≤ 8203 then (10 : Int) else if 8205 ≤ a ∧ a ≤ 8205 then (10 : Int) else if 8234 ≤ a ∧ a ≤ 8234 then (14 : Int) else if 8235 ≤ a ∧ a ≤ 8235 then (15 : Int) else if 8236 ≤ a ∧ a ≤ 8236 then (16 : Int) else if 8237 ≤ a ∧ a ≤ 8237 then (17 : Int) else if 8238 ≤ a ∧ a ≤ 8238 then (18 : Int) else if 8294 ≤ a ∧ a ≤ 8294 then (19 : Int) else if 8295 ≤ a ∧ a ≤ 8295 then (20 : Int) else if 8296 ≤ a ∧ a ≤ 8296 then (21 : Int) else if 8297 ≤ a ∧ a ≤ 8297 then (22 : Int) else if 19968 ≤ a ∧ a ≤ 40959 then (1 : Int) else 13) = bidiV a := by
 unfold bidiV moveV
 by_cases h0 : a < 9
 · (repeat (first | rw [if_pos (by omega)] | rw [if_neg (by omega)])) <;> try rfl
 by_cases h1 : a < 10
 · (repeat (first | rw [if_pos (by omega)] | rw [if_neg (by omega)])) <;> try rfl
 clear h0
 by_cases h2 : a < 32
 · (repeat (first | rw [if_pos (by omega)] | rw [if_neg (by omega)])) <;> try rfl
 clear h1
 by_cases h3 : a < 33
 · (repeat (first | rw [if_pos (by omega)] | rw [if_neg (by omega)])) <;> try rfl
 clear h2
 by_cases h4 : a < 35
 · (repeat (first | rw [if_pos (by omega)] | rw [if_neg (by omega)])) <;> try rfl
 clear h3
 by_cases h5 : a < 38
 · (repeat (first | rw [if_pos (by omega)] | rw [if_neg (by omega)])) <;> try rfl
 clear h4
 by_cases h6 : a < 43
 · (repeat (first | rw [if_pos (by omega)] | rw [if_neg (by omega)])) <;> try rfl
 clear h5
 by_cases h7 : a < 44
 · (repeat (first | rw [if_pos (by omega)] | rw [if_neg (by omega)])) <;> try rfl
 clear h6
 by_cases h8 : a < 45
 · (repeat (first | rw [if_pos (by omega)] | rw [if_neg (by omega)])) <;> try rfl
 clear h7
 by_cases h9 : a < 46
 · (repeat (first | rw [if_pos (by omega)] | rw [if_neg (by omega)])) <;> try rfl
 clear h8
 by_cases h90 : a < 47
 · (repeat (first | rw [if_pos (by omega)] | rw [if_neg (by omega)])) <;> try rfl
 clear h9
 by_cases h10 : a < 48
 · (repeat (first | rw [if_pos (by omega)] | rw [if_neg (by omega)])) <;> try rfl
 clear h90
 by_cases h11 : a < 58
 · (repeat (first | rw [if_pos (by omega)] | rw [if_neg (by omega)])) <;> try rfl
 clear h10
 by_cases h12 : a < 59
 · (repeat (first | rw [if_pos (by omega)] | rw [if_neg (by omega)])) <;> try rfl
 clear h11
 by_cases h13 : a < 65
 · (repeat (first | rw [if_pos (by omega)] | rw [if_neg (by omega)])) <;> try rfl
 clear h12
 by_cases h14 : a < 91
 · (repeat (first | rw [if_pos (by omega)] | rw [if_neg (by omega)])) <;> try rfl
 clear h13
 by_cases h15 : a < 97
 · (repeat (first | rw [if_pos (by omega)] | rw [if_neg (by omega)])) <;> try rfl
 clear h14
 by_cases h16 : a < 123
 · (repeat (first | rw [if_pos (by omega)] | rw [if_neg (by omega)])) <;> try rfl
 clear h15
 by_cases h17 : a < 173
 · (repeat (first | rw [if_pos (by omega)] | rw [if_neg (by omega)])) <;> try rfl
 clear h16
 by_cases h18 : a < 174
 · (repeat (first | rw [if_pos (by omega)] | rw [if_neg (by omega)])) <;> try rfl
 clear h17
 by_cases h19 : a < 768
 · (repeat (first | rw [if_pos (by omega)] | rw [if_neg (by omega)])) <;> try rfl
 clear h18
 by_cases h20 : a < 880
 · (repeat (first | rw [if_pos (by omega)] | rw [if_neg (by omega)])) <;> try rfl
 clear h19
 by_cases h21 : a < 1488
 · (repeat (first | rw [if_pos (by omega)] | rw [if_neg (by omega)])) <;> try rfl
 clear h20
 by_cases h22 : a < 1515
 · (repeat (first | rw [if_pos (by omega)] | rw [if_neg (by omega)])) <;> try rfl
 clear h21
 by_cases h23 : a < 1569
 · (repeat (first | rw [if_pos (by omega)] | rw [if_neg (by omega)])) <;> try rfl
 clear h22
 by_cases h24 : a < 1611
 · (repeat (first | rw [if_pos (by omega)] | rw [if_neg (by omega)])) <;> try rfl
 clear h23
 by_cases h25 : a < 1632
 · (repeat (first | rw [if_pos (by omega)] | rw [if_neg (by omega)])) <;> try rfl
 clear h24
 by_cases h26 : a < 1642
 · (repeat (first | rw [if_pos (by omega)] | rw [if_neg (by omega)])) <;> try rfl
 clear h25
 by_cases h27 : a < 8203
 · (repeat (first | rw [if_pos (by omega)] | rw [if_neg (by omega)])) <;> try rfl
 clear h26
 by_cases h28 : a < 8204
 · (repeat (first | rw [if_pos (by omega)] | rw [if_neg (by omega)])) <;> try rfl
 clear h27
 by_cases h29 : a < 8205
 · (repeat (first | rw [if_pos (by omega)] | rw [if_neg (by omega)])) <;> try rfl
 clear h28
 by_cases h30 : a < 8206
 · (repeat (first | rw [if_pos (by omega)] | rw [if_neg (by omega)])) <;> try rfl
 clear h29
 by_cases h31 : a < 8234
 · (repeat (first | rw [if_pos (by omega)] | rw [if_neg (by omega)])) <;> try rfl
 clear h30
 by_cases h32 : a < 8235
 · (repeat (first | rw [if_pos (by omega)] | rw [if_neg (by omega)])) <;> try rfl
 clear h31
 by_cases h33 : a < 8236
 · (repeat (first | rw [if_pos (by omega)] | rw [if_neg (by omega)])) <;> try rfl
 clear h32
 by_cases h34 : a < 8237
 · (repeat (first | rw [if_pos (by omega)] | rw [if_neg (by omega)])) <;> try rfl
 clear h33
 by_cases h35 : a < 8238
 · (repeat (first | rw [if_pos (by omega)] | rw [if_neg (by omega)])) <;> try rfl
 clear h34
 by_cases h36 : a < 8239
 · (repeat (first | rw [if_pos (by omega)] | rw [if_neg (by omega)])) <;> try rfl
 clear h35
 by_cases h37 : a < 8294
 · (repeat (first | rw [if_pos (by omega)] | rw [if_neg (by omega)])) <;> try rfl
 clear h36
 by_cases h38 : a < 8295
 · (repeat (first | rw [if_pos (by omega)] | rw [if_neg (by omega)])) <;> try rfl
 clear h37
 by_cases h39 : a < 8296
 · (repeat (first | rw [if_pos (by omega)] | rw [if_neg (by omega)])) <;> try rfl
 clear h38
 by_cases h40 : a < 8297
 · (repeat (first | rw [if_pos (by omega)] | rw [if_neg (by omega)])) <;> try rfl
 clear h39
 by_cases h41 : a < 8298
 · (repeat (first | rw [if_pos (by omega)] | rw [if_neg (by omega)])) <;> try rfl
 clear h40
 by_cases h42 : a < 19968
 · (repeat (first | rw [if_pos (by omega)] | rw [if_neg (by omega)])) <;> try rfl
 clear h41
 by_cases h43 : a < 40960
 · (repeat (first | rw [if_pos (by omega)] | rw [if_neg (by omega)])) <;> try rfl
 clear h42
 (repeat (first | rw [if_pos (by omega)] | rw [if_neg (by omega)])) <;> try rfl
theorem impl_bidi_p (a : Int) : impl_RuneBidi.f a = some (bidiV a) := by
 unfold impl_RuneBidi.f impl_bidiReaches.f impl_find.f
 rw [Option.bind_some, if_pos (by decide), findV_eq (by decide), ← bidi_chain]
 simp only [Option.bind_some, find_if, List.find?_nil, inR_iff]
 congr 1
 by_cases h : 9 ≤ a ∧ a ≤ 9
 · simp only [if_pos h]
 simp only [if_neg h]; clear h
 by_cases h : 32 ≤ a ∧ a ≤ 32
 · simp only [if_pos h]
 simp only [if_neg h]; clear h
 by_cases h : 35 ≤ a ∧ a ≤ 37
 · simp only [if_pos h]
 simp only [if_neg h]; clear h
 by_cases h : 43 ≤ a ∧ a ≤ 43
 · simp only [if_pos h]
 simp only [if_neg h]; clear h
 by_cases h : 44 ≤ a ∧ a ≤ 44
 · simp only [if_pos h]
 simp only [if_neg h]; clear h
 by_cases h : 45 ≤ a ∧ a ≤ 45
 · simp only [if_pos h]
 simp only [if_neg h]; clear h
 by_cases h : 46 ≤ a ∧ a ≤ 47
 · simp only [if_pos h]
 simp only [if_neg h]; clear h
 by_cases h : 48 ≤ a ∧ a ≤ 57
 · simp only [if_pos h]
 simp only [if_neg h]; clear h
 by_cases h : 58 ≤ a ∧ a ≤ 58
 · simp only [if_pos h]
 simp only [if_neg h]; clear h
 by_cases h : 65 ≤ a ∧ a ≤ 90
 · simp only [if_pos h]
 simp only [if_neg h]; clear h
 by_cases h : 97 ≤ a ∧ a ≤ 122
 · simp only [if_pos h]
 simp only [if_neg h]; clear h
 by_cases h : 173 ≤ a ∧ a ≤ 173
 · simp only [if_pos h]
 simp only [if_neg h]; clear h
 by_cases h : 768 ≤ a ∧ a ≤ 879
 · simp only [if_pos h]
 simp only [if_neg h]; clear h
 by_cases h : 1488 ≤ a ∧ a ≤ 1514
 · simp only [if_pos h]
 simp only [if_neg h]; clear h
 by_cases h : 1569 ≤ a ∧ a ≤ 1610
 · simp only [if_pos h]
 simp only [if_neg h]; clear h
 by_cases h : 1632 ≤ a ∧ a ≤ 1641
 · simp only [if_pos h]
 simp only [if_neg h]; clear h
 by_cases h : 8203 ≤ a ∧ a ≤ 8203
 · simp only [if_pos h]
 simp only [if_neg h]; clear h
 by_cases h : 8205 ≤ a ∧ a ≤ 8205
 · simp only [if_pos h]
 simp only [if_neg h]; clear h
 by_cases h : 8234 ≤ a ∧ a ≤ 8234
 · simp only [if_pos h]
 simp only [if_neg h]; clear h
 by_cases h : 8235 ≤ a ∧ a ≤ 8235
 · simp only [if_pos h]
 simp only [if_neg h]; clear h
 by_cases h : 8236 ≤ a ∧ a ≤ 8236
 · simp only [if_pos h]
 simp only [if_neg h]; clear h
 by_cases h : 8237 ≤ a ∧ a ≤ 8237
 · simp only [if_pos h]
 simp only [if_neg h]; clear h
 by_cases h : 8238 ≤ a ∧ a ≤ 8238
 · simp only [if_pos h]
 simp only [if_neg h]; clear h
 by_cases h : 8294 ≤ a ∧ a ≤ 8294
 · simp only [if_pos h]
 simp only [if_neg h]; clear h
 by_cases h : 8295 ≤ a ∧ a ≤ 8295
 · simp only [if_pos h]
 simp only [if_neg h]; clear h
 by_cases h : 8296 ≤ a ∧ a ≤ 8296
 · simp only [if_pos h]
 simp only [if_neg h]; clear h
 by_cases h : 8297 ≤ a ∧ a ≤ 8297
 · simp only [if_pos h]
 simp only [if_neg h]; clear h
 by_cases h : 19968 ≤ a ∧ a ≤ 40959
 · simp only [if_pos h]
 simp only [if_neg h]
end Go.Proofs.YtmcdcogedcbndaaGreat.Pure
namespace Go.Proofs.YtmcdcogedcbndaaGreat.S
open Go.RowKit Go.Proofs.YtmcdcogedcbndaaGreatW.PrintWords Go.Proofs.YtmcdcogedcbndaaGreatW.PrintLast
set_option linter.unusedVariables false
set_option linter.unusedSimpArgs false
def spec_l7Ends.l0 : Nat → List Int → Int → Int → Option (Bool)
 | 0, _, _, _ => none
 | k + 1, x0, x1, x5 => if x5 < (x0.length : Int) then (if x5 > 0 then (if 0 ≤ (wrap64 (x5 - 1)) then (if (wrap64 (x5 - 1)) < (x0.length : Int) then (if 0 ≤ x5 then (if (rd x0 (wrap64 (x5 - 1))) ≥ (rd x0 x5) then (some false) else ((spec_l1In.f (rd x0 x5) 1 x1).bind fun t591 => (if t591 = true then (spec_l7Ends.l0 k x0 x1 (wrap64 (x5 + 1))) else (some false)))) else (none)) else (none)) else (none)) else (if 0 ≤ x5 then ((spec_l1In.f (rd x0 x5) 1 x1).bind fun t593 => (if t593 = true then (spec_l7Ends.l0 k x0 x1 (wrap64 (x5 + 1))) else (some false))) else (none))) else (if x1 = 0 then (some ((x0.length : Int) == 0)) else (if (x0.length : Int) > 0 then (if 0 ≤ (wrap64 ((x0.length : Int) - 1)) then (if (wrap64 ((x0.length : Int) - 1)) < (x0.length : Int) then (some ((rd x0 (wrap64 ((x0.length : Int) - 1))) == x1)) else (none)) else (none)) else (some false)))
def spec_l7Ends.f (k : Nat) (l0 : List Int) (a1 : Int) : Option (Bool) := spec_l7Ends.l0 k l0 a1 0
theorem spec_l7Ends.mono_l : ∀ k, (∀ y0 y1 y2, LeO (spec_l7Ends.l0 k y0 y1 y2) (spec_l7Ends.l0 (k + 1) y0 y1 y2))
 | 0 => fun _ _ _ r h => by simp [spec_l7Ends.l0] at h
 | k + 1 => by
  have ih0 := spec_l7Ends.mono_l k
  ·
   intro y0 y1 y2; unfold spec_l7Ends.l0
   repeat' first
   | (with_reducible exact ih0 _ _ _)
   | (with_reducible exact LeO.refl _)
   | (with_reducible exact LeO.none _)
   | (with_reducible refine LeO.ite ?_ ?_)
   | (with_reducible refine LeO.bind ?_ (fun _ => ?_))
   | exact ih0 _ _ _
   | exact LeO.none _
   | refine LeO.ite ?_ ?_
   | refine LeO.bind ?_ (fun _ => ?_)
theorem spec_l7Ends.mono : ∀ a0 a1 k, LeO (spec_l7Ends.f k a0 a1) (spec_l7Ends.f (k + 1) a0 a1) := by
 intro a0 a1 k; have ih0 := spec_l7Ends.mono_l k; unfold spec_l7Ends.f
 repeat' first
   | (with_reducible exact ih0 _ _ _)
   | (with_reducible exact LeO.refl _)
   | (with_reducible exact LeO.none _)
   | (with_reducible refine LeO.ite ?_ ?_)
   | (with_reducible refine LeO.bind ?_ (fun _ => ?_))
   | exact ih0 _ _ _
   | exact LeO.none _
   | refine LeO.ite ?_ ?_
   | refine LeO.bind ?_ (fun _ => ?_)
theorem spec_l7Ends.calls (k : Nat) (A0 : Option Addr) (c0 : Nat) (l0 : List Int) (a1 : Int) (r : Bool) (w : World) (hr0 : Kd.C (Kd.int .i64) w A0 l0.length l0) (hc0 : l0.length ≤ c0) (h : spec_l7Ends.f k l0 a1 = some r) :
  Calls Tryz.prog 62 #[.slice A0 l0.length c0, .int .i64 a1] w fun e w' => e = .returned (.bool r) ∧ Drawn0 w w' := by
 have HR0 := az hr0; have HC0 := az hc0; clear hr0 hc0; have H : (spec_l7Ends.l0 k l0 a1 0) = some r := h; clear h; have H' := az H; clear H; go_enter Tryz.func62, Tryz.ntmps62; go_wp2; repeat (go_quiet (fail); try go_wp2)
 go_loopg [5] k (fun kq v5 w' => ∃ (x5_1 : Int), v5 = .int .i64 x5_1 ∧ Aside0 (spec_l7Ends.l0 kq l0 a1 x5_1 = some r) ∧ Aside0 (kq ≤ k) ∧ Drawn0 w w')
 case atStart => exact ⟨(0), zB, H', ⟨Nat.le_refl _⟩, zD⟩
 case round =>
  clear H'; (try clear p2); obtain ⟨x5_1, rfl, HA, HK1, ⟨m1, rfl⟩⟩ := hrel
  cases gk with
  | zero => exact absurd HA.out (by simp [spec_l7Ends.l0])
  | succ k1 =>
   have H := HA.out; clear HA; simp only [spec_l7Ends.l0] at H; by_cases c3 : x5_1 < (l0.length : Int)
   ·
    rw [if_pos c3] at H; have c3b0 : decide (x5_1 < (l0.length : Int)) = true := decide_eq_true c3; clear c3; by_cases c4 : x5_1 > 0
    ·
     rw [if_pos c4] at H; have c4b0 : decide (0 < x5_1) = true := decide_eq_true c4; clear c4; obtain ⟨ji5, hji5⟩ : ∃ j_ : Int, (wrap64 (x5_1 - 1)) = j_ := ⟨_, rfl⟩; replace H : (if 0 ≤ (ji5) then (if (ji5) < (l0.length : Int) then (if 0 ≤ x5_1 then (if (rd l0 (ji5)) ≥ (rd l0 x5_1) then (some false) else ((spec_l1In.f (rd l0 x5_1) 1 a1).bind fun t591 => (if t591 = true then (spec_l7Ends.l0 k1 l0 a1 (wrap64 (x5_1 + 1))) else (some false)))) else (none)) else (none)) else (none)) = some r := by first | (rw [hji5] at H; exact H) | (simp only [hji5] at H ⊢; exact H)
     have hji5w : (IntKind.i64.wrap (x5_1 - 1)) = ji5 := (i64_w _).trans hji5; by_cases c6 : 0 ≤ (ji5)
     ·
      rw [if_pos c6] at H; have c6b0 : decide (0 ≤ (ji5)) = true := decide_eq_true c6; clear c6; by_cases c7 : (ji5) < (l0.length : Int)
      ·
       rw [if_pos c7] at H; have c7b0 : decide ((ji5) < (l0.length : Int)) = true := decide_eq_true c7; clear c7; by_cases c8 : 0 ≤ x5_1
       ·
        rw [if_pos c8] at H; have c8b0 : decide (0 ≤ x5_1) = true := decide_eq_true c8; clear c8; by_cases c9 : (rd l0 (ji5)) ≥ (rd l0 x5_1)
        ·
         rw [if_pos c9] at H; have c9b0 : decide ((rd l0 x5_1) ≤ (rd l0 (ji5))) = true := decide_eq_true c9; clear c9; obtain rfl := Option.some.inj H; have p588 : 0 ≤ ((ji5) : Int) := of_decide_eq_true (by assumption); have q588 : (ji5) < (l0.length : Int) := of_decide_eq_true (by assumption); obtain ⟨ad588, e588, hx588_0⟩ := Kd.at_int HR0.out (ji5) p588 q588
         cases e588
         replace p588 := eq_true p588; replace q588 := eq_true q588; have p589 : 0 ≤ (x5_1 : Int) := of_decide_eq_true (by assumption); have q589 : x5_1 < (l0.length : Int) := of_decide_eq_true (by assumption); obtain ⟨ad589, e589, hx589_0⟩ := Kd.at_int HR0.out x5_1 p589 q589; obtain rfl : ad588 = ad589 := (by injection e589); replace p589 := eq_true p589; replace q589 := eq_true q589; go_wp2; repeat (go_quiet (fail); try go_wp2)
         go_ret; exact ⟨by first | rfl | (simp; done) | (simp only [← hji5] <;> (first | rfl | simp)) | (simp [*]; done), zD⟩
        ·
         rw [if_neg c9] at H; have c9b0 : decide ((rd l0 x5_1) ≤ (rd l0 (ji5))) = false := decide_eq_false c9; clear c9; replace H := Option.bind_eq_some_iff.mp H; obtain ⟨t591, A100, H⟩ := H; replace H : (if t591 = true then (spec_l7Ends.l0 k1 l0 a1 (wrap64 (x5_1 + 1))) else (some false)) = some r := H; have A10 := az A100; clear A100; by_cases c11 : t591 = true
         ·
          subst c11; have H1 : (spec_l7Ends.l0 k1 l0 a1 (wrap64 (x5_1 + 1))) = some r := by rw [if_pos rfl] at H; exact H
          clear H; have H := H1; clear H1; have H' := az H; clear H; have p588 : 0 ≤ ((ji5) : Int) := of_decide_eq_true (by assumption); have q588 : (ji5) < (l0.length : Int) := of_decide_eq_true (by assumption); obtain ⟨ad588, e588, hx588_0⟩ := Kd.at_int HR0.out (ji5) p588 q588
          cases e588
          replace p588 := eq_true p588; replace q588 := eq_true q588; have p589 : 0 ≤ (x5_1 : Int) := of_decide_eq_true (by assumption); have q589 : x5_1 < (l0.length : Int) := of_decide_eq_true (by assumption); obtain ⟨ad589, e589, hx589_0⟩ := Kd.at_int HR0.out x5_1 p589 q589; obtain rfl : ad588 = ad589 := (by injection e589); replace p589 := eq_true p589; replace q589 := eq_true q589; have p590 : 0 ≤ (x5_1 : Int) := of_decide_eq_true (by assumption); have q590 : x5_1 < (l0.length : Int) := of_decide_eq_true (by assumption); obtain ⟨ad590, e590, hx590_0⟩ := Kd.at_int HR0.out x5_1 p590 q590; obtain rfl : ad588 = ad590 := (by injection e590); replace p590 := eq_true p590; replace q590 := eq_true q590; go_wp2_with (first | (go_at_call 36; (with_reducible refine (spec_l1In.calls (rd l0 x5_1) 1 a1 true _ A10.out).mono ?_); rintro e w' ⟨rfl, ⟨nd, rfl⟩⟩; (try first | exact ⟨rfl, _, World.drewN_drewN _ _ _⟩ | exact ⟨rfl, _, Eq.trans (World.drewN_drewN _ _ _) (congrArg (World.drewN _) (Nat.add_assoc _ _ _))⟩))); repeat (go_quiet (first | (go_at_call 36; (with_reducible refine (spec_l1In.calls (rd l0 x5_1) 1 a1 true _ A10.out).mono ?_); rintro e w' ⟨rfl, ⟨nd, rfl⟩⟩; (try first | exact ⟨rfl, _, World.drewN_drewN _ _ _⟩ | exact ⟨rfl, _, Eq.trans (World.drewN_drewN _ _ _) (congrArg (World.drewN _) (Nat.add_assoc _ _ _))⟩))); try go_wp2_with (first | (go_at_call 36; (with_reducible refine (spec_l1In.calls (rd l0 x5_1) 1 a1 true _ A10.out).mono ?_); rintro e w' ⟨rfl, ⟨nd, rfl⟩⟩; (try first | exact ⟨rfl, _, World.drewN_drewN _ _ _⟩ | exact ⟨rfl, _, Eq.trans (World.drewN_drewN _ _ _) (congrArg (World.drewN _) (Nat.add_assoc _ _ _))⟩))))
          go_roundg k1
          case measure => have := HK1.out; omega
          case rel => exact ⟨(wrap64 (x5_1 + 1)), zB, H', ⟨zE HK1.out⟩, zD⟩
         ·
          replace c11 := Bool.eq_false_iff.mpr c11; subst c11; have H1 : (some false) = some r := by rw [if_neg (show ¬ (false = true) by decide)] at H; exact H
          clear H; have H := H1; clear H1; obtain rfl := Option.some.inj H; have p588 : 0 ≤ ((ji5) : Int) := of_decide_eq_true (by assumption); have q588 : (ji5) < (l0.length : Int) := of_decide_eq_true (by assumption); obtain ⟨ad588, e588, hx588_0⟩ := Kd.at_int HR0.out (ji5) p588 q588
          cases e588
          replace p588 := eq_true p588; replace q588 := eq_true q588; have p589 : 0 ≤ (x5_1 : Int) := of_decide_eq_true (by assumption); have q589 : x5_1 < (l0.length : Int) := of_decide_eq_true (by assumption); obtain ⟨ad589, e589, hx589_0⟩ := Kd.at_int HR0.out x5_1 p589 q589; obtain rfl : ad588 = ad589 := (by injection e589); replace p589 := eq_true p589; replace q589 := eq_true q589; have p590 : 0 ≤ (x5_1 : Int) := of_decide_eq_true (by assumption); have q590 : x5_1 < (l0.length : Int) := of_decide_eq_true (by assumption); obtain ⟨ad590, e590, hx590_0⟩ := Kd.at_int HR0.out x5_1 p590 q590; obtain rfl : ad588 = ad590 := (by injection e590); replace p590 := eq_true p590; replace q590 := eq_true q590; go_wp2_with (first | (go_at_call 36; (with_reducible refine (spec_l1In.calls (rd l0 x5_1) 1 a1 false _ A10.out).mono ?_); rintro e w' ⟨rfl, ⟨nd, rfl⟩⟩; (try first | exact ⟨rfl, _, World.drewN_drewN _ _ _⟩ | exact ⟨rfl, _, Eq.trans (World.drewN_drewN _ _ _) (congrArg (World.drewN _) (Nat.add_assoc _ _ _))⟩))); repeat (go_quiet (first | (go_at_call 36; (with_reducible refine (spec_l1In.calls (rd l0 x5_1) 1 a1 false _ A10.out).mono ?_); rintro e w' ⟨rfl, ⟨nd, rfl⟩⟩; (try first | exact ⟨rfl, _, World.drewN_drewN _ _ _⟩ | exact ⟨rfl, _, Eq.trans (World.drewN_drewN _ _ _) (congrArg (World.drewN _) (Nat.add_assoc _ _ _))⟩))); try go_wp2_with (first | (go_at_call 36; (with_reducible refine (spec_l1In.calls (rd l0 x5_1) 1 a1 false _ A10.out).mono ?_); rintro e w' ⟨rfl, ⟨nd, rfl⟩⟩; (try first | exact ⟨rfl, _, World.drewN_drewN _ _ _⟩ | exact ⟨rfl, _, Eq.trans (World.drewN_drewN _ _ _) (congrArg (World.drewN _) (Nat.add_assoc _ _ _))⟩))))
          go_ret; exact ⟨by first | rfl | (simp; done) | (simp only [← hji5] <;> (first | rfl | simp)) | (simp [*]; done), zD⟩
       ·
        rw [if_neg c8] at H; exact absurd H (by simp)
      ·
       rw [if_neg c7] at H; exact absurd H (by simp)
     ·
      rw [if_neg c6] at H; exact absurd H (by simp)
    ·
     rw [if_neg c4] at H; have c4b0 : decide (0 < x5_1) = false := decide_eq_false c4; clear c4; by_cases c12 : 0 ≤ x5_1
     ·
      rw [if_pos c12] at H; have c12b0 : decide (0 ≤ x5_1) = true := decide_eq_true c12; clear c12; replace H := Option.bind_eq_some_iff.mp H; obtain ⟨t593, A130, H⟩ := H; replace H : (if t593 = true then (spec_l7Ends.l0 k1 l0 a1 (wrap64 (x5_1 + 1))) else (some false)) = some r := H; have A13 := az A130; clear A130; by_cases c14 : t593 = true
      ·
       subst c14; have H1 : (spec_l7Ends.l0 k1 l0 a1 (wrap64 (x5_1 + 1))) = some r := by rw [if_pos rfl] at H; exact H
       clear H; have H := H1; clear H1; have H' := az H; clear H; have p592 : 0 ≤ (x5_1 : Int) := of_decide_eq_true (by assumption); have q592 : x5_1 < (l0.length : Int) := of_decide_eq_true (by assumption); obtain ⟨ad592, e592, hx592_0⟩ := Kd.at_int HR0.out x5_1 p592 q592
       cases e592
       replace p592 := eq_true p592; replace q592 := eq_true q592; go_wp2_with (first | (go_at_call 36; (with_reducible refine (spec_l1In.calls (rd l0 x5_1) 1 a1 true _ A13.out).mono ?_); rintro e w' ⟨rfl, ⟨nd, rfl⟩⟩; (try first | exact ⟨rfl, _, World.drewN_drewN _ _ _⟩ | exact ⟨rfl, _, Eq.trans (World.drewN_drewN _ _ _) (congrArg (World.drewN _) (Nat.add_assoc _ _ _))⟩))); repeat (go_quiet (first | (go_at_call 36; (with_reducible refine (spec_l1In.calls (rd l0 x5_1) 1 a1 true _ A13.out).mono ?_); rintro e w' ⟨rfl, ⟨nd, rfl⟩⟩; (try first | exact ⟨rfl, _, World.drewN_drewN _ _ _⟩ | exact ⟨rfl, _, Eq.trans (World.drewN_drewN _ _ _) (congrArg (World.drewN _) (Nat.add_assoc _ _ _))⟩))); try go_wp2_with (first | (go_at_call 36; (with_reducible refine (spec_l1In.calls (rd l0 x5_1) 1 a1 true _ A13.out).mono ?_); rintro e w' ⟨rfl, ⟨nd, rfl⟩⟩; (try first | exact ⟨rfl, _, World.drewN_drewN _ _ _⟩ | exact ⟨rfl, _, Eq.trans (World.drewN_drewN _ _ _) (congrArg (World.drewN _) (Nat.add_assoc _ _ _))⟩))))
       go_roundg k1
       case measure => have := HK1.out; omega
       case rel => exact ⟨(wrap64 (x5_1 + 1)), zB, H', ⟨zE HK1.out⟩, zD⟩
      ·
       replace c14 := Bool.eq_false_iff.mpr c14; subst c14; have H1 : (some false) = some r := by rw [if_neg (show ¬ (false = true) by decide)] at H; exact H
       clear H; have H := H1; clear H1; obtain rfl := Option.some.inj H; have p592 : 0 ≤ (x5_1 : Int) := of_decide_eq_true (by assumption); have q592 : x5_1 < (l0.length : Int) := of_decide_eq_true (by assumption); obtain ⟨ad592, e592, hx592_0⟩ := Kd.at_int HR0.out x5_1 p592 q592
       cases e592
       replace p592 := eq_true p592; replace q592 := eq_true q592; go_wp2_with (first | (go_at_call 36; (with_reducible refine (spec_l1In.calls (rd l0 x5_1) 1 a1 false _ A13.out).mono ?_); rintro e w' ⟨rfl, ⟨nd, rfl⟩⟩; (try first | exact ⟨rfl, _, World.drewN_drewN _ _ _⟩ | exact ⟨rfl, _, Eq.trans (World.drewN_drewN _ _ _) (congrArg (World.drewN _) (Nat.add_assoc _ _ _))⟩))); repeat (go_quiet (first | (go_at_call 36; (with_reducible refine (spec_l1In.calls (rd l0 x5_1) 1 a1 false _ A13.out).mono ?_); rintro e w' ⟨rfl, ⟨nd, rfl⟩⟩; (try first | exact ⟨rfl, _, World.drewN_drewN _ _ _⟩ | exact ⟨rfl, _, Eq.trans (World.drewN_drewN _ _ _) (congrArg (World.drewN _) (Nat.add_assoc _ _ _))⟩))); try go_wp2_with (first | (go_at_call 36; (with_reducible refine (spec_l1In.calls (rd l0 x5_1) 1 a1 false _ A13.out).mono ?_); rintro e w' ⟨rfl, ⟨nd, rfl⟩⟩; (try first | exact ⟨rfl, _, World.drewN_drewN _ _ _⟩ | exact ⟨rfl, _, Eq.trans (World.drewN_drewN _ _ _) (congrArg (World.drewN _) (Nat.add_assoc _ _ _))⟩))))
       go_ret; exact ⟨zB, zD⟩
     ·
      rw [if_neg c12] at H; exact absurd H (by simp)
   ·
    rw [if_neg c3] at H; have c3b0 : decide (x5_1 < (l0.length : Int)) = false := decide_eq_false c3; clear c3; by_cases c15 : a1 = 0
    ·
     rw [if_pos c15] at H; have c15b0 : (a1 == 0) = true := beq_iff_eq.mpr c15; have c15b1 : (a1 != 0) = false := bne_eq_false_iff_eq.mpr c15; clear c15; obtain rfl := Option.some.inj H; go_wp2; repeat (go_quiet (fail); try go_wp2)
     go_ret; exact ⟨zB, zD⟩
    ·
     rw [if_neg c15] at H; have c15b0 : (a1 == 0) = false := beq_eq_false_iff_ne.mpr c15; have c15b1 : (a1 != 0) = true := bne_iff_ne.mpr c15; by_cases c16 : (l0.length : Int) > 0
     ·
      rw [if_pos c16] at H; have c16b0 : decide (0 < (l0.length : Int)) = true := decide_eq_true c16; have c16b1 : decide (0 < l0.length) = true := decide_eq_true (by omega); clear c16; obtain ⟨ji17, hji17⟩ : ∃ j_ : Int, (wrap64 ((l0.length : Int) - 1)) = j_ := ⟨_, rfl⟩; replace H : (if 0 ≤ (ji17) then (if (ji17) < (l0.length : Int) then (some ((rd l0 (ji17)) == a1)) else (none)) else (none)) = some r := by first | (rw [hji17] at H; exact H) | (simp only [hji17] at H ⊢; exact H)
      have hji17w : (IntKind.i64.wrap ((l0.length : Int) - 1)) = ji17 := (i64_w _).trans hji17; by_cases c18 : 0 ≤ (ji17)
      ·
       rw [if_pos c18] at H; have c18b0 : decide (0 ≤ (ji17)) = true := decide_eq_true c18; clear c18; by_cases c19 : (ji17) < (l0.length : Int)
       ·
        rw [if_pos c19] at H; have c19b0 : decide ((ji17) < (l0.length : Int)) = true := decide_eq_true c19; clear c19; obtain rfl := Option.some.inj H; have p594 : 0 ≤ ((ji17) : Int) := of_decide_eq_true (by assumption); have q594 : (ji17) < (l0.length : Int) := of_decide_eq_true (by assumption); obtain ⟨ad594, e594, hx594_0⟩ := Kd.at_int HR0.out (ji17) p594 q594
        cases e594
        replace p594 := eq_true p594; replace q594 := eq_true q594; go_wp2; repeat (go_quiet (fail); try go_wp2)
        go_ret; exact ⟨by first | rfl | (simp; done) | (simp only [← hji17] <;> (first | rfl | simp)) | (simp [*]; done), zD⟩
       ·
        rw [if_neg c19] at H; exact absurd H (by simp)
      ·
       rw [if_neg c18] at H; exact absurd H (by simp)
     ·
      rw [if_neg c16] at H; have c16b0 : decide (0 < (l0.length : Int)) = false := decide_eq_false c16; have c16b1 : decide (0 < l0.length) = false := decide_eq_false (by omega); clear c16; obtain rfl := Option.some.inj H; go_wp2; repeat (go_quiet (fail); try go_wp2)
      go_ret; exact ⟨zB, zD⟩
def laws_toIntS.l0 : Nat → List Int → List Int → Int → Option (List Int)
 | 0, _, _, _ => none
 | k + 1, x0, x3, x4 => if x4 < (x0.length : Int) then (if 0 ≤ x4 then (if x4 < (x3.length : Int) then (laws_toIntS.l0 k x0 (x3.set (x4 : Int).toNat (rd x0 x4)) (wrap64 (x4 + 1))) else (none)) else (none)) else (some x3)
def laws_toIntS.f (k : Nat) (l0 : List Int) : Option (List Int) := if 0 ≤ (l0.length : Int) then (if ((l0.length : Int) : Int).toNat ≤ 35184372088832 then (laws_toIntS.l0 k l0 (List.replicate ((l0.length : Int) : Int).toNat 0) 0) else (none)) else (none)
theorem laws_toIntS.mono_l : ∀ k, (∀ y0 y1 y2, LeO (laws_toIntS.l0 k y0 y1 y2) (laws_toIntS.l0 (k + 1) y0 y1 y2))
 | 0 => fun _ _ _ r h => by simp [laws_toIntS.l0] at h
 | k + 1 => by
  have ih0 := laws_toIntS.mono_l k
  ·
   intro y0 y1 y2; unfold laws_toIntS.l0
   repeat' first
   | (with_reducible exact ih0 _ _ _)
   | (with_reducible exact LeO.refl _)
   | (with_reducible exact LeO.none _)
   | (with_reducible refine LeO.ite ?_ ?_)
   | (with_reducible refine LeO.bind ?_ (fun _ => ?_))
   | exact ih0 _ _ _
   | exact LeO.none _
   | refine LeO.ite ?_ ?_
   | refine LeO.bind ?_ (fun _ => ?_)
theorem laws_toIntS.mono : ∀ a0 k, LeO (laws_toIntS.f k a0) (laws_toIntS.f (k + 1) a0) := by
 intro a0 k; have ih0 := laws_toIntS.mono_l k; unfold laws_toIntS.f
 repeat' first
   | (with_reducible exact ih0 _ _ _)
   | (with_reducible exact LeO.refl _)
   | (with_reducible exact LeO.none _)
   | (with_reducible refine LeO.ite ?_ ?_)
   | (with_reducible refine LeO.bind ?_ (fun _ => ?_))
   | exact ih0 _ _ _
   | exact LeO.none _
   | refine LeO.ite ?_ ?_
   | refine LeO.bind ?_ (fun _ => ?_)
theorem laws_toIntS.calls (k : Nat) (A0 : Option Addr) (c0 : Nat) (l0 : List Int) (r : List Int) (w : World) (hr0 : Kd.C (Kd.int .i64) w A0 l0.length l0) (hc0 : l0.length ≤ c0) (h : laws_toIntS.f k l0 = some r) :
  Calls Tryz.prog 13 #[.slice A0 l0.length c0] w fun e w' => ∃ v0_ : Value, e = .returned (v0_) ∧ Kd.R (Kd.int .i64) 3 w' w.heap.size (fun _ => True) v0_ r ∧ Below w.heap.size w w' := by
 have HR0 := az hr0; have HC0 := az hc0; clear hr0 hc0; have HB := az (Below.refl w.heap.size w); have H : (if 0 ≤ (l0.length : Int) then (if ((l0.length : Int) : Int).toNat ≤ 35184372088832 then (laws_toIntS.l0 k l0 (List.replicate ((l0.length : Int) : Int).toNat 0) 0) else (none)) else (none)) = some r := h; clear h; by_cases c2 : 0 ≤ (l0.length : Int)
 ·
  rw [if_pos c2] at H; have c2b0 := eq_true c2; have c2b1 : decide (0 ≤ (l0.length : Int)) = true := decide_eq_true c2; clear c2; by_cases c3 : ((l0.length : Int) : Int).toNat ≤ 35184372088832
  ·
   rw [if_pos c3] at H; have c3b0 := eq_true c3; have c3b1 : decide (((l0.length : Int) : Int).toNat ≤ 35184372088832) = true := decide_eq_true c3; clear c3; obtain ⟨y252, hy252⟩ : ∃ y_ : List Int, y_ = (List.replicate ((l0.length : Int) : Int).toNat 0) := ⟨_, rfl⟩; replace H : (laws_toIntS.l0 k l0 y252 0) = some r := by first | (rw [hy252]; with_reducible exact H) | (have H2_ := (Option.bind_some _ _).symm.trans H; rw [hy252]; with_reducible exact H2_) | (have H2_ := (Option.bind_some _ _).symm.trans H; with_reducible exact H2_) | with_reducible exact H | (rw [hy252]; exact H) | exact H
   have Ny252 := az hy252; clear hy252; have H' := az H; clear H; go_enter Tryz.func13, Tryz.ntmps13; go_wp2_with (first | ((with_reducible refine gate_dst (N := 7) rfl ?_); refine Kd.R_make (Kd.int .i64) _ 3 rfl (N := 7) rfl 22 _ _ rfl (l0.length : Int) rfl rfl Tryz.underlying22 (.int .i64 0) 8 info3 rfl (by decide) (by omega) 0 (ok := fun _ => True) (okp := fun _ => True) rfl (fun _ hk => hk) trivial (of_decide_eq_true (by assumption)) (Nat.le_trans (Nat.mul_le_mul_right _ (of_decide_eq_true (by assumption) : (l0.length : Int).toNat ≤ 35184372088832)) (by omega)) (Below.refl _ _) (Nat.le_refl _) ?_; intro v253 w4 ho5 hb hg_ hnew_; clear hg_ hnew_; (first | rw [← Ny252.out] at ho5 | (simp only [Int.reduceToNat] at ho5; rw [← Ny252.out] at ho5)); have n0_ := az (Kd.R_lower ho5 (below_size (zA HB.out))); have n1_ := az (below_step (zA HB.out) hb); clear HB; have HO254 := n0_; have HB := n1_; clear n0_ n1_; clear hb ho5)); go_loopg [4] k (fun kq v4 w' => ∃ (x3_1 : List Int) (x4_1 : Int), v4 = .int .i64 x4_1 ∧ Aside0 (laws_toIntS.l0 kq l0 x3_1 x4_1 = some r) ∧ Aside0 (kq ≤ k) ∧ Aside0 (Kd.R (Kd.int .i64) 3 w' w.heap.size (fun _ => True) v253 x3_1) ∧ Aside0 (Below w.heap.size w w'))
   case atStart => exact ⟨(y252), (0), zB, H', ⟨Nat.le_refl _⟩, ⟨zF HO254.out⟩, ⟨zA HB.out⟩⟩
   case round =>
    clear H'; (try clear c1); (try clear c2); (try clear c2b0); (try clear c2b1); (try clear p2); (try clear c3); (try clear c3b0); (try clear c3b1); obtain ⟨x3_1, x4_1, rfl, HA, HK1, HO_3, HB⟩ := hrel
    cases gk with
    | zero => exact absurd HA.out (by simp [laws_toIntS.l0])
    | succ k1 =>
     have H := HA.out; clear HA; simp only [laws_toIntS.l0] at H; by_cases c6 : x4_1 < (l0.length : Int)
     ·
      rw [if_pos c6] at H; have c6b0 : decide (x4_1 < (l0.length : Int)) = true := decide_eq_true c6; clear c6; by_cases c7 : 0 ≤ x4_1
      ·
       rw [if_pos c7] at H; have c7b0 : decide (0 ≤ x4_1) = true := decide_eq_true c7; clear c7; by_cases c8 : x4_1 < (x3_1.length : Int)
       ·
        rw [if_pos c8] at H; have c8b0 : decide (x4_1 < (x3_1.length : Int)) = true := decide_eq_true c8; clear c8; obtain ⟨y256, hy256⟩ : ∃ y_ : List Int, y_ = (x3_1.set (x4_1 : Int).toNat (rd l0 x4_1)) := ⟨_, rfl⟩; replace H : (laws_toIntS.l0 k1 l0 y256 (wrap64 (x4_1 + 1))) = some r := by first | (rw [hy256]; with_reducible exact H) | (have H2_ := (Option.bind_some _ _).symm.trans H; rw [hy256]; with_reducible exact H2_) | (have H2_ := (Option.bind_some _ _).symm.trans H; with_reducible exact H2_) | with_reducible exact H | (rw [hy256]; exact H) | exact H
        have Ny256 := az hy256; clear hy256; have H' := az H; clear H; have p255 : 0 ≤ (x4_1 : Int) := of_decide_eq_true (by assumption); have q255 : x4_1 < (l0.length : Int) := of_decide_eq_true (by assumption); obtain ⟨ad255, e255, hx255_0⟩ := Kd.at_int HR0.out x4_1 p255 q255
        cases e255
        replace hx255_0 := (HB.out.cell (World.block_lt_of_cell? w _ hx255_0)).trans hx255_0; replace p255 := eq_true p255; replace q255 := eq_true q255; have p9 : 0 ≤ (x4_1 : Int) := of_decide_eq_true (by assumption); have q9 : (x4_1 : Int) < ((x3_1.length : Int) : Int) := of_decide_eq_true (by assumption); obtain ⟨go9, co9, eo9, gb9, gl9, cl9, HG9⟩ := Kd.R_form HO_3.out (by omega); (first | cases eo9 | (injection eo9 with ea_ en_ ec_; (first | subst ea_ | (injection ea_ with ea_; subst ea_)); subst ec_; clear en_)); have GB9 := az gb9; have GG9 := az HG9; clear gb9 gl9 HG9; obtain ⟨hx9_0, hf9_0⟩ := Kd.R_celln 0 HO_3.out (x4_1 : Int) p9 q9; replace p9 := eq_true p9; replace q9 := eq_true q9; have HP10 := Kd.R_putg HO_3.out (x4_1 : Int) (rd l0 x4_1); go_wp2_with (first | ((with_reducible refine gate_store (t := 3) (p := 20) rfl ?_); refine store_event (t := 3) (p := 20) (v := ?vo_w11) (w1 := (wr.setCell ⟨go9, (x4_1 : Int).toNat, none⟩ (.int .i64 (rd l0 x4_1)))) ?hg ?ho ?hn ?hr ?_; (case ho => rfl); (case hg => rfl); (case hn => rfl); (case hr => first | (go_simp; done) | (go_simp; rfl)); intro w11 hw; have hg : wr.grownBy w11 (some go9) := (by rw [hw]; exact HP10.2); have hp_ : Kd.R (Kd.int .i64) 3 w11 w.heap.size (fun _ => True) (.slice (some ⟨go9, 0, none⟩) x3_1.length co9) y256 := (by rw [hw, Ny256.out]; exact HP10.1); clear HP10; have n0_ := az (hp_); have n1_ := az ((by rw [hw]; exact below_set (HB.out) GB9.out : Below w.heap.size w w11)); clear HO_3; clear HB; have HO_3 := n0_; have HB := n1_; clear n0_ n1_; clear hg hw hp_)); go_roundg k1
        case measure => have := HK1.out; omega
        case rel => exact ⟨(y256), (wrap64 (x4_1 + 1)), zB, H', ⟨zE HK1.out⟩, ⟨zF HO_3.out⟩, ⟨zA HB.out⟩⟩
       ·
        rw [if_neg c8] at H; exact absurd H (by simp)
      ·
       rw [if_neg c7] at H; exact absurd H (by simp)
     ·
      rw [if_neg c6] at H; have c6b0 : decide (x4_1 < (l0.length : Int)) = false := decide_eq_false c6; clear c6; obtain rfl := Option.some.inj H; go_wp2; go_ret; exact ⟨_, zG, zF HO_3.out, zA HB.out⟩
  ·
   rw [if_neg c3] at H; exact absurd H (by simp)
 ·
  rw [if_neg c2] at H; exact absurd H (by simp)
def laws_eqIntS.l0 : Nat → List Int → List Int → Int → Option (Bool)
 | 0, _, _, _ => none
 | k + 1, x0, x1, x5 => if x5 < (x0.length : Int) then (if 0 ≤ x5 then (if x5 < (x1.length : Int) then (if (rd x0 x5) = (rd x1 x5) then (laws_eqIntS.l0 k x0 x1 (wrap64 (x5 + 1))) else (some false)) else (none)) else (none)) else (some true)
def laws_eqIntS.f (k : Nat) (l0 : List Int) (l1 : List Int) : Option (Bool) := if (l0.length : Int) = (l1.length : Int) then (laws_eqIntS.l0 k l0 l1 0) else (some false)
theorem laws_eqIntS.mono_l : ∀ k, (∀ y0 y1 y2, LeO (laws_eqIntS.l0 k y0 y1 y2) (laws_eqIntS.l0 (k + 1) y0 y1 y2))
 | 0 => fun _ _ _ r h => by simp [laws_eqIntS.l0] at h
 | k + 1 => by
  have ih0 := laws_eqIntS.mono_l k
  ·
   intro y0 y1 y2; unfold laws_eqIntS.l0
   repeat' first
   | (with_reducible exact ih0 _ _ _)
   | (with_reducible exact LeO.refl _)
   | (with_reducible exact LeO.none _)
   | (with_reducible refine LeO.ite ?_ ?_)
   | (with_reducible refine LeO.bind ?_ (fun _ => ?_))
   | exact ih0 _ _ _
   | exact LeO.none _
   | refine LeO.ite ?_ ?_
   | refine LeO.bind ?_ (fun _ => ?_)
theorem laws_eqIntS.mono : ∀ a0 a1 k, LeO (laws_eqIntS.f k a0 a1) (laws_eqIntS.f (k + 1) a0 a1) := by
 intro a0 a1 k; have ih0 := laws_eqIntS.mono_l k; unfold laws_eqIntS.f
 repeat' first
   | (with_reducible exact ih0 _ _ _)
   | (with_reducible exact LeO.refl _)
   | (with_reducible exact LeO.none _)
   | (with_reducible refine LeO.ite ?_ ?_)
   | (with_reducible refine LeO.bind ?_ (fun _ => ?_))
   | exact ih0 _ _ _
   | exact LeO.none _
   | refine LeO.ite ?_ ?_
   | refine LeO.bind ?_ (fun _ => ?_)
theorem laws_eqIntS.calls (k : Nat) (A0 : Option Addr) (c0 : Nat) (l0 : List Int) (A1 : Option Addr) (c1 : Nat) (l1 : List Int) (r : Bool) (w : World) (hr0 : Kd.C (Kd.int .i64) w A0 l0.length l0) (hc0 : l0.length ≤ c0) (hr1 : Kd.C (Kd.int .i64) w A1 l1.length l1) (hc1 : l1.length ≤ c1) (h : laws_eqIntS.f k l0 l1 = some r) :
  Calls Tryz.prog 16 #[.slice A0 l0.length c0, .slice A1 l1.length c1] w fun e w' => e = .returned (.bool r) ∧ Drawn0 w w' := by
 have HR0 := az hr0; have HC0 := az hc0; clear hr0 hc0; have HR1 := az hr1; have HC1 := az hc1; clear hr1 hc1; have H : (if (l0.length : Int) = (l1.length : Int) then (laws_eqIntS.l0 k l0 l1 0) else (some false)) = some r := h; clear h; by_cases c3 : (l0.length : Int) = (l1.length : Int)
 ·
  rw [if_pos c3] at H; have c3b0 : ((l0.length : Int) == (l1.length : Int)) = true := beq_iff_eq.mpr c3; have c3b1 : ((l0.length : Int) != (l1.length : Int)) = false := bne_eq_false_iff_eq.mpr c3; have c3b2 : (l0.length == l1.length) = true := by first | simpa using c3 | (simp at c3 ⊢; omega)
  clear c3; have H' := az H; clear H; go_enter Tryz.func16, Tryz.ntmps16; go_wp2; repeat (go_quiet (fail); try go_wp2)
  go_loopg [5] k (fun kq v5 w' => ∃ (x5_1 : Int), v5 = .int .i64 x5_1 ∧ Aside0 (laws_eqIntS.l0 kq l0 l1 x5_1 = some r) ∧ Aside0 (kq ≤ k) ∧ Drawn0 w w')
  case atStart => exact ⟨(0), zB, H', ⟨Nat.le_refl _⟩, zD⟩
  case round =>
   clear H'; (try clear c1); (try clear p2); (try clear c3); (try clear c3b0); (try clear c3b1); (try clear c3b2); obtain ⟨x5_1, rfl, HA, HK1, ⟨m1, rfl⟩⟩ := hrel
   cases gk with
   | zero => exact absurd HA.out (by simp [laws_eqIntS.l0])
   | succ k1 =>
    have H := HA.out; clear HA; simp only [laws_eqIntS.l0] at H; by_cases c4 : x5_1 < (l0.length : Int)
    ·
     rw [if_pos c4] at H; have c4b0 : decide (x5_1 < (l0.length : Int)) = true := decide_eq_true c4; clear c4; by_cases c5 : 0 ≤ x5_1
     ·
      rw [if_pos c5] at H; have c5b0 : decide (0 ≤ x5_1) = true := decide_eq_true c5; clear c5; by_cases c6 : x5_1 < (l1.length : Int)
      ·
       rw [if_pos c6] at H; have c6b0 : decide (x5_1 < (l1.length : Int)) = true := decide_eq_true c6; clear c6; by_cases c7 : (rd l0 x5_1) = (rd l1 x5_1)
       ·
        rw [if_pos c7] at H; have c7b0 : ((rd l0 x5_1) == (rd l1 x5_1)) = true := beq_iff_eq.mpr c7; have c7b1 : ((rd l0 x5_1) != (rd l1 x5_1)) = false := bne_eq_false_iff_eq.mpr c7; clear c7; have H' := az H; clear H; have p367 : 0 ≤ (x5_1 : Int) := of_decide_eq_true (by assumption); have q367 : x5_1 < (l0.length : Int) := of_decide_eq_true (by assumption); obtain ⟨ad367, e367, hx367_0⟩ := Kd.at_int HR0.out x5_1 p367 q367
        cases e367
        replace p367 := eq_true p367; replace q367 := eq_true q367; have p368 : 0 ≤ (x5_1 : Int) := of_decide_eq_true (by assumption); have q368 : x5_1 < (l1.length : Int) := of_decide_eq_true (by assumption); obtain ⟨ad368, e368, hx368_0⟩ := Kd.at_int HR1.out x5_1 p368 q368
        cases e368
        replace p368 := eq_true p368; replace q368 := eq_true q368; go_wp2; repeat (go_quiet (fail); try go_wp2)
        go_roundg k1
        case measure => have := HK1.out; omega
        case rel => exact ⟨(wrap64 (x5_1 + 1)), zB, H', ⟨zE HK1.out⟩, zD⟩
       ·
        rw [if_neg c7] at H; have c7b0 : ((rd l0 x5_1) == (rd l1 x5_1)) = false := beq_eq_false_iff_ne.mpr c7; have c7b1 : ((rd l0 x5_1) != (rd l1 x5_1)) = true := bne_iff_ne.mpr c7; obtain rfl := Option.some.inj H; have p367 : 0 ≤ (x5_1 : Int) := of_decide_eq_true (by assumption); have q367 : x5_1 < (l0.length : Int) := of_decide_eq_true (by assumption); obtain ⟨ad367, e367, hx367_0⟩ := Kd.at_int HR0.out x5_1 p367 q367
        cases e367
        replace p367 := eq_true p367; replace q367 := eq_true q367; have p368 : 0 ≤ (x5_1 : Int) := of_decide_eq_true (by assumption); have q368 : x5_1 < (l1.length : Int) := of_decide_eq_true (by assumption); obtain ⟨ad368, e368, hx368_0⟩ := Kd.at_int HR1.out x5_1 p368 q368
        cases e368
        replace p368 := eq_true p368; replace q368 := eq_true q368; go_wp2; repeat (go_quiet (fail); try go_wp2)
        go_ret; exact ⟨zB, zD⟩
      ·
       rw [if_neg c6] at H; exact absurd H (by simp)
     ·
      rw [if_neg c5] at H; exact absurd H (by simp)
    ·
     rw [if_neg c4] at H; have c4b0 : decide (x5_1 < (l0.length : Int)) = false := decide_eq_false c4; clear c4; obtain rfl := Option.some.inj H; go_wp2; repeat (go_quiet (fail); try go_wp2)
     go_ret; exact ⟨zB, zD⟩
 ·
  rw [if_neg c3] at H; have c3b0 : ((l0.length : Int) == (l1.length : Int)) = false := beq_eq_false_iff_ne.mpr c3; have c3b1 : ((l0.length : Int) != (l1.length : Int)) = true := bne_iff_ne.mpr c3; have c3b2 : (l0.length == l1.length) = false := by first | simpa using c3 | (simp at c3 ⊢; omega)
  obtain rfl := Option.some.inj H; go_enter Tryz.func16, Tryz.ntmps16; go_wp2; repeat (go_quiet (fail); try go_wp2)
  go_ret; exact ⟨zB, zD⟩
end Go.Proofs.YtmcdcogedcbndaaGreat.S
/- What the laws' own helpers answer: a copy, equality. -/
namespace Go.Proofs.YtmcdcogedcbndaaGreat.Pure
open Go.RowKit Go.Proofs.YtmcdcogedcbndaaGreat.S Go.Proofs.YtmcdcogedcbndaaGreatW.PrintWords Go.Proofs.YtmcdcogedcbndaaGreatW.PrintLast
theorem w64 {x : Int} (h0 : -9223372036854775808 ≤ x) (h1 : x ≤ 9223372036854775807) : wrap64 x = x := by
 unfold wrap64; omega
theorem rd_nat (l : List Int) (i : Nat) : rd l (i : Int) = l.getD i 0 := by simp [rd]
theorem rd_get {l : List Int} {i : Nat} (h : i < l.length) : rd l (i : Int) = l[i] := by simp [rd, List.getD_eq_getElem?_getD, h]
end Go.Proofs.YtmcdcogedcbndaaGreat.Pure
/- Spans that are ok, and ends of lines, by both texts. -/
namespace Go.Proofs.YtmcdcogedcbndaaGreat.Pure
open Go.RowKit Go.Proofs.YtmcdcogedcbndaaGreat.S Go.Proofs.YtmcdcogedcbndaaGreatW.PrintWords Go.Proofs.YtmcdcogedcbndaaGreatW.PrintLast
abbrev Sp := S50
theorem l1In_f (a b c : Int) : spec_l1In.f a b c = some (decide (b ≤ a ∧ a ≤ c)) := by
 unfold spec_l1In.f
 by_cases h : a ≥ b
 · simp [h]
 · simp [h]
def spanOkV (s : Sp) (n : Int) : Bool := decide (0 ≤ s.f0 ∧ s.f0 < n ∧ s.f0 < s.f1 ∧ s.f1 ≤ n ∧ 1 ≤ s.f2 ∧ s.f2 ≤ 40 ∧ 0 ≤ s.f3 ∧ s.f3 ≤ 9)
theorem spanOk_i (s : Sp) (n : Int) : impl_spanOk.f s.f0 s.f1 s.f2 s.f3 n = some (spanOkV s n) := by
 unfold impl_spanOk.f spanOkV
 by_cases h0 : s.f0 ≥ 0
 ·
  by_cases h1 : s.f0 < n
  ·
   by_cases h2 : s.f1 > s.f0
   ·
    by_cases h3 : s.f1 ≤ n
    ·
     by_cases h4 : s.f2 ≥ 1
     ·
      by_cases h5 : s.f2 ≤ 40
      ·
       by_cases h6 : s.f3 ≥ 0
       ·
        rw [if_pos h0, if_pos h1, if_pos h2, if_pos h3, if_pos h4, if_pos h5, if_pos h6]
        congr 1
        rw [decide_eq_decide]
        omega
       · rw [if_pos h0, if_pos h1, if_pos h2, if_pos h3, if_pos h4, if_pos h5, if_neg h6, decide_eq_false (by omega)]
      · rw [if_pos h0, if_pos h1, if_pos h2, if_pos h3, if_pos h4, if_neg h5, decide_eq_false (by omega)]
     · rw [if_pos h0, if_pos h1, if_pos h2, if_pos h3, if_neg h4, decide_eq_false (by omega)]
    · rw [if_pos h0, if_pos h1, if_pos h2, if_neg h3, decide_eq_false (by omega)]
   · rw [if_pos h0, if_pos h1, if_neg h2, decide_eq_false (by omega)]
  · rw [if_pos h0, if_neg h1, decide_eq_false (by omega)]
 · rw [if_neg h0, decide_eq_false (by omega)]
theorem spanOk_s (s : Sp) {n : Int} (hn : 0 ≤ n) (hn1 : n ≤ 1000000) : spec_l6Ok.f s.f0 s.f1 s.f2 s.f3 n = some (spanOkV s n) := by
 unfold spec_l6Ok.f spanOkV
 simp only [l1In_f, Option.bind_some]
 rw [w64 (x := n - 1) (by omega) (by omega)]
 by_cases h0 : 0 ≤ s.f0 ∧ s.f0 ≤ n - 1
 ·
  rw [decide_eq_true h0, if_pos rfl, w64 (by omega) (by omega)]
  by_cases h1 : s.f0 + 1 ≤ s.f1 ∧ s.f1 ≤ n
  ·
   rw [decide_eq_true h1, if_pos rfl]
   by_cases h2 : 1 ≤ s.f2 ∧ s.f2 ≤ 40
   ·
    rw [decide_eq_true h2, if_pos rfl]
    congr 1
    rw [decide_eq_decide]
    omega
   · rw [decide_eq_false h2, if_neg (by decide), decide_eq_false (by omega)]
  · rw [decide_eq_false h1, if_neg (by decide), decide_eq_false (by omega)]
 · rw [decide_eq_false h0, if_neg (by decide), decide_eq_false (by omega)]
def spAt (l : List Sp) (i : Nat) : Sp := l.getD i z50
theorem rdSp (l : List Sp) (i : Nat) : rd_T50 l (i : Int) = spAt l i := by simp [rd_T50, spAt]
def okAt (l : List Sp) (n : Int) (i : Nat) : Bool := spanOkV (spAt l i) n && (decide (i = 0) || decide ((spAt l (i - 1)).f1 ≤ (spAt l i).f0))
def allFrom (f : Nat → Bool) : Nat → Nat → Bool
 | _, 0 => true
 | i, d + 1 => f i && allFrom f (i + 1) d
theorem allFrom_iff (f : Nat → Bool) : ∀ (d i : Nat), allFrom f i d = true ↔ ∀ j, i ≤ j → j < i + d → f j = true
 | 0, i => ⟨fun _ j h1 h2 => by omega, fun _ => rfl⟩
 | d + 1, i => by
  rw [allFrom, Bool.and_eq_true, allFrom_iff f d (i + 1)]
  constructor
  ·
   rintro ⟨h0, h⟩ j h1 h2
   by_cases e : j = i
   · rw [e]; exact h0
   · exact h j (by omega) (by omega)
  · exact fun h => ⟨h i (by omega) (by omega), fun j h1 h2 => h j (by omega) (by omega)⟩
def spansV (l : List Sp) (n : Int) : Bool := allFrom (okAt l n) 0 l.length && (decide (l.length ≤ 12) && decide (0 ≤ n ∧ n ≤ 80))
theorem spansI_l (l : List Sp) (n : Int) (hl : l.length ≤ 1099511627776) : ∀ (d k i : Nat), l.length - i = d → i ≤ l.length → d < k → impl_SpansOk.l0 k l n l (l.length : Int) (i : Int) = some (allFrom (okAt l n) i d && (decide (l.length ≤ 12) && decide (0 ≤ n ∧ n ≤ 80)))
 | 0, k, i, hd, hi, hk => by
  obtain ⟨k, rfl⟩ : ∃ m, k = m + 1 := ⟨k - 1, by omega⟩
  rw [impl_SpansOk.l0, if_neg (by omega), allFrom, Bool.true_and]
  by_cases h0 : n ≥ 0
  ·
   by_cases h1 : n ≤ 80
   ·
    rw [if_pos h0, if_pos h1, decide_eq_true (show 0 ≤ n ∧ n ≤ 80 by omega), Bool.and_true]
    congr 1
    rw [decide_eq_decide]
    omega
   · rw [if_pos h0, if_neg h1, decide_eq_false (show ¬ (0 ≤ n ∧ n ≤ 80) by omega), Bool.and_false]
  · rw [if_neg h0, decide_eq_false (show ¬ (0 ≤ n ∧ n ≤ 80) by omega), Bool.and_false]
 | d + 1, k, i, hd, hi, hk => by
  obtain ⟨k, rfl⟩ : ∃ m, k = m + 1 := ⟨k - 1, by omega⟩
  have ih := spansI_l l n hl d k (i + 1) (by omega) (by omega) (by omega)
  rw [impl_SpansOk.l0, if_pos (by omega), if_pos (by omega), if_pos (by omega), rdSp, spanOk_i, Option.bind_some, allFrom, okAt]
  have w1 : wrap64 ((i : Int) + 1) = ((i + 1 : Nat) : Int) := by rw [w64 (by omega) (by omega)]; omega
  cases hs : spanOkV (spAt l i) n
  · rw [if_neg (by decide), Bool.false_and, Bool.false_and, Bool.false_and]
  ·
   rw [if_pos rfl, Bool.true_and]
   by_cases h0 : (i : Int) > 0
   ·
    have w2 : wrap64 ((i : Int) - 1) = ((i - 1 : Nat) : Int) := by rw [w64 (by omega) (by omega)]; omega
    rw [if_pos h0, w2, if_pos (by omega), if_pos (by omega), rdSp, decide_eq_false (show ¬ i = 0 by omega), Bool.false_or]
    by_cases h1 : (spAt l (i - 1)).f1 > (spAt l i).f0
    · rw [if_pos h1, decide_eq_false (by omega), Bool.false_and, Bool.false_and]
    · rw [if_neg h1, decide_eq_true (by omega), Bool.true_and, w1, ih]
   · rw [if_neg h0, decide_eq_true (show i = 0 by omega), Bool.true_or, Bool.true_and, w1, ih]
theorem spansI_p {l : List Sp} {n : Int} {k : Nat} (hl : l.length ≤ 1099511627776) (hk : l.length < k) : impl_SpansOk.f k l n = some (spansV l n) := by
 have h := spansI_l l n hl l.length k 0 (by omega) (by omega) hk
 rw [show ((0 : Nat) : Int) = 0 from rfl] at h
 exact h
theorem spansS_l (l : List Sp) (n : Int) (hl : l.length ≤ 1099511627776) (hn : 0 ≤ n) (hn1 : n ≤ 1000000) : ∀ (d k i : Nat), l.length - i = d → i ≤ l.length → d < k → spec_SpansOk.l0 k l n (i : Int) = some (allFrom (okAt l n) i d && (decide (l.length ≤ 12) && decide (0 ≤ n ∧ n ≤ 80)))
 | 0, k, i, hd, hi, hk => by
  obtain ⟨k, rfl⟩ : ∃ m, k = m + 1 := ⟨k - 1, by omega⟩
  rw [spec_SpansOk.l0, if_neg (by omega), allFrom, Bool.true_and]
  by_cases h0 : (l.length : Int) ≤ 12
  · rw [if_pos h0, l1In_f, Option.bind_some, decide_eq_true (show l.length ≤ 12 by omega), Bool.true_and]
  · rw [if_neg h0, decide_eq_false (show ¬ l.length ≤ 12 by omega), Bool.false_and]
 | d + 1, k, i, hd, hi, hk => by
  obtain ⟨k, rfl⟩ : ∃ m, k = m + 1 := ⟨k - 1, by omega⟩
  have ih := spansS_l l n hl hn hn1 d k (i + 1) (by omega) (by omega) (by omega)
  rw [spec_SpansOk.l0, if_pos (by omega), if_pos (by omega), rdSp, spanOk_s _ hn hn1, Option.bind_some, allFrom, okAt]
  have w1 : wrap64 ((i : Int) + 1) = ((i + 1 : Nat) : Int) := by rw [w64 (by omega) (by omega)]; omega
  cases hs : spanOkV (spAt l i) n
  · rw [if_neg (by decide), Bool.false_and, Bool.false_and, Bool.false_and]
  ·
   rw [if_pos rfl, Bool.true_and]
   by_cases h0 : (i : Int) > 0
   ·
    have w2 : wrap64 ((i : Int) - 1) = ((i - 1 : Nat) : Int) := by rw [w64 (by omega) (by omega)]; omega
    rw [if_pos h0, w2, if_pos (by omega), if_pos (by omega), rdSp, decide_eq_false (show ¬ i = 0 by omega), Bool.false_or]
    by_cases h1 : (spAt l (i - 1)).f1 > (spAt l i).f0
    · rw [if_pos h1, decide_eq_false (by omega), Bool.false_and, Bool.false_and]
    · rw [if_neg h1, decide_eq_true (by omega), Bool.true_and, w1, ih]
   · rw [if_neg h0, decide_eq_true (show i = 0 by omega), Bool.true_or, Bool.true_and, w1, ih]
theorem spansS_p {l : List Sp} {n : Int} {k : Nat} (hl : l.length ≤ 1099511627776) (hn : 0 ≤ n) (hn1 : n ≤ 1000000) (hk : l.length < k) : spec_SpansOk.f k l n = some (spansV l n) := by
 have h := spansS_l l n hl hn hn1 l.length k 0 (by omega) (by omega) hk
 rw [show ((0 : Nat) : Int) = 0 from rfl] at h
 exact h
def endsV : List Int → Int → Int → Bool
 | [], p, n => p == n
 | e :: r, p, n => if e ≤ p then false else endsV r e n
theorem endsI_l (l : List Int) (n : Int) (hl : l.length ≤ 1099511627776) : ∀ (d k i : Nat) (p : Int), l.length - i = d → i ≤ l.length → d < k → impl_endsOk.l0 k n p l (l.length : Int) (i : Int) = some (endsV (l.drop i) p n)
 | 0, k, i, p, hd, hi, hk => by
  obtain ⟨k, rfl⟩ : ∃ m, k = m + 1 := ⟨k - 1, by omega⟩
  rw [impl_endsOk.l0, if_neg (by omega), List.drop_eq_nil_of_le (by omega), endsV]
 | d + 1, k, i, p, hd, hi, hk => by
  obtain ⟨k, rfl⟩ : ∃ m, k = m + 1 := ⟨k - 1, by omega⟩
  have hlt : i < l.length := by omega
  rw [impl_endsOk.l0, if_pos (by omega), if_pos (by omega), if_pos (by omega), List.drop_eq_getElem_cons hlt, endsV, rd_get hlt]
  by_cases h : l[i] ≤ p
  · rw [if_pos h, if_pos h]
  ·
   rw [if_neg h, if_neg h, w64 (by omega) (by omega), show ((i : Int) + 1) = ((i + 1 : Nat) : Int) by omega]
   exact endsI_l l n hl d k (i + 1) _ (by omega) (by omega) (by omega)
theorem endsI_p {l : List Int} {n : Int} {k : Nat} (hl : l.length ≤ 1099511627776) (hk : l.length < k) : impl_endsOk.f k l n = some (endsV l 0 n) := by
 have h := endsI_l l n hl l.length k 0 0 (by omega) (by omega) hk
 rw [show ((0 : Nat) : Int) = 0 from rfl, List.drop_zero] at h
 exact h
theorem endsV_big : ∀ (l : List Int) (p n : Int), n < p → endsV l p n = false
 | [], p, n, h => by rw [endsV]; exact beq_eq_false_iff_ne.mpr (by omega)
 | e :: r, p, n, h => by
  rw [endsV]
  by_cases c : e ≤ p
  · rw [if_pos c]
  · rw [if_neg c]; exact endsV_big r e n (by omega)
end Go.Proofs.YtmcdcogedcbndaaGreat.Pure
/- How wide letters are, and as what they count where lines may end, by both texts. -/
namespace Go.Proofs.YtmcdcogedcbndaaGreat.Pure
open Go.RowKit Go.Proofs.YtmcdcogedcbndaaGreat.S Go.Proofs.YtmcdcogedcbndaaGreatW.PrintWords Go.Proofs.YtmcdcogedcbndaaGreatW.PrintLast
theorem has_l (x : Int) (l : List Int) (hn : l.length ≤ 1000) : ∀ (d k i : Nat), l.length - i = d → i ≤ l.length → d < k → spec_l1Has.l0 k l x (i : Int) = some ((l.drop i).contains x)
 | 0, k, i, hd, hi, hk => by
  obtain ⟨k, rfl⟩ : ∃ m, k = m + 1 := ⟨k - 1, by omega⟩
  rw [spec_l1Has.l0, if_neg (by omega), List.drop_eq_nil_of_le (by omega)]
  rfl
 | d + 1, k, i, hd, hi, hk => by
  obtain ⟨k, rfl⟩ : ∃ m, k = m + 1 := ⟨k - 1, by omega⟩
  have ih := has_l x l hn d k (i + 1) (by omega) (by omega) (by omega)
  have hlt : i < l.length := by omega
  rw [spec_l1Has.l0, if_pos (by omega), if_pos (by omega), List.drop_eq_getElem_cons hlt, rd_get hlt, w64 (by omega) (by omega), show ((i : Int) + 1) = ((i + 1 : Nat) : Int) by omega, ih, List.contains_cons]
  by_cases h : l[i] = x
  · rw [if_pos h, beq_iff_eq.mpr h.symm, Bool.true_or]
  · rw [if_neg h, beq_eq_false_iff_ne.mpr (fun e => h e.symm), Bool.false_or]
theorem has_p {l : List Int} {x : Int} {k : Nat} (hn : l.length ≤ 1000) (hk : l.length < k) : spec_l1Has.f k l x = some (l.contains x) := by
 have h := has_l x l hn l.length k 0 (by omega) (by omega) hk
 rw [List.drop_zero] at h
 exact h
def wideC (c a : Int) : Int := if c = 9 ∨ c = 10 ∨ 14 ≤ c ∨ a = 10 ∨ a = 13 then 0 else if a = 105 ∨ a = 106 ∨ a = 108 ∨ a = 102 ∨ a = 116 then 6 else if a = 109 ∨ a = 119 then 16 else if 19968 ≤ a ∧ a ≤ 40959 then 20 else if c = 2 ∨ c = 3 then 12 else if c = 11 then 40 else if c = 12 ∨ c = 8 then 6 else 10
def wideV (a : Int) : Int := wideC (bidiV a) a
theorem wideV_le (a : Int) : 0 ≤ wideV a ∧ wideV a ≤ 40 := by unfold wideV wideC; grind
theorem wide_i {k : Nat} (hk : 10 ≤ k) (a : Int) : impl_RuneWide.f k a = some (wideV a) := by
 obtain ⟨k, rfl⟩ : ∃ m, k = m + 10 := ⟨k - 10, by omega⟩
 unfold impl_RuneWide.f wideV
 rw [impl_bidi_p, Option.bind_some]
 generalize bidiV a = c
 simp only [impl_RuneWide.j0, impl_RuneWide.j1, impl_RuneWide.j2, impl_RuneWide.j3, impl_RuneWide.j4, wideC]
 grind (splits := 40)
theorem wide_s {k : Nat} (hk : 30 ≤ k) (a : Int) : spec_RuneWide.f k a = some (wideV a) := by
 obtain ⟨k, rfl⟩ : ∃ m, k = m + 30 := ⟨k - 30, by omega⟩
 unfold spec_RuneWide.f wideV
 rw [spec_bidi_k (by omega), Option.bind_some]
 generalize bidiV a = c
 have hh : ∀ k' : Nat, 20 ≤ k' → spec_l1Has.f k' [105, 106, 108, 102, 116] a = some (decide (a = 105 ∨ a = 106 ∨ a = 108 ∨ a = 102 ∨ a = 116)) := fun k' hk' => by
  rw [has_p (by decide) (by show 5 < k'; omega)]
  congr 1
  rw [Bool.eq_iff_iff]
  simp
 simp only [spec_RuneWide.j0, spec_RuneWide.j1, spec_RuneWide.j2, l1In_f, Option.bind_some, wideC, hh (k + 29) (by omega)]
 grind (splits := 40)
def signC (a : Int) : Int := if a = 40 ∨ a = 91 ∨ a = 123 then 8 else if a = 41 ∨ a = 93 ∨ a = 125 then 9 else if a = 33 ∨ a = 63 then 10 else if a = 34 then 11 else if a = 45 then 12 else if a = 44 ∨ a = 46 ∨ a = 58 ∨ a = 59 ∨ a = 47 then 13 else if a = 9 ∨ a = 173 then 14 else 1
theorem signs_s {k : Nat} (hk : 10 ≤ k) (a : Int) : spec_l5Signs.f k a = some (signC a) := by
 obtain ⟨k, rfl⟩ : ∃ m, k = m + 10 := ⟨k - 10, by omega⟩
 simp only [spec_l5Signs.f, spec_l5Signs.j0, spec_l5Signs.j1, spec_l5Signs.j2, spec_l5Signs.j3, signC]
 grind (splits := 60)
def tailC (a : Int) : Int := if a = 10 then 4 else if a = 32 then 3 else if a = 160 then 5 else if a = 8203 then 6 else if a = 8205 then 7 else if (48 ≤ a ∧ a ≤ 57) ∨ (1632 ≤ a ∧ a ≤ 1641) then 2 else if 19968 ≤ a ∧ a ≤ 40959 then 15 else signC a
def lineV (a : Int) : Int := if bidiV a = 9 ∨ 14 ≤ bidiV a then 7 else tailC a
theorem line_s {k : Nat} (hk : 40 ≤ k) (a : Int) : spec_RuneLine.f k a = some (lineV a) := by
 obtain ⟨k, rfl⟩ : ∃ m, k = m + 40 := ⟨k - 40, by omega⟩
 unfold spec_RuneLine.f lineV tailC
 rw [spec_bidi_k (by omega)]
 by_cases h0 : a = 10
 · subst h0; rfl
 by_cases h1 : a = 32
 · subst h1; rfl
 by_cases h2 : a = 160
 · subst h2; rfl
 by_cases h3 : a = 8203
 · subst h3; rfl
 rw [if_neg h0, if_neg h1, if_neg h2, if_neg h3, if_neg h0, if_neg h1, if_neg h2, if_neg h3, Option.bind_some, Option.bind_some]
 generalize bidiV a = c
 simp only [spec_RuneLine.j0, spec_RuneLine.j1, l1In_f, Option.bind_some, signs_s (k := k + 38) (by omega)]
 grind (splits := 40)
theorem tail_chain (a : Int) : (if 9 ≤ a ∧ a ≤ 9 then (14 : Int) else if 10 ≤ a ∧ a ≤ 10 then (4 : Int) else if 32 ≤ a ∧ a ≤ 32 then (3 : Int) else if 33 ≤ a ∧ a ≤ 33 then (10 : Int) else if 34 ≤ a ∧ a ≤ 34 then (11 : Int) else if 40 ≤ a ∧ a ≤ 40 then (8 : Int) else if 41 ≤ a ∧ a ≤ 41 then (9 : Int) else if 44 ≤ a ∧ a ≤ 44 then (13 : Int) else if 45 ≤ a ∧ a ≤ 45 then (12 : Int) else if 46 ≤ a ∧ a ≤ 47 then (13 : Int) else if 48 ≤ a ∧ a ≤ 57 then (2 : Int) else if 58 ≤ a ∧ a ≤ 59 then (13 : Int) else if 63 ≤ a ∧ a ≤ 63 then (10 : Int) else if 91 ≤ a ∧ a ≤ 91 then (8 : Int) else if 93 ≤ a ∧ a ≤ 93 then (9 : Int) else if 123 ≤ a ∧ a ≤ 123 then (8 : Int) else if 125 ≤ a ∧ a ≤ 125 then (9 : Int) else if 160 ≤ a ∧ a ≤ 160 then (5 : Int) else if 173 ≤ a ∧ a ≤ 173 then (14 : Int) else if 1632 ≤ a ∧ a ≤ 1641 then (2 : Int) else if 8203 ≤ a ∧ a ≤ 8203 then (6 : Int) else if 8205 ≤ a ∧ a ≤ 8205 then (7 : Int) else if 19968 ≤ a ∧ a ≤ 40959 then (15 : Int) else 1) = tailC a := by
 unfold tailC signC
 by_cases h9 : a < 9
 · (repeat (first | rw [if_pos (by omega)] | rw [if_neg (by omega)])) <;> try rfl
 by_cases h10 : a < 10
 · (repeat (first | rw [if_pos (by omega)] | rw [if_neg (by omega)])) <;> try rfl
 clear h9
 by_cases h11 : a < 11
 · (repeat (first | rw [if_pos (by omega)] | rw [if_neg (by omega)])) <;> try rfl
 clear h10
 by_cases h32 : a < 32
 · (repeat (first | rw [if_pos (by omega)] | rw [if_neg (by omega)])) <;> try rfl
 clear h11
 by_cases h33 : a < 33
 · (repeat (first | rw [if_pos (by omega)] | rw [if_neg (by omega)])) <;> try rfl
 clear h32
 by_cases h34 : a < 34
 · (repeat (first | rw [if_pos (by omega)] | rw [if_neg (by omega)])) <;> try rfl
 clear h33
 by_cases h35 : a < 35
 · (repeat (first | rw [if_pos (by omega)] | rw [if_neg (by omega)])) <;> try rfl
 clear h34
 by_cases h40 : a < 40
 · (repeat (first | rw [if_pos (by omega)] | rw [if_neg (by omega)])) <;> try rfl
 clear h35
 by_cases h41 : a < 41
 · (repeat (first | rw [if_pos (by omega)] | rw [if_neg (by omega)])) <;> try rfl
 clear h40
 by_cases h42 : a < 42
 · (repeat (first | rw [if_pos (by omega)] | rw [if_neg (by omega)])) <;> try rfl
 clear h41
 by_cases h44 : a < 44
 · (repeat (first | rw [if_pos (by omega)] | rw [if_neg (by omega)])) <;> try rfl
 clear h42
 by_cases h45 : a < 45
 · (repeat (first | rw [if_pos (by omega)] | rw [if_neg (by omega)])) <;> try rfl
 clear h44
 by_cases h46 : a < 46
 · (repeat (first | rw [if_pos (by omega)] | rw [if_neg (by omega)])) <;> try rfl
 clear h45
 by_cases h48 : a < 48
 · (repeat (first | rw [if_pos (by omega)] | rw [if_neg (by omega)])) <;> try rfl
 clear h46
 by_cases h58 : a < 58
 · (repeat (first | rw [if_pos (by omega)] | rw [if_neg (by omega)])) <;> try rfl
 clear h48
 by_cases h60 : a < 60
 · (repeat (first | rw [if_pos (by omega)] | rw [if_neg (by omega)])) <;> try rfl
 clear h58
 by_cases h63 : a < 63
 · (repeat (first | rw [if_pos (by omega)] | rw [if_neg (by omega)])) <;> try rfl
 clear h60
 by_cases h64 : a < 64
 · (repeat (first | rw [if_pos (by omega)] | rw [if_neg (by omega)])) <;> try rfl
 clear h63
 by_cases h91 : a < 91
 · (repeat (first | rw [if_pos (by omega)] | rw [if_neg (by omega)])) <;> try rfl
 clear h64
 by_cases h92 : a < 92
 · (repeat (first | rw [if_pos (by omega)] | rw [if_neg (by omega)])) <;> try rfl
 clear h91
 by_cases h93 : a < 93
 · (repeat (first | rw [if_pos (by omega)] | rw [if_neg (by omega)])) <;> try rfl
 clear h92
 by_cases h94 : a < 94
 · (repeat (first | rw [if_pos (by omega)] | rw [if_neg (by omega)])) <;> try rfl
 clear h93
 by_cases h123 : a < 123
 · (repeat (first | rw [if_pos (by omega)] | rw [if_neg (by omega)])) <;> try rfl
 clear h94
 by_cases h124 : a < 124
 · (repeat (first | rw [if_pos (by omega)] | rw [if_neg (by omega)])) <;> try rfl
 clear h123
 by_cases h125 : a < 125
 · (repeat (first | rw [if_pos (by omega)] | rw [if_neg (by omega)])) <;> try rfl
 clear h124
 by_cases h126 : a < 126
 · (repeat (first | rw [if_pos (by omega)] | rw [if_neg (by omega)])) <;> try rfl
 clear h125
 by_cases h160 : a < 160
 · (repeat (first | rw [if_pos (by omega)] | rw [if_neg (by omega)])) <;> try rfl
 clear h126
 by_cases h161 : a < 161
 · (repeat (first | rw [if_pos (by omega)] | rw [if_neg (by omega)])) <;> try rfl
 clear h160
 by_cases h173 : a < 173
 · (repeat (first | rw [if_pos (by omega)] | rw [if_neg (by omega)])) <;> try rfl
 clear h161
 by_cases h174 : a < 174
 · (repeat (first | rw [if_pos (by omega)] | rw [if_neg (by omega)])) <;> try rfl
 clear h173
 by_cases h1632 : a < 1632
 · (repeat (first | rw [if_pos (by omega)] | rw [if_neg (by omega)])) <;> try rfl
 clear h174
 by_cases h1642 : a < 1642
 · (repeat (first | rw [if_pos (by omega)] | rw [if_neg (by omega)])) <;> try rfl
 clear h1632
 by_cases h8203 : a < 8203
 · (repeat (first | rw [if_pos (by omega)] | rw [if_neg (by omega)])) <;> try rfl
 clear h1642
 by_cases h8204 : a < 8204
 · (repeat (first | rw [if_pos (by omega)] | rw [if_neg (by omega)])) <;> try rfl
 clear h8203
 by_cases h8205 : a < 8205
 · (repeat (first | rw [if_pos (by omega)] | rw [if_neg (by omega)])) <;> try rfl
 clear h8204
 by_cases h8206 : a < 8206
 · (repeat (first | rw [if_pos (by omega)] | rw [if_neg (by omega)])) <;> try rfl
 clear h8205
 by_cases h19968 : a < 19968
 · (repeat (first | rw [if_pos (by omega)] | rw [if_neg (by omega)])) <;> try rfl
 clear h8206
 by_cases h40960 : a < 40960
 · (repeat (first | rw [if_pos (by omega)] | rw [if_neg (by omega)])) <;> try rfl
 clear h19968
 (repeat (first | rw [if_pos (by omega)] | rw [if_neg (by omega)])) <;> try rfl
theorem reach_i (a : Int) : (impl_lineReaches.f).bind (fun t => impl_find.f t a 1) = some (tailC a) := by
 unfold impl_lineReaches.f impl_find.f
 rw [Option.bind_some, if_pos (by decide), findV_eq (by decide), ← tail_chain]
 simp only [find_if, List.find?_nil, inR_iff]
 congr 1
 by_cases h : 9 ≤ a ∧ a ≤ 9
 · simp only [if_pos h]
 simp only [if_neg h]; clear h
 by_cases h : 10 ≤ a ∧ a ≤ 10
 · simp only [if_pos h]
 simp only [if_neg h]; clear h
 by_cases h : 32 ≤ a ∧ a ≤ 32
 · simp only [if_pos h]
 simp only [if_neg h]; clear h
 by_cases h : 33 ≤ a ∧ a ≤ 33
 · simp only [if_pos h]
 simp only [if_neg h]; clear h
 by_cases h : 34 ≤ a ∧ a ≤ 34
 · simp only [if_pos h]
 simp only [if_neg h]; clear h
 by_cases h : 40 ≤ a ∧ a ≤ 40
 · simp only [if_pos h]
 simp only [if_neg h]; clear h
 by_cases h : 41 ≤ a ∧ a ≤ 41
 · simp only [if_pos h]
 simp only [if_neg h]; clear h
 by_cases h : 44 ≤ a ∧ a ≤ 44
 · simp only [if_pos h]
 simp only [if_neg h]; clear h
 by_cases h : 45 ≤ a ∧ a ≤ 45
 · simp only [if_pos h]
 simp only [if_neg h]; clear h
 by_cases h : 46 ≤ a ∧ a ≤ 47
 · simp only [if_pos h]
 simp only [if_neg h]; clear h
 by_cases h : 48 ≤ a ∧ a ≤ 57
 · simp only [if_pos h]
 simp only [if_neg h]; clear h
 by_cases h : 58 ≤ a ∧ a ≤ 59
 · simp only [if_pos h]
 simp only [if_neg h]; clear h
 by_cases h : 63 ≤ a ∧ a ≤ 63
 · simp only [if_pos h]
 simp only [if_neg h]; clear h
 by_cases h : 91 ≤ a ∧ a ≤ 91
 · simp only [if_pos h]
 simp only [if_neg h]; clear h
 by_cases h : 93 ≤ a ∧ a ≤ 93
 · simp only [if_pos h]
 simp only [if_neg h]; clear h
 by_cases h : 123 ≤ a ∧ a ≤ 123
 · simp only [if_pos h]
 simp only [if_neg h]; clear h
 by_cases h : 125 ≤ a ∧ a ≤ 125
 · simp only [if_pos h]
 simp only [if_neg h]; clear h
 by_cases h : 160 ≤ a ∧ a ≤ 160
 · simp only [if_pos h]
 simp only [if_neg h]; clear h
 by_cases h : 173 ≤ a ∧ a ≤ 173
 · simp only [if_pos h]
 simp only [if_neg h]; clear h
 by_cases h : 1632 ≤ a ∧ a ≤ 1641
 · simp only [if_pos h]
 simp only [if_neg h]; clear h
 by_cases h : 8203 ≤ a ∧ a ≤ 8203
 · simp only [if_pos h]
 simp only [if_neg h]; clear h
 by_cases h : 8205 ≤ a ∧ a ≤ 8205
 · simp only [if_pos h]
 simp only [if_neg h]; clear h
 by_cases h : 19968 ≤ a ∧ a ≤ 40959
 · simp only [if_pos h]
 simp only [if_neg h]
theorem line_i {k : Nat} (hk : 10 ≤ k) (a : Int) : impl_RuneLine.f k a = some (lineV a) := by
 obtain ⟨k, rfl⟩ : ∃ m, k = m + 10 := ⟨k - 10, by omega⟩
 unfold impl_RuneLine.f lineV
 rw [impl_bidi_p, Option.bind_some]
 have hr := reach_i a
 by_cases h0 : bidiV a = 9
 · rw [if_pos h0, if_pos (.inl h0), impl_RuneLine.j0, if_pos rfl]
 ·
  rw [if_neg h0, impl_RuneLine.j0]
  by_cases h1 : bidiV a ≥ 14
  · rw [decide_eq_true h1, if_pos rfl, if_pos (.inr h1)]
  ·
   rw [decide_eq_false h1, if_neg (by decide), if_neg (by omega), ← hr]
   congr 1
   funext t
   cases impl_find.f t a 1 <;> rfl
end Go.Proofs.YtmcdcogedcbndaaGreat.Pure
/- Which letters join the one ahead, by both texts. -/
namespace Go.Proofs.YtmcdcogedcbndaaGreat.Pure
open Go.RowKit Go.Proofs.YtmcdcogedcbndaaGreat.S Go.Proofs.YtmcdcogedcbndaaGreatW.PrintWords Go.Proofs.YtmcdcogedcbndaaGreatW.PrintLast
def flagB (a : Int) : Bool := decide (127462 ≤ a ∧ a ≤ 127487)
def flN (rs : List Int) : Nat → Nat
 | 0 => 0
 | i + 1 => if flagB (rs.getD i 0) = true then flN rs i + 1 else 0
def jV (rs : List Int) (i : Nat) : Bool :=
 if rs.getD i 0 = 10 ∨ rs.getD (i - 1) 0 = 10 then decide (rs.getD (i - 1) 0 = 13 ∧ rs.getD i 0 = 10)
 else if bidiV (rs.getD i 0) = 9 ∨ rs.getD i 0 = 8205 then true else flagB (rs.getD i 0) && decide (flN rs i % 2 = 1)
theorem dec13 {p r : Int} (h : p = 13) : (r == 10) = decide (p = 13 ∧ r = 10) := by
 subst h
 by_cases e : r = 10
 · subst e; rfl
 · rw [beq_eq_false_iff_ne.mpr e, decide_eq_false (fun h => e h.2)]
theorem flag_s (a : Int) : spec_l2Flag.f a = some (flagB a) := by
 unfold spec_l2Flag.f flagB
 rw [l1In_f, Option.bind_some]
theorem flag_i (a : Int) : impl_isRegional.f a = some (flagB a) := by
 unfold impl_isRegional.f flagB
 by_cases h : a ≥ 127462
 ·
  rw [if_pos h]
  congr 1
  rw [decide_eq_decide]
  omega
 · rw [if_neg h, decide_eq_false (by omega)]
theorem joinS_l (rs : List Int) (r : Int) (hn : rs.length ≤ 1000) : ∀ (m k n : Nat), m ≤ rs.length → m < k → n + m ≤ 1000 → spec_l2Joins.l0 k rs r (n : Int) ((m : Int) - 1) = some (flagB r && decide ((n + flN rs m) % 2 = 1))
 | 0, k, n, hm, hk, hn1 => by
  obtain ⟨k, rfl⟩ : ∃ m, k = m + 1 := ⟨k - 1, by omega⟩
  rw [spec_l2Joins.l0, if_neg (by omega), flag_s, Option.bind_some, flN, Nat.add_zero]
  cases flagB r
  · rfl
  ·
   rw [if_pos rfl, Bool.true_and]
   congr 1
   rw [show Int.tmod (n : Int) 2 = ((n % 2 : Nat) : Int) by rw [Int.tmod_eq_emod_of_nonneg (by omega)]; rfl]
   rw [Bool.eq_iff_iff]
   simp
   omega
 | m + 1, k, n, hm, hk, hn1 => by
  obtain ⟨k, rfl⟩ : ∃ m, k = m + 1 := ⟨k - 1, by omega⟩
  rw [spec_l2Joins.l0, show ((m + 1 : Nat) : Int) - 1 = (m : Int) by omega, if_pos (by omega), if_pos (by omega), if_pos (by omega), flag_s, Option.bind_some, rd_nat, flN]
  by_cases h : flagB (rs.getD m 0) = true
  ·
   rw [if_pos h, if_pos h, w64 (by omega) (by omega), w64 (by omega) (by omega)]
   have := joinS_l rs r hn m k (n + 1) (by omega) (by omega) (by omega)
   rw [show ((n + 1 : Nat) : Int) = (n : Int) + 1 by omega] at this
   rw [this, show n + 1 + flN rs m = n + (flN rs m + 1) by omega]
  ·
   rw [if_neg h, if_neg h, Nat.add_zero, flag_s, Option.bind_some]
   cases flagB r
   · rfl
   ·
    rw [if_pos rfl, Bool.true_and]
    congr 1
    rw [show Int.tmod (n : Int) 2 = ((n % 2 : Nat) : Int) by rw [Int.tmod_eq_emod_of_nonneg (by omega)]; rfl]
    rw [Bool.eq_iff_iff]
    simp
    omega
theorem join_s {rs : List Int} {i k : Nat} (hn : rs.length ≤ 1000) (h0 : 0 < i) (hi : i < rs.length) (hk : rs.length + 40 ≤ k) : spec_l2Joins.f k rs (i : Int) = some (jV rs i) := by
 obtain ⟨k, rfl⟩ : ∃ m, k = m + 2 := ⟨k - 2, by omega⟩
 have w1 : wrap64 ((i : Int) - 1) = ((i - 1 : Nat) : Int) := by rw [w64 (by omega) (by omega)]; omega
 unfold spec_l2Joins.f jV
 rw [if_pos (by omega), if_pos (by omega), rd_nat, w1, rd_nat]
 have J0 : ∀ b : Bool, spec_l2Joins.j0 (k + 2) rs (i : Int) (rs.getD i 0) b = if b = true then some (decide (rs.getD (i - 1) 0 = 13 ∧ rs.getD i 0 = 10)) else some (if bidiV (rs.getD i 0) = 9 ∨ rs.getD i 0 = 8205 then true else flagB (rs.getD i 0) && decide (flN rs i % 2 = 1)) := by
  intro b
  have L := joinS_l rs (rs.getD i 0) hn i k 0 (by omega) (by omega) (by omega)
  rw [Nat.zero_add] at L
  cases b
  ·
   rw [spec_l2Joins.j0, if_neg (by decide), if_neg (by decide), spec_bidi_k (by omega), Option.bind_some]
   by_cases h9 : bidiV (rs.getD i 0) = 9
   · rw [if_pos h9, if_pos (.inl h9), spec_l2Joins.j1, if_pos rfl]
   ·
    rw [if_neg h9, spec_l2Joins.j1]
    by_cases h8 : rs.getD i 0 = 8205
    · rw [beq_iff_eq.mpr h8, if_pos rfl, if_pos (.inr h8)]
    ·
     rw [beq_eq_false_iff_ne.mpr h8, if_neg (by decide), if_neg (by rintro (h | h); exact h9 h; exact h8 h), w64 (x := (i : Int) - 1) (by omega) (by omega)]
     exact L
  ·
   rw [spec_l2Joins.j0, if_pos rfl, if_pos rfl, w1, if_pos (by omega), if_pos (by omega), rd_nat]
   by_cases h13 : rs.getD (i - 1) 0 = 13
   · rw [if_pos h13, dec13 h13]
   · rw [if_neg h13, decide_eq_false (fun h => h13 h.1)]
 by_cases h10 : rs.getD i 0 = 10
 · rw [if_pos h10, J0, if_pos rfl, if_pos (.inl h10)]
 ·
  rw [if_neg h10, if_pos (by omega), if_pos (by omega), J0]
  by_cases hp : rs.getD (i - 1) 0 = 10
  · rw [beq_iff_eq.mpr hp, if_pos rfl, if_pos (.inr hp)]
  · rw [beq_eq_false_iff_ne.mpr hp, if_neg (show ¬ (rs.getD i 0 = 10 ∨ rs.getD (i - 1) 0 = 10) by rintro (h | h); exact h10 h; exact hp h), if_neg (show ¬ (false = true) by decide)]
def stV (rs : List Int) (i : Nat) : Int := if i = 0 then 0 else if rs.getD (i - 1) 0 = 13 then 1 else if rs.getD (i - 1) 0 = 10 then 2 else if flagB (rs.getD (i - 1) 0) = true then (if flN rs i % 2 = 1 then 3 else 4) else 5
theorem st_next {rs : List Int} {i k : Nat} (hk : 2 ≤ k) : impl_joining_next.f k (stV rs i) (rs.getD i 0) = some (stV rs (i + 1)) := by
 obtain ⟨k, rfl⟩ : ∃ m, k = m + 2 := ⟨k - 2, by omega⟩
 unfold impl_joining_next.f
 have e : stV rs (i + 1) = if rs.getD i 0 = 13 then 1 else if rs.getD i 0 = 10 then 2 else if flagB (rs.getD i 0) = true then (if flN rs (i + 1) % 2 = 1 then 3 else 4) else 5 := by
  unfold stV
  rw [if_neg (by omega), Nat.add_sub_cancel]
 rw [e]
 by_cases h13 : rs.getD i 0 = 13
 · rw [if_pos h13, if_pos h13]
 rw [if_neg h13, if_neg h13]
 by_cases h10 : rs.getD i 0 = 10
 · rw [if_pos h10, if_pos h10]
 rw [if_neg h10, if_neg h10, flag_i, Option.bind_some, flN]
 by_cases hf : flagB (rs.getD i 0) = true
 ·
  rw [if_pos hf, if_pos hf, if_pos hf, impl_joining_next.j0]
  by_cases h3 : stV rs i = 3
  ·
   rw [beq_iff_eq.mpr h3, if_pos rfl]
   have : flN rs i % 2 = 1 := by
    unfold stV at h3
    grind
   rw [if_neg (by omega)]
  ·
   rw [beq_eq_false_iff_ne.mpr h3, if_neg (by decide), flag_i, Option.bind_some, if_pos hf]
   have : flN rs i % 2 = 0 := by
    unfold stV at h3
    by_cases h0 : i = 0
    · subst h0; rfl
    ·
     obtain ⟨j, rfl⟩ : ∃ j, i = j + 1 := ⟨i - 1, by omega⟩
     rw [if_neg h0, Nat.add_sub_cancel] at h3
     by_cases hg : flagB (rs.getD j 0) = true
     ·
      have n13 : rs.getD j 0 ≠ 13 := by intro h; rw [h] at hg; exact absurd hg (by decide)
      have n10 : rs.getD j 0 ≠ 10 := by intro h; rw [h] at hg; exact absurd hg (by decide)
      rw [if_neg n13, if_neg n10, if_pos hg] at h3
      by_cases ho : flN rs (j + 1) % 2 = 1
      · rw [if_pos ho] at h3; exact absurd rfl h3
      · omega
     · rw [flN, if_neg hg]
   rw [if_pos (by omega)]
 · rw [if_neg hf, if_neg hf, impl_joining_next.j0, if_neg (by decide), flag_i, Option.bind_some, if_neg hf]
theorem st_joins {rs : List Int} {i k : Nat} (hk : 2 ≤ k) : impl_joining_joins.f k (stV rs i) (rs.getD i 0) = some (if i = 0 then false else jV rs i) := by
 obtain ⟨k, rfl⟩ : ∃ m, k = m + 2 := ⟨k - 2, by omega⟩
 unfold impl_joining_joins.f
 by_cases h0 : i = 0
 ·
  subst h0
  rfl
 rw [if_neg h0]
 have hs0 : stV rs i ≠ 0 := by unfold stV; grind
 have hs2 : stV rs i = 2 ↔ rs.getD (i - 1) 0 = 10 := by unfold stV; grind
 have hs1 : stV rs i = 1 ↔ rs.getD (i - 1) 0 = 13 := by unfold stV; grind
 have hs3 : stV rs i = 3 ↔ flN rs i % 2 = 1 := by
  obtain ⟨j, rfl⟩ : ∃ j, i = j + 1 := ⟨i - 1, by omega⟩
  unfold stV
  rw [if_neg h0, Nat.add_sub_cancel]
  by_cases hg : flagB (rs.getD j 0) = true
  ·
   have n13 : rs.getD j 0 ≠ 13 := by intro h; rw [h] at hg; exact absurd hg (by decide)
   have n10 : rs.getD j 0 ≠ 10 := by intro h; rw [h] at hg; exact absurd hg (by decide)
   rw [if_neg n13, if_neg n10, if_pos hg]
   grind
  ·
   rw [if_neg hg, flN, if_neg hg]
   grind
 generalize stV rs i = s at hs0 hs1 hs2 hs3
 unfold jV
 rw [if_neg hs0]
 have J : ∀ b : Bool, impl_joining_joins.j0 (k + 2) s (rs.getD i 0) b = if b = true then some (decide (rs.getD (i - 1) 0 = 13 ∧ rs.getD i 0 = 10)) else some (if bidiV (rs.getD i 0) = 9 ∨ rs.getD i 0 = 8205 then true else flagB (rs.getD i 0) && decide (flN rs i % 2 = 1)) := by
  intro b
  cases b
  ·
   rw [impl_joining_joins.j0]
   simp only [Bool.false_eq_true, if_false]
   rw [impl_bidi_p, Option.bind_some]
   by_cases h9 : bidiV (rs.getD i 0) = 9
   · rw [if_pos h9, if_pos (.inl h9)]
   ·
    rw [if_neg h9]
    by_cases h8 : rs.getD i 0 = 8205
    · rw [if_pos h8, if_pos (.inr h8)]
    ·
     rw [if_neg h8, if_neg (by rintro (h | h); exact h9 h; exact h8 h), flag_i, Option.bind_some]
     cases flagB (rs.getD i 0)
     · rfl
     ·
      rw [if_pos rfl, Bool.true_and]
      congr 1
      rw [Bool.eq_iff_iff, beq_iff_eq, decide_eq_true_eq]
      exact hs3
  ·
   rw [impl_joining_joins.j0, if_pos rfl, if_pos rfl]
   by_cases h1 : s = 1
   · rw [if_pos h1, dec13 (hs1.mp h1)]
   · rw [if_neg h1, decide_eq_false (fun h => h1 (hs1.mpr h.1))]
 by_cases h2 : s = 2
 · rw [if_pos h2, J, if_pos rfl, if_pos (.inr (hs2.mp h2))]
 ·
  rw [if_neg h2, J]
  by_cases h10 : rs.getD i 0 = 10
  · rw [beq_iff_eq.mpr h10, if_pos rfl, if_pos (.inl h10)]
  · rw [beq_eq_false_iff_ne.mpr h10, if_neg (show ¬ (rs.getD i 0 = 10 ∨ rs.getD (i - 1) 0 = 10) by rintro (h | h); exact h10 h; exact h2 (hs2.mpr h)), if_neg (show ¬ (false = true) by decide)]
def jAt (rs : List Int) (i : Nat) : Bool := if i = 0 then false else jV rs i
def jsV (rs : List Int) : List Bool := (List.range rs.length).map (jAt rs)
theorem jsV_len (rs : List Int) : (jsV rs).length = rs.length := by simp [jsV]
theorem jsV_get {rs : List Int} {i : Nat} (h : i < rs.length) : (jsV rs).getD i false = jAt rs i := by simp [jsV, List.getD_eq_getElem?_getD, h]
theorem joined_l (rs : List Int) (hn : rs.length ≤ 1000) : ∀ (d k i : Nat), rs.length - i = d → i ≤ rs.length → d + 10 < k → impl_joined.l0 k ((List.range i).map (jAt rs)) (stV rs i) rs (rs.length : Int) (i : Int) = some (jsV rs)
 | 0, k, i, hd, hi, hk => by
  obtain ⟨k, rfl⟩ : ∃ m, k = m + 1 := ⟨k - 1, by omega⟩
  obtain rfl : i = rs.length := by omega
  rw [impl_joined.l0, if_neg (by omega)]
  rfl
 | d + 1, k, i, hd, hi, hk => by
  obtain ⟨k, rfl⟩ : ∃ m, k = m + 1 := ⟨k - 1, by omega⟩
  rw [impl_joined.l0, if_pos (by omega), if_pos (by omega), if_pos (by omega), rd_nat, st_joins (by omega), Option.bind_some, if_pos (by simp; omega), st_next (by omega), Option.bind_some, w64 (by omega) (by omega)]
  have := joined_l rs hn d k (i + 1) (by omega) (by omega) (by omega)
  rw [List.range_succ, List.map_append, List.map_cons, List.map_nil] at this
  exact this
theorem joined_p {rs : List Int} {k : Nat} (hn : rs.length ≤ 1000) (hk : rs.length + 10 < k) : impl_joined.f k rs = some (jsV rs) := by
 have h := joined_l rs hn rs.length k 0 (by omega) (by omega) hk
 exact h
end Go.Proofs.YtmcdcogedcbndaaGreat.Pure
/- Where lines may end, by both texts. -/
namespace Go.Proofs.YtmcdcogedcbndaaGreat.Pure
open Go.RowKit Go.Proofs.YtmcdcogedcbndaaGreat.S Go.Proofs.YtmcdcogedcbndaaGreatW.PrintWords Go.Proofs.YtmcdcogedcbndaaGreatW.PrintLast
def spc (c : Int) : Prop := c = 3 ∨ c = 4 ∨ c = 6
instance (c : Int) : Decidable (spc c) := by unfold spc; infer_instance
theorem inL_346 (c : Int) : inL [3, 4, 6] c = decide (spc c) := by
 unfold inL
 rw [Bool.eq_iff_iff, decide_eq_true_eq]
 unfold spc
 simp
theorem after_i {k : Nat} (hk : 4 ≤ k) (c : Int) : impl_afterSpace.f k c = some (decide (spc c)) := by
 unfold impl_afterSpace.f
 rw [one_f k c [3, 4, 6] (by decide) (by show 3 < k; omega), Option.bind_some, ← inL_346]
 rfl
def cntV (rs : List Int) : Nat → Int
 | 0 => if lineV (rs.getD 0 0) = 7 then 1 else lineV (rs.getD 0 0)
 | i + 1 => if lineV (rs.getD (i + 1) 0) = 7 then (if spc (cntV rs i) then 1 else cntV rs i) else lineV (rs.getD (i + 1) 0)
def csV (rs : List Int) : List Int := (List.range rs.length).map (cntV rs)
theorem csV_len (rs : List Int) : (csV rs).length = rs.length := by simp [csV]
theorem csV_get {rs : List Int} {i : Nat} (h : i < rs.length) : (csV rs).getD i 0 = cntV rs i := by simp [csV, List.getD_eq_getElem?_getD, h]
theorem pre_get (f : Nat → Int) {i n : Nat} (h : i < n) : ((List.range n).map f).getD i 0 = f i := by simp [List.getD_eq_getElem?_getD, h]
theorem countsI_l (rs : List Int) (hn : rs.length ≤ 1000) : ∀ (d k i : Nat), rs.length - i = d → i ≤ rs.length → d + 50 < k → impl_countsOf.l0 k ((List.range i).map (cntV rs)) rs (rs.length : Int) (i : Int) = some (csV rs)
 | 0, k, i, hd, hi, hk => by
  obtain ⟨k, rfl⟩ : ∃ m, k = m + 1 := ⟨k - 1, by omega⟩
  obtain rfl : i = rs.length := by omega
  rw [impl_countsOf.l0, if_neg (by omega)]
  rfl
 | d + 1, k, i, hd, hi, hk => by
  obtain ⟨k, rfl⟩ : ∃ m, k = m + 1 := ⟨k - 1, by omega⟩
  have ih := countsI_l rs hn d k (i + 1) (by omega) (by omega) (by omega)
  rw [List.range_succ, List.map_append, List.map_cons, List.map_nil] at ih
  have hl : ((List.range i).map (cntV rs)).length < 17592186044416 := by simp; omega
  have w2 : wrap64 ((i : Int) + 1) = ((i + 1 : Nat) : Int) := by rw [w64 (by omega) (by omega)]; omega
  rw [impl_countsOf.l0, if_pos (by omega), if_pos (by omega), if_pos (by omega), rd_nat, line_i (by omega), Option.bind_some, w2]
  by_cases h7 : lineV (rs.getD i 0) = 7
  ·
   rw [if_pos h7]
   by_cases h0 : i = 0
   ·
    subst h0
    rw [if_neg (by omega), if_pos hl]
    rw [cntV, if_pos h7] at ih
    exact ih
   ·
    obtain ⟨j, rfl⟩ : ∃ j, i = j + 1 := ⟨i - 1, by omega⟩
    have w1 : wrap64 (((j + 1 : Nat) : Int) - 1) = (j : Int) := by rw [w64 (by omega) (by omega)]; omega
    rw [if_pos (by omega), w1, if_pos (by omega), if_pos (by simp; omega), rd_nat, pre_get _ (by omega), after_i (by omega), Option.bind_some]
    rw [cntV, if_pos h7] at ih
    by_cases hs : spc (cntV rs j)
    ·
     rw [decide_eq_true hs, if_pos rfl, if_pos hl]
     rw [if_pos hs] at ih
     exact ih
    ·
     rw [decide_eq_false hs, if_neg (by decide), if_pos hl]
     rw [if_neg hs] at ih
     exact ih
  ·
   rw [if_neg h7, if_pos hl]
   have e : cntV rs i = lineV (rs.getD i 0) := by
    cases i with
    | zero => rw [cntV, if_neg h7]
    | succ j => rw [cntV, if_neg h7]
   rw [e] at ih
   exact ih
theorem countsI_p {rs : List Int} {k : Nat} (hn : rs.length ≤ 1000) (hk : rs.length + 50 < k) : impl_countsOf.f k rs = some (csV rs) := countsI_l rs hn rs.length k 0 (by omega) (by omega) hk
theorem countsS_l (rs : List Int) (hn : rs.length ≤ 1000) : ∀ (d k i : Nat), rs.length - i = d → i ≤ rs.length → d + 50 < k → spec_l5Counts.l0 k rs ((List.range i).map (cntV rs)) (i : Int) = some (csV rs)
 | 0, k, i, hd, hi, hk => by
  obtain ⟨k, rfl⟩ : ∃ m, k = m + 1 := ⟨k - 1, by omega⟩
  obtain rfl : i = rs.length := by omega
  rw [spec_l5Counts.l0, if_neg (by omega)]
  rfl
 | d + 1, k, i, hd, hi, hk => by
  obtain ⟨k, rfl⟩ : ∃ m, k = m + 1 := ⟨k - 1, by omega⟩
  have ih := countsS_l rs hn d k (i + 1) (by omega) (by omega) (by omega)
  rw [List.range_succ, List.map_append, List.map_cons, List.map_nil] at ih
  have hl : ((List.range i).map (cntV rs)).length < 17592186044416 := by simp; omega
  have w2 : wrap64 ((i : Int) + 1) = ((i + 1 : Nat) : Int) := by rw [w64 (by omega) (by omega)]; omega
  rw [spec_l5Counts.l0, if_pos (by omega), if_pos (by omega), rd_nat, line_s (by omega), Option.bind_some, w2]
  by_cases h7 : lineV (rs.getD i 0) = 7
  ·
   rw [if_pos h7]
   by_cases h0 : i = 0
   ·
    subst h0
    rw [if_neg (by omega), if_pos hl]
    rw [cntV, if_pos h7] at ih
    exact ih
   ·
    obtain ⟨j, rfl⟩ : ∃ j, i = j + 1 := ⟨i - 1, by omega⟩
    have w1 : wrap64 (((j + 1 : Nat) : Int) - 1) = (j : Int) := by rw [w64 (by omega) (by omega)]; omega
    rw [if_pos (by omega), w1, if_pos (by omega), if_pos (by simp; omega), rd_nat, pre_get _ (by omega)]
    rw [cntV, if_pos h7] at ih
    by_cases h3 : cntV rs j = 3
    · rw [if_pos h3, if_pos hl]; rw [if_pos (show spc (cntV rs j) from .inl h3)] at ih; exact ih
    rw [if_neg h3]
    by_cases h4 : cntV rs j = 4
    · rw [if_pos h4, if_pos hl]; rw [if_pos (show spc (cntV rs j) from .inr (.inl h4))] at ih; exact ih
    rw [if_neg h4]
    by_cases h6 : cntV rs j = 6
    · rw [if_pos h6, if_pos hl]; rw [if_pos (show spc (cntV rs j) from .inr (.inr h6))] at ih; exact ih
    rw [if_neg h6, if_pos hl]
    rw [if_neg (show ¬ spc (cntV rs j) by rintro (h | h | h); exact h3 h; exact h4 h; exact h6 h)] at ih
    exact ih
  ·
   rw [if_neg h7, if_pos hl]
   have e : cntV rs i = lineV (rs.getD i 0) := by
    cases i with
    | zero => rw [cntV, if_neg h7]
    | succ j => rw [cntV, if_neg h7]
   rw [e] at ih
   exact ih
theorem countsS_p {rs : List Int} {k : Nat} (hn : rs.length ≤ 1000) (hk : rs.length + 50 < k) : spec_l5Counts.f k rs = some (csV rs) := countsS_l rs hn rs.length k 0 (by omega) (by omega) hk
theorem place_s {k : Nat} (hk : 10 ≤ k) (a b s : Int) : spec_l5Place.f k a b s = some (placeV a b s) := by
 obtain ⟨k, rfl⟩ : ∃ m, k = m + 10 := ⟨k - 10, by omega⟩
 simp only [spec_l5Place.f, spec_l5Place.j0, spec_l5Place.j1, spec_l5Place.j2, spec_l5Inner.f, spec_l5Inner.j0, spec_l5Inner.j1, spec_l5Inner.j2, spec_l5Never.f, spec_l5Word.f, placeV, placeR, isV, ansV, wordB, inL, List.contains_cons, List.contains_nil]
 grind (splits := 60)
def solV (cs : List Int) : Nat → Int
 | 0 => 0
 | i + 1 => if cs.getD i 0 = 3 then solV cs i else cs.getD i 0
theorem before_l (cs : List Int) (hn : cs.length ≤ 1000) : ∀ (m k : Nat), m ≤ cs.length → m < k → ∃ t : Int, spec_l5Before.l0 k cs ((m : Int) - 1) = some t ∧ ((t < 0 ∧ solV cs m = 0) ∨ (0 ≤ t ∧ t < cs.length ∧ rd cs t = solV cs m))
 | 0, k, hm, hk => by
  obtain ⟨k, rfl⟩ : ∃ m, k = m + 1 := ⟨k - 1, by omega⟩
  rw [spec_l5Before.l0, if_neg (by omega)]
  exact ⟨_, rfl, .inl ⟨by omega, rfl⟩⟩
 | m + 1, k, hm, hk => by
  obtain ⟨k, rfl⟩ : ∃ m, k = m + 1 := ⟨k - 1, by omega⟩
  rw [spec_l5Before.l0, show ((m + 1 : Nat) : Int) - 1 = (m : Int) by omega, if_pos (by omega), if_pos (by omega), if_pos (by omega), rd_nat, solV]
  by_cases h : cs.getD m 0 = 3
  ·
   rw [if_pos h, if_pos h, w64 (by omega) (by omega)]
   exact before_l cs hn m k (by omega) (by omega)
  ·
   rw [if_neg h, if_neg h]
   exact ⟨_, rfl, .inr ⟨by omega, by omega, rd_nat _ _⟩⟩
def brV (rs : List Int) (i : Nat) : Int :=
 if i + 1 = rs.length then 2 else if jV rs (i + 1) = true then 0 else if lineV (rs.getD (i + 1) 0) = 7 ∧ ¬ spc (cntV rs i) then 0 else placeV (cntV rs i) (cntV rs (i + 1)) (solV (csV rs) (i + 1))
def bsV (rs : List Int) : List Int := (List.range rs.length).map (brV rs)
theorem bsV_len (rs : List Int) : (bsV rs).length = rs.length := by simp [bsV]
theorem bsV_get {rs : List Int} {i : Nat} (h : i < rs.length) : (bsV rs).getD i 0 = brV rs i := by simp [bsV, List.getD_eq_getElem?_getD, h]
theorem breaksI_l (rs : List Int) (hn : rs.length ≤ 1000) (k : Nat) (hk : 1000 ≤ k) : ∀ (d i : Nat), rs.length - i = d → i ≤ rs.length → brL k rs (csV rs) (jsV rs) d i (solV (csV rs) i) ((List.range i).map (brV rs)) = some (bsV rs)
 | 0, i, hd, hi => by
  obtain rfl : i = rs.length := by omega
  rfl
 | d + 1, i, hd, hi => by
  have ih := breaksI_l rs hn k hk d (i + 1) (by omega) (by omega)
  rw [List.range_succ, List.map_append, List.map_cons, List.map_nil, solV] at ih
  rw [brL]
  have e : brX k rs (csV rs) (jsV rs) i (if (csV rs).getD i 0 = 3 then solV (csV rs) i else (csV rs).getD i 0) = some (brV rs i) := by
   unfold brX brV
   by_cases hl : i + 1 = rs.length
   · rw [if_pos hl, if_pos hl]
   ·
    rw [if_neg hl, if_neg hl, jsV_get (by omega), show jAt rs (i + 1) = jV rs (i + 1) from if_neg (by omega)]
    by_cases hj : jV rs (i + 1) = true
    · rw [if_pos hj, if_pos hj]
    ·
     rw [if_neg hj, if_neg hj, line_i (by omega), Option.bind_some, after_i (by omega), Option.bind_some, csV_get (by omega), csV_get (by omega), solV, csV_get (by omega)]
     congr 1
     by_cases h7 : lineV (rs.getD (i + 1) 0) = 7 ∧ ¬ spc (cntV rs i)
     · rw [if_pos h7, if_pos ⟨h7.1, decide_eq_false h7.2⟩]
     · rw [if_neg h7, if_neg (fun h => h7 ⟨h.1, of_decide_eq_false h.2⟩)]
  rw [e, Option.bind_some]
  exact ih
theorem breaksI_p {rs : List Int} {k : Nat} (hn : rs.length ≤ 80) (hk : 2000 ≤ k) : impl_breaks.f k rs = some (bsV rs) := by
 unfold impl_breaks.f
 rw [countsI_p (by omega) (by omega), Option.bind_some, joined_p (by omega) (by omega), Option.bind_some, if_pos ⟨csV_len rs, jsV_len rs, by omega⟩]
 exact breaksI_l rs (by omega) k (by omega) rs.length 0 (by omega) (by omega)
theorem breaksS_l (rs : List Int) (hn : rs.length ≤ 80) : ∀ (d k i : Nat), rs.length - i = d → i ≤ rs.length → 2 * d + 500 < k → spec_l5Breaks.l0 k rs (csV rs) ((List.range i).map (brV rs)) (i : Int) = some (bsV rs)
 | 0, k, i, hd, hi, hk => by
  obtain ⟨k, rfl⟩ : ∃ m, k = m + 1 := ⟨k - 1, by omega⟩
  obtain rfl : i = rs.length := by omega
  rw [spec_l5Breaks.l0, if_neg (by rw [csV_len]; omega)]
  rfl
 | d + 1, k, i, hd, hi, hk => by
  obtain ⟨k, rfl⟩ : ∃ m, k = m + 2 := ⟨k - 2, by omega⟩
  have ih1 := breaksS_l rs hn d (k + 1) (i + 1) (by omega) (by omega) (by omega)
  have ih := breaksS_l rs hn d k (i + 1) (by omega) (by omega) (by omega)
  rw [List.range_succ, List.map_append, List.map_cons, List.map_nil] at ih ih1
  have hl : ((List.range i).map (brV rs)).length < 17592186044416 := by simp; omega
  have w2 : wrap64 ((i : Int) + 1) = ((i + 1 : Nat) : Int) := by rw [w64 (by omega) (by omega)]; omega
  have hcl := csV_len rs
  rw [spec_l5Breaks.l0, if_pos (by omega), w2]
  by_cases hlast : i + 1 = rs.length
  ·
   rw [if_pos (by omega), if_pos hl]
   have e : brV rs i = 2 := by unfold brV; rw [if_pos hlast]
   rw [e] at ih1
   exact ih1
  ·
   rw [if_neg (by omega), join_s (by omega) (by omega) (by omega) (by omega), Option.bind_some]
   have J : ∀ b : Bool, (b = true → brV rs i = 0) → (b = false → brV rs i = placeV (cntV rs i) (cntV rs (i + 1)) (solV (csV rs) (i + 1))) → spec_l5Breaks.j1 (k + 1) rs (csV rs) ((List.range i).map (brV rs)) (i : Int) b = some (bsV rs) := by
    intro b hb1 hb0
    cases b
    ·
     have hb := hb0 rfl
     obtain ⟨t, ht, hc⟩ := before_l (csV rs) (by omega) (i + 1) k (by omega) (by omega)
     rw [show ((i + 1 : Nat) : Int) - 1 = (i : Int) by omega] at ht
     rw [spec_l5Breaks.j1, if_neg (by decide)]
     unfold spec_l5Before.f
     rw [ht, Option.bind_some, w2, rd_nat, rd_nat, csV_get (by omega), csV_get (by omega)]
     rcases hc with ⟨h1, h2⟩ | ⟨h1, h2, h3⟩
     ·
      rw [if_neg (by omega), if_pos (by omega), if_pos (by omega), if_pos (by omega), if_pos (by omega), place_s (by omega), Option.bind_some, if_pos hl]
      rw [h2] at hb
      rw [hb] at ih
      exact ih
     ·
      rw [if_pos (by omega), if_pos h1, if_pos h2, if_pos (by omega), if_pos (by omega), if_pos (by omega), if_pos (by omega), place_s (by omega), Option.bind_some, if_pos hl, h3]
      rw [hb] at ih
      exact ih
    ·
     have hb := hb1 rfl
     rw [spec_l5Breaks.j1, if_pos rfl, if_pos hl, w2]
     rw [hb] at ih
     exact ih
   by_cases hj : jV rs (i + 1) = true
   ·
    rw [if_pos hj]
    exact J true (fun _ => by unfold brV; rw [if_neg hlast, if_pos hj]) (fun h => by cases h)
   ·
    rw [if_neg hj, if_pos (by omega), if_pos (by omega), rd_nat, line_s (by omega), Option.bind_some]
    have B : brV rs i = if lineV (rs.getD (i + 1) 0) = 7 ∧ ¬ spc (cntV rs i) then 0 else placeV (cntV rs i) (cntV rs (i + 1)) (solV (csV rs) (i + 1)) := by unfold brV; rw [if_neg hlast, if_neg hj]
    by_cases h7 : lineV (rs.getD (i + 1) 0) = 7
    ·
     rw [if_pos h7, if_pos (by omega), rd_nat, csV_get (by omega)]
     by_cases h3 : cntV rs i = 3
     ·
      rw [if_pos h3]
      exact J false (fun h => by cases h) (fun _ => by rw [B, if_neg (fun h => h.2 (.inl h3))])
     rw [if_neg h3]
     by_cases h4 : cntV rs i = 4
     ·
      rw [if_pos h4]
      exact J false (fun h => by cases h) (fun _ => by rw [B, if_neg (fun h => h.2 (.inr (.inl h4)))])
     rw [if_neg h4]
     by_cases h6 : cntV rs i = 6
     ·
      rw [show (cntV rs i != 6) = false from bne_eq_false_iff_eq.mpr h6]
      exact J false (fun h => by cases h) (fun _ => by rw [B, if_neg (fun h => h.2 (.inr (.inr h6)))])
     ·
      rw [show (cntV rs i != 6) = true from bne_iff_ne.mpr h6]
      exact J true (fun _ => by rw [B, if_pos ⟨h7, by rintro (h | h | h); exact h3 h; exact h4 h; exact h6 h⟩]) (fun h => by cases h)
    ·
     rw [if_neg h7]
     exact J false (fun h => by cases h) (fun _ => by rw [B, if_neg (fun h => h7 h.1)])
theorem breaksS_p {rs : List Int} {k : Nat} (hn : rs.length ≤ 80) (hk : 2000 ≤ k) : spec_l5Breaks.f k rs = some (bsV rs) := by
 unfold spec_l5Breaks.f
 rw [countsS_p (by omega) (by omega), Option.bind_some]
 exact breaksS_l rs hn rs.length k 0 (by omega) (by omega) (by omega)
end Go.Proofs.YtmcdcogedcbndaaGreat.Pure
namespace Go.Proofs.YtmcdcogedcbndaaGreat.S
open Go.RowKit Go.Proofs.YtmcdcogedcbndaaGreatW.PrintWords Go.Proofs.YtmcdcogedcbndaaGreatW.PrintLast
set_option linter.unusedVariables false
set_option linter.unusedSimpArgs false
def spec_l7Empty.f (k : Nat) (a0 : Int) : Option (Bool) := if a0 = 32 then (some true) else (if a0 = 10 then (some true) else ((spec_RuneWide.f k a0).bind fun t248 => (some (t248 == 0))))
theorem spec_l7Empty.mono : ∀ a0 k, LeO (spec_l7Empty.f k a0) (spec_l7Empty.f (k + 1) a0) := by
 intro a0 k; unfold spec_l7Empty.f
 repeat' first
   | (with_reducible exact spec_RuneWide.mono _ _)
   | (with_reducible exact LeO.refl _)
   | (with_reducible exact LeO.none _)
   | (with_reducible refine LeO.ite ?_ ?_)
   | (with_reducible refine LeO.bind ?_ (fun _ => ?_))
   | exact spec_RuneWide.mono _ _
   | exact LeO.none _
   | refine LeO.ite ?_ ?_
   | refine LeO.bind ?_ (fun _ => ?_)
theorem spec_l7Empty.calls (k : Nat) (a0 : Int) (r : Bool) (w : World) (h : spec_l7Empty.f k a0 = some r) :
  Calls Tryz.prog 128 #[.int .i64 a0] w fun e w' => e = .returned (.bool r) ∧ Below w.heap.size w w' := by
 have HB := az (Below.refl w.heap.size w); have H : (if a0 = 32 then (some true) else (if a0 = 10 then (some true) else ((spec_RuneWide.f k a0).bind fun t248 => (some (t248 == 0))))) = some r := h; clear h; by_cases c2 : a0 = 32
 ·
  rw [if_pos c2] at H; have c2b0 : (a0 == 32) = true := beq_iff_eq.mpr c2; have c2b1 : (a0 != 32) = false := bne_eq_false_iff_eq.mpr c2; clear c2; obtain rfl := Option.some.inj H; go_enter Tryz.func128, Tryz.ntmps128; go_wp2; go_ret; exact ⟨zG, zA HB.out⟩
 ·
  rw [if_neg c2] at H; have c2b0 : (a0 == 32) = false := beq_eq_false_iff_ne.mpr c2; have c2b1 : (a0 != 32) = true := bne_iff_ne.mpr c2; by_cases c3 : a0 = 10
  ·
   rw [if_pos c3] at H; have c3b0 : (a0 == 10) = true := beq_iff_eq.mpr c3; have c3b1 : (a0 != 10) = false := bne_eq_false_iff_eq.mpr c3; clear c3; obtain rfl := Option.some.inj H; go_enter Tryz.func128, Tryz.ntmps128; go_wp2; go_ret; exact ⟨zG, zA HB.out⟩
  ·
   rw [if_neg c3] at H; have c3b0 : (a0 == 10) = false := beq_eq_false_iff_ne.mpr c3; have c3b1 : (a0 != 10) = true := bne_iff_ne.mpr c3; replace H := Option.bind_eq_some_iff.mp H; obtain ⟨t248, A40, H⟩ := H; replace H : (some (t248 == 0)) = some r := H; have A4 := az A40; clear A40; obtain rfl := Option.some.inj H; go_enter Tryz.func128, Tryz.ntmps128; go_wp2_with (first | (go_at_call 136; (with_reducible refine (spec_RuneWide.calls k a0 t248 _ A4.out).mono ?_); rintro e w5 ⟨rfl, hb⟩; have n0_ := az (below_step (zA HB.out) hb); clear HB; have HB := n0_; clear n0_; (try clear hb); (try clear hb2); (try clear hk); (try clear hi))); go_ret; exact ⟨zG, zA HB.out⟩
mutual
def spec_l7Wide.j1 : Nat → List Int → Int → Int → Option (Int)
 | 0, _, _, _ => none
 | k + 1, x1, x2, x3 => spec_l7Wide.l1 k x1 x3 0 x2
def spec_l7Wide.l1 : Nat → List Int → Int → Int → Int → Option (Int)
 | 0, _, _, _, _ => none
 | k + 1, x1, x3, x9, x10 => if x10 < x3 then (if 0 ≤ x10 then (if x10 < (x1.length : Int) then (spec_l7Wide.l1 k x1 x3 (wrap64 (x9 + (rd x1 x10))) (wrap64 (x10 + 1))) else (none)) else (none)) else (some x9)
def spec_l7Wide.l0 : Nat → List Int → List Int → Int → Int → Option (Int)
 | 0, _, _, _, _ => none
 | k + 1, x0, x1, x2, x3 => if x3 > x2 then (if 0 ≤ (wrap64 (x3 - 1)) then (if (wrap64 (x3 - 1)) < (x0.length : Int) then ((spec_l7Empty.f k (rd x0 (wrap64 (x3 - 1)))).bind fun t250 => (if t250 = true then (spec_l7Wide.l0 k x0 x1 x2 (wrap64 (x3 - 1))) else (spec_l7Wide.j1 k x1 x2 x3))) else (none)) else (none)) else (spec_l7Wide.j1 k x1 x2 x3)
end
def spec_l7Wide.f (k : Nat) (l0 : List Int) (l1 : List Int) (a2 : Int) (a3 : Int) : Option (Int) := spec_l7Wide.l0 k l0 l1 a2 a3
theorem spec_l7Wide.mono_l : ∀ k, (∀ y0 y1 y2, LeO (spec_l7Wide.j1 k y0 y1 y2) (spec_l7Wide.j1 (k + 1) y0 y1 y2)) ∧ (∀ y0 y1 y2 y3, LeO (spec_l7Wide.l1 k y0 y1 y2 y3) (spec_l7Wide.l1 (k + 1) y0 y1 y2 y3)) ∧ (∀ y0 y1 y2 y3, LeO (spec_l7Wide.l0 k y0 y1 y2 y3) (spec_l7Wide.l0 (k + 1) y0 y1 y2 y3))
 | 0 => ⟨fun _ _ _ r h => by simp [spec_l7Wide.j1] at h, fun _ _ _ _ r h => by simp [spec_l7Wide.l1] at h, fun _ _ _ _ r h => by simp [spec_l7Wide.l0] at h⟩
 | k + 1 => by
  obtain ⟨ih0, ih1, ih2⟩ := spec_l7Wide.mono_l k; refine ⟨?_, ?_, ?_⟩
  ·
   intro y0 y1 y2; unfold spec_l7Wide.j1
   repeat' first
   | (with_reducible exact ih0 _ _ _)
   | (with_reducible exact ih1 _ _ _ _)
   | (with_reducible exact ih2 _ _ _ _)
   | (with_reducible exact spec_l7Empty.mono _ _)
   | (with_reducible exact LeO.refl _)
   | (with_reducible exact LeO.none _)
   | (with_reducible refine LeO.ite ?_ ?_)
   | (with_reducible refine LeO.bind ?_ (fun _ => ?_))
   | exact ih0 _ _ _
   | exact ih1 _ _ _ _
   | exact ih2 _ _ _ _
   | exact spec_l7Empty.mono _ _
   | exact LeO.none _
   | refine LeO.ite ?_ ?_
   | refine LeO.bind ?_ (fun _ => ?_)
  ·
   intro y0 y1 y2 y3; unfold spec_l7Wide.l1
   repeat' first
   | (with_reducible exact ih0 _ _ _)
   | (with_reducible exact ih1 _ _ _ _)
   | (with_reducible exact ih2 _ _ _ _)
   | (with_reducible exact spec_l7Empty.mono _ _)
   | (with_reducible exact LeO.refl _)
   | (with_reducible exact LeO.none _)
   | (with_reducible refine LeO.ite ?_ ?_)
   | (with_reducible refine LeO.bind ?_ (fun _ => ?_))
   | exact ih0 _ _ _
   | exact ih1 _ _ _ _
   | exact ih2 _ _ _ _
   | exact spec_l7Empty.mono _ _
   | exact LeO.none _
   | refine LeO.ite ?_ ?_
   | refine LeO.bind ?_ (fun _ => ?_)
  ·
   intro y0 y1 y2 y3; unfold spec_l7Wide.l0
   repeat' first
   | (with_reducible exact ih0 _ _ _)
   | (with_reducible exact ih1 _ _ _ _)
   | (with_reducible exact ih2 _ _ _ _)
   | (with_reducible exact spec_l7Empty.mono _ _)
   | (with_reducible exact LeO.refl _)
   | (with_reducible exact LeO.none _)
   | (with_reducible refine LeO.ite ?_ ?_)
   | (with_reducible refine LeO.bind ?_ (fun _ => ?_))
   | exact ih0 _ _ _
   | exact ih1 _ _ _ _
   | exact ih2 _ _ _ _
   | exact spec_l7Empty.mono _ _
   | exact LeO.none _
   | refine LeO.ite ?_ ?_
   | refine LeO.bind ?_ (fun _ => ?_)
theorem spec_l7Wide.mono : ∀ a0 a1 a2 a3 k, LeO (spec_l7Wide.f k a0 a1 a2 a3) (spec_l7Wide.f (k + 1) a0 a1 a2 a3) := by
 intro a0 a1 a2 a3 k; obtain ⟨ih0, ih1, ih2⟩ := spec_l7Wide.mono_l k; unfold spec_l7Wide.f
 repeat' first
   | (with_reducible exact ih0 _ _ _)
   | (with_reducible exact ih1 _ _ _ _)
   | (with_reducible exact ih2 _ _ _ _)
   | (with_reducible exact spec_l7Empty.mono _ _)
   | (with_reducible exact LeO.refl _)
   | (with_reducible exact LeO.none _)
   | (with_reducible refine LeO.ite ?_ ?_)
   | (with_reducible refine LeO.bind ?_ (fun _ => ?_))
   | exact ih0 _ _ _
   | exact ih1 _ _ _ _
   | exact ih2 _ _ _ _
   | exact spec_l7Empty.mono _ _
   | exact LeO.none _
   | refine LeO.ite ?_ ?_
   | refine LeO.bind ?_ (fun _ => ?_)
theorem spec_l7Wide.calls (k : Nat) (A0 : Option Addr) (c0 : Nat) (l0 : List Int) (A1 : Option Addr) (c1 : Nat) (l1 : List Int) (a2 : Int) (a3 : Int) (r : Int) (w : World) (hr0 : Kd.C (Kd.int .i64) w A0 l0.length l0) (hc0 : l0.length ≤ c0) (hr1 : Kd.C (Kd.int .i64) w A1 l1.length l1) (hc1 : l1.length ≤ c1) (h : spec_l7Wide.f k l0 l1 a2 a3 = some r) :
  Calls Tryz.prog 92 #[.slice A0 l0.length c0, .slice A1 l1.length c1, .int .i64 a2, .int .i64 a3] w fun e w' => e = .returned (.int .i64 r) ∧ Below w.heap.size w w' := by
 have HR0 := az hr0; have HC0 := az hc0; clear hr0 hc0; have HR1 := az hr1; have HC1 := az hc1; clear hr1 hc1; have HB := az (Below.refl w.heap.size w); have H : (spec_l7Wide.l0 k l0 l1 a2 a3) = some r := h; clear h; have HC5 := az H; clear H; go_enter Tryz.func92, Tryz.ntmps92; go_upto_block 0 with (fail)
 go_cut [3] (fun v3 wc => ∃ (kq : Nat) (x3_4 : Int), v3 = .int .i64 x3_4 ∧ Aside0 (spec_l7Wide.j1 kq l1 a2 x3_4 = some r) ∧ Aside0 (kq ≤ k) ∧ Aside0 (Below w.heap.size w wc))
 case first =>
  have H := HC5.out; clear HC5; have H' := az H; clear H; go_wp2; go_loopg [3] k (fun kq v3 w' => ∃ (x3_1 : Int), v3 = .int .i64 x3_1 ∧ Aside0 (spec_l7Wide.l0 kq l0 l1 a2 x3_1 = some r) ∧ Aside0 (kq ≤ k) ∧ Aside0 (Below w.heap.size w w'))
  case atStart => exact ⟨(a3), zB, H', ⟨Nat.le_refl _⟩, ⟨zA HB.out⟩⟩
  case round =>
   clear H'; (try clear c1); (try clear p2); obtain ⟨x3_1, rfl, HA, HK1, HB⟩ := hrel
   cases gk with
   | zero => exact absurd HA.out (by simp [spec_l7Wide.l0])
   | succ k1 =>
    have H := HA.out; clear HA; simp only [spec_l7Wide.l0] at H; by_cases c6 : x3_1 > a2
    ·
     rw [if_pos c6] at H; have c6b0 : decide (a2 < x3_1) = true := decide_eq_true c6; clear c6; (first | rw [c6b0] | (simp only [i64_w, i32_w]; rw [c6b0]) | skip); obtain ⟨ji7, hji7⟩ : ∃ j_ : Int, (wrap64 (x3_1 - 1)) = j_ := ⟨_, rfl⟩; replace H : (if 0 ≤ (ji7) then (if (ji7) < (l0.length : Int) then ((spec_l7Empty.f k1 (rd l0 (ji7))).bind fun t250 => (if t250 = true then (spec_l7Wide.l0 k1 l0 l1 a2 ji7) else (spec_l7Wide.j1 k1 l1 a2 x3_1))) else (none)) else (none)) = some r := by first | (rw [hji7] at H; exact H) | (simp only [hji7] at H ⊢; exact H)
     have hji7w : (IntKind.i64.wrap (x3_1 - 1)) = ji7 := (i64_w _).trans hji7; by_cases c8 : 0 ≤ (ji7)
     ·
      rw [if_pos c8] at H; have c8b0 : decide (0 ≤ (ji7)) = true := decide_eq_true c8; clear c8; by_cases c9 : (ji7) < (l0.length : Int)
      ·
       rw [if_pos c9] at H; have c9b0 : decide ((ji7) < (l0.length : Int)) = true := decide_eq_true c9; clear c9; replace H := Option.bind_eq_some_iff.mp H; obtain ⟨t250, A100, H⟩ := H; replace H : (if t250 = true then (spec_l7Wide.l0 k1 l0 l1 a2 ji7) else (spec_l7Wide.j1 k1 l1 a2 x3_1)) = some r := H; have A10 := az A100; clear A100; by_cases c11 : t250 = true
       ·
        subst c11; have H1 : (spec_l7Wide.l0 k1 l0 l1 a2 ji7) = some r := by rw [if_pos rfl] at H; exact H
        clear H; have H := H1; clear H1; have H' := az H; clear H; have p249 : 0 ≤ ((ji7) : Int) := of_decide_eq_true (by assumption); have q249 : (ji7) < (l0.length : Int) := of_decide_eq_true (by assumption); obtain ⟨ad249, e249, hx249_0⟩ := Kd.at_int HR0.out (ji7) p249 q249
        cases e249
        replace hx249_0 := (HB.out.cell (World.block_lt_of_cell? w _ hx249_0)).trans hx249_0; replace p249 := eq_true p249; replace q249 := eq_true q249; go_wp2_with (first | (go_at_call 128; (with_reducible refine (spec_l7Empty.calls k1 (rd l0 (ji7)) true _ A10.out).mono ?_); rintro e w12 ⟨rfl, hb⟩; have n0_ := az (below_step (zA HB.out) hb); clear HB; have HB := n0_; clear n0_; (try clear hb); (try clear hb2); (try clear hk); (try clear hi))); go_roundg k1
        case measure => have := HK1.out; omega
        case rel => exact ⟨(ji7), (by first | rfl | (simp; done) | (simp only [← hji7] <;> (first | rfl | simp)) | (simp [*]; done)), H', ⟨zE HK1.out⟩, ⟨zA HB.out⟩⟩
       ·
        replace c11 := Bool.eq_false_iff.mpr c11; subst c11; have H1 : (spec_l7Wide.j1 k1 l1 a2 x3_1) = some r := by rw [if_neg (show ¬ (false = true) by decide)] at H; exact H
        clear H; have H := H1; clear H1; have H' := az H; clear H; have p249 : 0 ≤ ((ji7) : Int) := of_decide_eq_true (by assumption); have q249 : (ji7) < (l0.length : Int) := of_decide_eq_true (by assumption); obtain ⟨ad249, e249, hx249_0⟩ := Kd.at_int HR0.out (ji7) p249 q249
        cases e249
        replace hx249_0 := (HB.out.cell (World.block_lt_of_cell? w _ hx249_0)).trans hx249_0; replace p249 := eq_true p249; replace q249 := eq_true q249; go_wp2_with (first | (go_at_call 128; (with_reducible refine (spec_l7Empty.calls k1 (rd l0 (ji7)) false _ A10.out).mono ?_); rintro e w13 ⟨rfl, hb⟩; have n0_ := az (below_step (zA HB.out) hb); clear HB; have HB := n0_; clear n0_; (try clear hb); (try clear hb2); (try clear hk); (try clear hi))); go_meet
        case rel => exact ⟨_, (x3_1), zB, H', ⟨zK HK1.out⟩, ⟨zA HB.out⟩⟩
      ·
       rw [if_neg c9] at H; exact absurd H (by simp)
     ·
      rw [if_neg c8] at H; exact absurd H (by simp)
    ·
     rw [if_neg c6] at H; have c6b0 : decide (a2 < x3_1) = false := decide_eq_false c6; clear c6; (first | rw [c6b0] | (simp only [i64_w, i32_w]; rw [c6b0]) | skip); have H' := az H; clear H; go_wp2; go_meet
     case rel => exact ⟨_, (x3_1), zB, H', ⟨zK HK1.out⟩, ⟨zA HB.out⟩⟩
 case rest =>
  clear HC5; (try clear c1); (try clear p2); (try clear q2); (try clear hx2); (try clear c6); (try clear c6b0); (try clear p6); (try clear c8); (try clear c8b0); (try clear c9); (try clear c9b0); (try clear c11); (try clear hx249_0); (try clear p2); (try clear p249); (try clear q249); obtain ⟨kq, x3_4, rfl, HA, HJ4, HB⟩ := hcut
  cases kq with
  | zero => exact absurd HA.out (by simp [spec_l7Wide.j1])
  | succ kj4 =>
   have H := HA.out; clear HA; simp only [spec_l7Wide.j1] at H; have H' := az H; clear H; go_wp2; go_loopg [9, 10] kj4 (fun kq v9 v10 w' => ∃ (x9_2 : Int) (x10_2 : Int), v9 = .int .i64 x9_2 ∧ v10 = .int .i64 x10_2 ∧ Aside0 (spec_l7Wide.l1 kq l1 x3_4 x9_2 x10_2 = some r) ∧ Aside0 (kq ≤ kj4) ∧ Aside0 (Below w.heap.size w w'))
   case atStart => exact ⟨(0), (a2), zB, zB, H', ⟨Nat.le_refl _⟩, ⟨zA HB.out⟩⟩
   case round =>
    clear H'; (try clear c1); (try clear p2); (try clear q2); (try clear hx2); (try clear c6); (try clear c6b0); (try clear p6); (try clear c8); (try clear c8b0); (try clear c9); (try clear c9b0); (try clear c11); (try clear hx249_0); (try clear p2); (try clear p249); (try clear p6); (try clear q2); (try clear q249); obtain ⟨x9_2, x10_2, rfl, rfl, HA, HK2, HB⟩ := hrel
    cases gk with
    | zero => exact absurd HA.out (by simp [spec_l7Wide.l1])
    | succ k2 =>
     have H := HA.out; clear HA; simp only [spec_l7Wide.l1] at H; by_cases c14 : x10_2 < x3_4
     ·
      rw [if_pos c14] at H; have c14b0 : decide (x10_2 < x3_4) = true := decide_eq_true c14; clear c14; by_cases c15 : 0 ≤ x10_2
      ·
       rw [if_pos c15] at H; have c15b0 : decide (0 ≤ x10_2) = true := decide_eq_true c15; clear c15; by_cases c16 : x10_2 < (l1.length : Int)
       ·
        rw [if_pos c16] at H; have c16b0 : decide (x10_2 < (l1.length : Int)) = true := decide_eq_true c16; clear c16; have H' := az H; clear H; have p251 : 0 ≤ (x10_2 : Int) := of_decide_eq_true (by assumption); have q251 : x10_2 < (l1.length : Int) := of_decide_eq_true (by assumption); obtain ⟨ad251, e251, hx251_0⟩ := Kd.at_int HR1.out x10_2 p251 q251
        cases e251
        replace hx251_0 := (HB.out.cell (World.block_lt_of_cell? w _ hx251_0)).trans hx251_0; replace p251 := eq_true p251; replace q251 := eq_true q251; go_wp2; go_roundg k2
        case measure => have := HJ4.out; have := HK2.out; omega
        case rel => exact ⟨(wrap64 (x9_2 + (rd l1 x10_2))), (wrap64 (x10_2 + 1)), zB, zB, H', ⟨zL HJ4.out HK2.out⟩, ⟨zA HB.out⟩⟩
       ·
        rw [if_neg c16] at H; exact absurd H (by simp)
      ·
       rw [if_neg c15] at H; exact absurd H (by simp)
     ·
      rw [if_neg c14] at H; have c14b0 : decide (x10_2 < x3_4) = false := decide_eq_false c14; clear c14; obtain rfl := Option.some.inj H; go_wp2; go_ret; exact ⟨zG, zA HB.out⟩
def spec_l2At.l0 : Nat → List Int → Int → Option (Int)
 | 0, _, _ => none
 | k + 1, x0, x1 => if x1 > 0 then ((spec_l2Joins.f k x0 x1).bind fun t145 => (if t145 = true then (spec_l2At.l0 k x0 (wrap64 (x1 - 1))) else (some x1))) else (some x1)
def spec_l2At.f (k : Nat) (l0 : List Int) (a1 : Int) : Option (Int) := spec_l2At.l0 k l0 a1
theorem spec_l2At.mono_l : ∀ k, (∀ y0 y1, LeO (spec_l2At.l0 k y0 y1) (spec_l2At.l0 (k + 1) y0 y1))
 | 0 => fun _ _ r h => by simp [spec_l2At.l0] at h
 | k + 1 => by
  have ih0 := spec_l2At.mono_l k
  ·
   intro y0 y1; unfold spec_l2At.l0
   repeat' first
   | (with_reducible exact ih0 _ _)
   | (with_reducible exact spec_l2Joins.mono _ _ _)
   | (with_reducible exact LeO.refl _)
   | (with_reducible exact LeO.none _)
   | (with_reducible refine LeO.ite ?_ ?_)
   | (with_reducible refine LeO.bind ?_ (fun _ => ?_))
   | exact ih0 _ _
   | exact spec_l2Joins.mono _ _ _
   | exact LeO.none _
   | refine LeO.ite ?_ ?_
   | refine LeO.bind ?_ (fun _ => ?_)
theorem spec_l2At.mono : ∀ a0 a1 k, LeO (spec_l2At.f k a0 a1) (spec_l2At.f (k + 1) a0 a1) := by
 intro a0 a1 k; have ih0 := spec_l2At.mono_l k; unfold spec_l2At.f
 repeat' first
   | (with_reducible exact ih0 _ _)
   | (with_reducible exact spec_l2Joins.mono _ _ _)
   | (with_reducible exact LeO.refl _)
   | (with_reducible exact LeO.none _)
   | (with_reducible refine LeO.ite ?_ ?_)
   | (with_reducible refine LeO.bind ?_ (fun _ => ?_))
   | exact ih0 _ _
   | exact spec_l2Joins.mono _ _ _
   | exact LeO.none _
   | refine LeO.ite ?_ ?_
   | refine LeO.bind ?_ (fun _ => ?_)
theorem spec_l2At.calls (k : Nat) (A0 : Option Addr) (c0 : Nat) (l0 : List Int) (a1 : Int) (r : Int) (w : World) (hr0 : Kd.C (Kd.int .i64) w A0 l0.length l0) (hc0 : l0.length ≤ c0) (h : spec_l2At.f k l0 a1 = some r) :
  Calls Tryz.prog 120 #[.slice A0 l0.length c0, .int .i64 a1] w fun e w' => e = .returned (.int .i64 r) ∧ Below w.heap.size w w' := by
 have HR0 := az hr0; have HC0 := az hc0; clear hr0 hc0; have HB := az (Below.refl w.heap.size w); have H : (spec_l2At.l0 k l0 a1) = some r := h; clear h; have H' := az H; clear H; go_enter Tryz.func120, Tryz.ntmps120; go_wp2; go_loopg [1] k (fun kq v1 w' => ∃ (x1_1 : Int), v1 = .int .i64 x1_1 ∧ Aside0 (spec_l2At.l0 kq l0 x1_1 = some r) ∧ Aside0 (kq ≤ k) ∧ Aside0 (Below w.heap.size w w'))
 case atStart => exact ⟨(a1), zB, H', ⟨Nat.le_refl _⟩, ⟨zA HB.out⟩⟩
 case round =>
  clear H'; (try clear c1); (try clear p2); obtain ⟨x1_1, rfl, HA, HK1, HB⟩ := hrel
  cases gk with
  | zero => exact absurd HA.out (by simp [spec_l2At.l0])
  | succ k1 =>
   have H := HA.out; clear HA; simp only [spec_l2At.l0] at H; by_cases c3 : x1_1 > 0
   ·
    rw [if_pos c3] at H; have c3b0 : decide (0 < x1_1) = true := decide_eq_true c3; clear c3; replace H := Option.bind_eq_some_iff.mp H; obtain ⟨t145, A40, H⟩ := H; replace H : (if t145 = true then (spec_l2At.l0 k1 l0 (wrap64 (x1_1 - 1))) else (some x1_1)) = some r := H; have A4 := az A40; clear A40; by_cases c5 : t145 = true
    ·
     subst c5; have H1 : (spec_l2At.l0 k1 l0 (wrap64 (x1_1 - 1))) = some r := by rw [if_pos rfl] at H; exact H
     clear H; have H := H1; clear H1; have H' := az H; clear H; go_wp2_with (first | (go_at_call 124; (with_reducible refine (spec_l2Joins.calls k1 _ _ l0 x1_1 true _ ?side1 ?side2 A4.out).mono ?_); (case side1 => exact (zO HR0.out HB.out)); (case side2 => exact HC0.out); rintro e w6 ⟨rfl, hb⟩; have n0_ := az (below_step (zA HB.out) hb); clear HB; have HB := n0_; clear n0_; (try clear hb); (try clear hb2); (try clear hk); (try clear hi))); go_roundg k1
     case measure => have := HK1.out; omega
     case rel => exact ⟨(wrap64 (x1_1 - 1)), zB, H', ⟨zE HK1.out⟩, ⟨zA HB.out⟩⟩
    ·
     replace c5 := Bool.eq_false_iff.mpr c5; subst c5; have H1 : (some x1_1) = some r := by rw [if_neg (show ¬ (false = true) by decide)] at H; exact H
     clear H; have H := H1; clear H1; obtain rfl := Option.some.inj H; go_wp2_with (first | (go_at_call 124; (with_reducible refine (spec_l2Joins.calls k1 _ _ l0 x1_1 false _ ?side1 ?side2 A4.out).mono ?_); (case side1 => exact (zO HR0.out HB.out)); (case side2 => exact HC0.out); rintro e w7 ⟨rfl, hb⟩; have n0_ := az (below_step (zA HB.out) hb); clear HB; have HB := n0_; clear n0_; (try clear hb); (try clear hb2); (try clear hk); (try clear hi))); go_ret; exact ⟨zG, zA HB.out⟩
   ·
    rw [if_neg c3] at H; have c3b0 : decide (0 < x1_1) = false := decide_eq_false c3; clear c3; obtain rfl := Option.some.inj H; go_wp2; go_ret; exact ⟨zG, zA HB.out⟩
def atV (at_ : Int) : List S50 → Int × Int
 | [] => (10, 0)
 | x :: r => if x.f0 ≤ at_ ∧ at_ ≤ wrap64 (x.f1 - 1) then (x.f2, x.f3) else atV at_ r
def spec_l6At.f (l0 : List S50) (a1 : Int) : Option (Int × Int) := some (atV a1 l0)
theorem atV_in (a b c : Int) : spec_l1In.f a b c = some (decide (b ≤ a ∧ a ≤ c)) := by
 unfold spec_l1In.f
 by_cases h : a ≥ b
 · simp [h]
 · simp [h]
theorem in_quiet {a b c : Int} {r : Bool} (h : spec_l1In.f a b c = some r) (w : World) (n : Nat) : Calls Tryz.prog 36 #[.int .i64 a, .int .i64 b, .int .i64 c] (w.drewN n) fun e w'' => e = .returned (.bool r) ∧ ∃ m, w'' = w.drewN m :=
 Calls.quiet_of ((spec_l1In.calls a b c r (w.drewN n) h).mono fun _ _ ⟨he, hd⟩ => ⟨he, hd.out⟩)
theorem spec_l6At.calls (A0 : Option Addr) (c0 : Nat) (l0 : List S50) (a1 : Int) (r1 r2 : Int) (w : World) (hr0 : Kd.C k50 w A0 l0.length l0) (hc0 : l0.length ≤ c0) (h : spec_l6At.f l0 a1 = some (r1, r2)) :
  Calls Tryz.prog 121 #[.slice A0 l0.length c0, .int .i64 a1] w fun e w' => e = .returned (.tuple #[.int .i64 r1, .int .i64 r2]) ∧ Drawn0 w w' := by
 have HR := az hr0
 have hmx := hr0.2.1
 have HMX := az hmx
 clear hr0 hc0 hmx
 have HF := az (Option.some.inj h)
 clear h
 go_enter Tryz.func121, Tryz.ntmps121
 go_wp2
 go_loopg [6] l0.length (fun gg s6 wr => ∃ i : Nat, s6 = .int .i64 i ∧ i ≤ l0.length ∧ l0.length - i ≤ gg ∧ Aside0 (atV a1 (l0.drop i) = (r1, r2)) ∧ Aside0 (Drawn0 w wr))
 case atStart => exact ⟨0, rfl, Nat.zero_le _, by omega, HF, ⟨Drawn0.refl _⟩⟩
 case round =>
  clear HF
  obtain ⟨i, rfl, hi, hg, HF, hdr⟩ := hrel
  have HDR := hdr
  clear hdr
  by_cases hlt : i < l0.length
  ·
   have hltz : (i : Int) < (l0.length : Int) := by omega
   have hi0 : (0 : Int) ≤ (i : Int) := by omega
   obtain ⟨ad, rfl, h0, h1, h2, h3⟩ := at_T50 (Kd.C_below HR.out HDR.out.below) (i : Int) hi0 hltz
   obtain ⟨x, hx⟩ : ∃ x, rd_T50 l0 (i : Int) = x := ⟨_, rfl⟩
   have hd : l0.drop i = x :: l0.drop (i + 1) := by
    rw [List.drop_eq_getElem_cons hlt, ← hx]
    simp [rd_T50, List.getD_eq_getElem?_getD, hlt]
   rw [hx] at h0 h1 h2 h3
   rw [Int.toNat_natCast] at h0 h1 h2 h3
   have hq := HF.out
   rw [hd, atV] at hq
   have hw1 : IntKind.i64.wrap (x.f1 - 1) = wrap64 (x.f1 - 1) := i64_w _
   obtain ⟨t, ht⟩ : ∃ t, wrap64 (x.f1 - 1) = t := ⟨_, rfl⟩
   rw [ht] at hq hw1
   have hw64 : IntKind.i64.wrap ((i : Int) + 1) = (i : Int) + 1 := by rw [i64_w]; unfold wrap64; have := HMX.out; omega
   have hw65 : wrap64 ((i : Int) + 1) = (i : Int) + 1 := by unfold wrap64; have := HMX.out; omega
   clear hx hd HF
   by_cases hc : x.f0 ≤ a1 ∧ a1 ≤ t
   ·
    rw [if_pos hc] at hq
    obtain ⟨rfl, rfl⟩ := Prod.mk.inj hq
    have HIN := az (show spec_l1In.f a1 x.f0 t = some true by rw [atV_in, decide_eq_true hc])
    clear hc hq
    go_upto_region 4 with fail
    go_quiet ((go_at_call 36; exact in_quiet HIN.out _ _))
    go_upto_region 5 with fail
    go_quiet (fail)
    go_wp2
    go_ret2
    exact ⟨rfl, by obtain ⟨⟨n0, e0⟩⟩ := HDR.out; subst e0; repeat (first | exact Drawn0.refl _ | apply Drawn0.step | exact ⟨⟨_, rfl⟩⟩)⟩
   ·
    rw [if_neg hc] at hq
    have HQ := az hq
    have HIN := az (show spec_l1In.f a1 x.f0 t = some false by rw [atV_in, decide_eq_false hc])
    clear hc hq
    go_upto_region 4 with fail
    go_quiet ((go_at_call 36; exact in_quiet HIN.out _ _))
    go_wp2
    go_roundg (l0.length - (i + 1))
    case measure => omega
    case rel => exact ⟨i + 1, by first | rfl | go_num, by omega, by omega, HQ, ⟨by obtain ⟨⟨n0, e0⟩⟩ := HDR.out; subst e0; repeat (first | exact Drawn0.refl _ | apply Drawn0.step | exact ⟨⟨_, rfl⟩⟩)⟩⟩
  ·
   have hltz : ¬ (i : Int) < (l0.length : Int) := by omega
   obtain rfl : i = l0.length := by omega
   have hq := HF.out
   rw [List.drop_length, atV] at hq
   obtain ⟨rfl, rfl⟩ := Prod.mk.inj hq
   clear hq HF
   go_wp2
   go_ret2
   exact ⟨rfl, HDR.out⟩
end Go.Proofs.YtmcdcogedcbndaaGreat.S
