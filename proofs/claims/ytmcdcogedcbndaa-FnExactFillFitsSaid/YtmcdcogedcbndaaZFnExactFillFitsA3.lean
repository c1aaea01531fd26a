/- The program's FillFits answers as the reference's, for every list of letters, of spans, every width and every list of ends; it writes into no argument. No condition beyond the statement's own. (text 4 of 6 of this claim: functions of the program and of the reference as plain Lean functions, what a call of each comes to, and what follows.) -/
import Derived.Test.YtmcdcogedcbndaaZFnExactFillFitsA0
import Derived.Test.YtmcdcogedcbndaaZFnExactFillFitsA2
set_option maxHeartbeats 16000000
set_option maxRecDepth 100000
set_option linter.unusedVariables false
set_option linter.unusedSimpArgs false
namespace Go.Proofs.Ytmcdcogedcbndaa.S
open Go.RowKit Go.Proofs.YtmcdcogedcbndaaW.PrintWords Go.Proofs.YtmcdcogedcbndaaW.PrintLast
set_option linter.unusedVariables false
set_option linter.unusedSimpArgs false
mutual
def impl_RuneWide.j0 : Nat → Int → Int → Bool → Option (Int)
 | 0, _, _, _ => none
 | k + 1, x0, x3, x6 => if x6 = true then (some 0) else (if x0 = 105 then (impl_RuneWide.j1 k x0 x3 (x0 == 105)) else (if x0 = 106 then (impl_RuneWide.j1 k x0 x3 (x0 == 106)) else (if x0 = 108 then (impl_RuneWide.j1 k x0 x3 (x0 == 108)) else (if x0 = 102 then (impl_RuneWide.j1 k x0 x3 (x0 == 102)) else (impl_RuneWide.j1 k x0 x3 (x0 == 116))))))
def impl_RuneWide.j1 : Nat → Int → Int → Bool → Option (Int)
 | 0, _, _, _ => none
 | k + 1, x0, x3, x17 => if x17 = true then (some 6) else (if x0 = 109 then (impl_RuneWide.j2 k x0 x3 (x0 == 109)) else (impl_RuneWide.j2 k x0 x3 (x0 == 119)))
def impl_RuneWide.j2 : Nat → Int → Int → Bool → Option (Int)
 | 0, _, _, _ => none
 | k + 1, x0, x3, x28 => if x28 = true then (some 16) else (if x0 ≥ 19968 then (impl_RuneWide.j3 k x3 (decide (x0 ≤ 40959))) else (impl_RuneWide.j3 k x3 false))
def impl_RuneWide.j3 : Nat → Int → Bool → Option (Int)
 | 0, _, _ => none
 | k + 1, x3, x33 => if x33 = true then (some 20) else (if x3 = 2 then (impl_RuneWide.j4 k x3 (x3 == 2)) else (impl_RuneWide.j4 k x3 (x3 == 3)))
def impl_RuneWide.j4 : Nat → Int → Bool → Option (Int)
 | 0, _, _ => none
 | k + 1, x3, x40 => if x40 = true then (some 12) else (if x3 = 11 then (some 40) else (if x3 = 12 then (some 6) else (if x3 = 8 then (some 6) else (some 10))))
end
def impl_RuneWide.f (k : Nat) (a0 : Int) : Option (Int) := (impl_RuneBidi.f a0).bind fun t314 => (if t314 = 9 then (impl_RuneWide.j0 k a0 t314 (t314 == 9)) else (if t314 = 10 then (impl_RuneWide.j0 k a0 t314 (t314 == 10)) else (if t314 ≥ 14 then (impl_RuneWide.j0 k a0 t314 (decide (t314 ≥ 14))) else (if a0 = 10 then (impl_RuneWide.j0 k a0 t314 (a0 == 10)) else (impl_RuneWide.j0 k a0 t314 (a0 == 13))))))
theorem impl_RuneWide.mono_l : ∀ k, (∀ y0 y1 y2, LeO (impl_RuneWide.j0 k y0 y1 y2) (impl_RuneWide.j0 (k + 1) y0 y1 y2)) ∧ (∀ y0 y1 y2, LeO (impl_RuneWide.j1 k y0 y1 y2) (impl_RuneWide.j1 (k + 1) y0 y1 y2)) ∧ (∀ y0 y1 y2, LeO (impl_RuneWide.j2 k y0 y1 y2) (impl_RuneWide.j2 (k + 1) y0 y1 y2)) ∧ (∀ y0 y1, LeO (impl_RuneWide.j3 k y0 y1) (impl_RuneWide.j3 (k + 1) y0 y1)) ∧ (∀ y0 y1, LeO (impl_RuneWide.j4 k y0 y1) (impl_RuneWide.j4 (k + 1) y0 y1))
 | 0 => ⟨fun _ _ _ r h => by simp [impl_RuneWide.j0] at h, fun _ _ _ r h => by simp [impl_RuneWide.j1] at h, fun _ _ _ r h => by simp [impl_RuneWide.j2] at h, fun _ _ r h => by simp [impl_RuneWide.j3] at h, fun _ _ r h => by simp [impl_RuneWide.j4] at h⟩
 | k + 1 => by
  obtain ⟨ih0, ih1, ih2, ih3, ih4⟩ := impl_RuneWide.mono_l k; refine ⟨?_, ?_, ?_, ?_, ?_⟩
  ·
   intro y0 y1 y2; unfold impl_RuneWide.j0
   repeat' first
   | (with_reducible exact ih0 _ _ _)
   | (with_reducible exact ih1 _ _ _)
   | (with_reducible exact ih2 _ _ _)
   | (with_reducible exact ih3 _ _)
   | (with_reducible exact ih4 _ _)
   | (with_reducible exact LeO.refl _)
   | (with_reducible exact LeO.none _)
   | (with_reducible refine LeO.ite ?_ ?_)
   | (with_reducible refine LeO.bind ?_ (fun _ => ?_))
   | exact ih0 _ _ _
   | exact ih1 _ _ _
   | exact ih2 _ _ _
   | exact ih3 _ _
   | exact ih4 _ _
   | exact LeO.none _
   | refine LeO.ite ?_ ?_
   | refine LeO.bind ?_ (fun _ => ?_)
  ·
   intro y0 y1 y2; unfold impl_RuneWide.j1
   repeat' first
   | (with_reducible exact ih0 _ _ _)
   | (with_reducible exact ih1 _ _ _)
   | (with_reducible exact ih2 _ _ _)
   | (with_reducible exact ih3 _ _)
   | (with_reducible exact ih4 _ _)
   | (with_reducible exact LeO.refl _)
   | (with_reducible exact LeO.none _)
   | (with_reducible refine LeO.ite ?_ ?_)
   | (with_reducible refine LeO.bind ?_ (fun _ => ?_))
   | exact ih0 _ _ _
   | exact ih1 _ _ _
   | exact ih2 _ _ _
   | exact ih3 _ _
   | exact ih4 _ _
   | exact LeO.none _
   | refine LeO.ite ?_ ?_
   | refine LeO.bind ?_ (fun _ => ?_)
  ·
   intro y0 y1 y2; unfold impl_RuneWide.j2
   repeat' first
   | (with_reducible exact ih0 _ _ _)
   | (with_reducible exact ih1 _ _ _)
   | (with_reducible exact ih2 _ _ _)
   | (with_reducible exact ih3 _ _)
   | (with_reducible exact ih4 _ _)
   | (with_reducible exact LeO.refl _)
   | (with_reducible exact LeO.none _)
   | (with_reducible refine LeO.ite ?_ ?_)
   | (with_reducible refine LeO.bind ?_ (fun _ => ?_))
   | exact ih0 _ _ _
   | exact ih1 _ _ _
   | exact ih2 _ _ _
   | exact ih3 _ _
   | exact ih4 _ _
   | exact LeO.none _
   | refine LeO.ite ?_ ?_
   | refine LeO.bind ?_ (fun _ => ?_)
  ·
   intro y0 y1; unfold impl_RuneWide.j3
   repeat' first
   | (with_reducible exact ih0 _ _ _)
   | (with_reducible exact ih1 _ _ _)
   | (with_reducible exact ih2 _ _ _)
   | (with_reducible exact ih3 _ _)
   | (with_reducible exact ih4 _ _)
   | (with_reducible exact LeO.refl _)
   | (with_reducible exact LeO.none _)
   | (with_reducible refine LeO.ite ?_ ?_)
   | (with_reducible refine LeO.bind ?_ (fun _ => ?_))
   | exact ih0 _ _ _
   | exact ih1 _ _ _
   | exact ih2 _ _ _
   | exact ih3 _ _
   | exact ih4 _ _
   | exact LeO.none _
   | refine LeO.ite ?_ ?_
   | refine LeO.bind ?_ (fun _ => ?_)
  ·
   intro y0 y1; unfold impl_RuneWide.j4
   repeat' first
   | (with_reducible exact ih0 _ _ _)
   | (with_reducible exact ih1 _ _ _)
   | (with_reducible exact ih2 _ _ _)
   | (with_reducible exact ih3 _ _)
   | (with_reducible exact ih4 _ _)
   | (with_reducible exact LeO.refl _)
   | (with_reducible exact LeO.none _)
   | (with_reducible refine LeO.ite ?_ ?_)
   | (with_reducible refine LeO.bind ?_ (fun _ => ?_))
   | exact ih0 _ _ _
   | exact ih1 _ _ _
   | exact ih2 _ _ _
   | exact ih3 _ _
   | exact ih4 _ _
   | exact LeO.none _
   | refine LeO.ite ?_ ?_
   | refine LeO.bind ?_ (fun _ => ?_)
theorem impl_RuneWide.mono : ∀ a0 k, LeO (impl_RuneWide.f k a0) (impl_RuneWide.f (k + 1) a0) := by
 intro a0 k; obtain ⟨ih0, ih1, ih2, ih3, ih4⟩ := impl_RuneWide.mono_l k; unfold impl_RuneWide.f
 repeat' first
   | (with_reducible exact ih0 _ _ _)
   | (with_reducible exact ih1 _ _ _)
   | (with_reducible exact ih2 _ _ _)
   | (with_reducible exact ih3 _ _)
   | (with_reducible exact ih4 _ _)
   | (with_reducible exact LeO.refl _)
   | (with_reducible exact LeO.none _)
   | (with_reducible refine LeO.ite ?_ ?_)
   | (with_reducible refine LeO.bind ?_ (fun _ => ?_))
   | exact ih0 _ _ _
   | exact ih1 _ _ _
   | exact ih2 _ _ _
   | exact ih3 _ _
   | exact ih4 _ _
   | exact LeO.none _
   | refine LeO.ite ?_ ?_
   | refine LeO.bind ?_ (fun _ => ?_)
theorem impl_RuneWide.calls (k : Nat) (a0 : Int) (r : Int) (w : World) (h : impl_RuneWide.f k a0 = some r) :
  Calls Try.prog 67 #[.int .i64 a0] w fun e w' => e = .returned (.int .i64 r) ∧ Below w.heap.size w w' := by
 have HB := az (Below.refl w.heap.size w); have H : ((impl_RuneBidi.f a0).bind fun t314 => (if t314 = 9 then (impl_RuneWide.j0 k a0 t314 (t314 == 9)) else (if t314 = 10 then (impl_RuneWide.j0 k a0 t314 (t314 == 10)) else (if t314 ≥ 14 then (impl_RuneWide.j0 k a0 t314 (decide (t314 ≥ 14))) else (if a0 = 10 then (impl_RuneWide.j0 k a0 t314 (a0 == 10)) else (impl_RuneWide.j0 k a0 t314 (a0 == 13))))))) = some r := h; clear h; replace H := Option.bind_eq_some_iff.mp H; obtain ⟨t314, A20, H⟩ := H; replace H : (if t314 = 9 then (impl_RuneWide.j0 k a0 t314 (t314 == 9)) else (if t314 = 10 then (impl_RuneWide.j0 k a0 t314 (t314 == 10)) else (if t314 ≥ 14 then (impl_RuneWide.j0 k a0 t314 (decide (t314 ≥ 14))) else (if a0 = 10 then (impl_RuneWide.j0 k a0 t314 (a0 == 10)) else (impl_RuneWide.j0 k a0 t314 (a0 == 13)))))) = some r := H; have A2 := az A20; clear A20; have HC3 := az H; clear H; go_enter Try.func67, Try.ntmps67; go_upto_if 6 with (first | ((with_reducible refine gate_callee (f := 85) rfl ?_); refine goesL_ (some 5) rfl rfl Try.func85 (by kernel_rfl) rfl #[.int .i64 a0] rfl (by (try simp only [List.map_toArray, List.map_cons, List.map_nil]); first | done | rfl) ?_; (with_reducible refine (impl_RuneBidi.calls a0 t314 _ A2.out).mono ?_); rintro e w4 ⟨rfl, hb⟩; refine ⟨_, rfl, ?_⟩; have n0_ := az (below_step (by repeat (first | (with_reducible first | exact HB.out | apply below_alloc | apply pw_below_drewN | apply below_drew1) | exact HB.out)) hb); clear HB; have HB := n0_; clear n0_; (try clear hb); (try clear hb2); (try clear hk); (try clear hi)))
 (try simp only [Act.put, List.setIfInBounds_toArray, List.set_cons_zero, List.set_cons_succ]); go_cut [6] (fun v6 wc => ∃ (kq : Nat) (x6_2 : Bool), v6 = .bool x6_2 ∧ Aside0 (impl_RuneWide.j0 kq a0 t314 x6_2 = some r) ∧ Aside0 (kq ≤ k) ∧ Aside0 (Below w.heap.size w wc))
 case first =>
  have H := HC3.out; clear HC3; by_cases c5 : t314 = 9
  ·
   rw [if_pos c5] at H; have c5b0 : (t314 == 9) = true := beq_iff_eq.mpr c5; have c5b1 : (t314 != 9) = false := bne_eq_false_iff_eq.mpr c5; clear c5; (first | rw [c5b0] | (simp only [i64_w, i32_w]; rw [c5b0]) | skip); have H' := az H; clear H; go_wp2; go_meet
   case rel => exact ⟨_, ((t314 == 9)), (by first | rfl | (simp; done) | (simp [*]; done)), H', ⟨by first | omega | exact Nat.le_refl _⟩, ⟨by repeat (first | (with_reducible first | exact HB.out | apply below_alloc | apply pw_below_drewN | apply below_drew1) | exact HB.out)⟩⟩
  ·
   rw [if_neg c5] at H; have c5b0 : (t314 == 9) = false := beq_eq_false_iff_ne.mpr c5; have c5b1 : (t314 != 9) = true := bne_iff_ne.mpr c5; (first | rw [c5b0] | (simp only [i64_w, i32_w]; rw [c5b0]) | skip); by_cases c6 : t314 = 10
   ·
    rw [if_pos c6] at H; have c6b0 : (t314 == 10) = true := beq_iff_eq.mpr c6; have c6b1 : (t314 != 10) = false := bne_eq_false_iff_eq.mpr c6; clear c6; have H' := az H; clear H; go_wp2; go_meet
    case rel => exact ⟨_, ((t314 == 10)), (by first | rfl | (simp; done) | (simp [*]; done)), H', ⟨by first | omega | exact Nat.le_refl _⟩, ⟨by repeat (first | (with_reducible first | exact HB.out | apply below_alloc | apply pw_below_drewN | apply below_drew1) | exact HB.out)⟩⟩
   ·
    rw [if_neg c6] at H; have c6b0 : (t314 == 10) = false := beq_eq_false_iff_ne.mpr c6; have c6b1 : (t314 != 10) = true := bne_iff_ne.mpr c6; by_cases c7 : t314 ≥ 14
    ·
     rw [if_pos c7] at H; have c7b0 : decide (14 ≤ t314) = true := decide_eq_true c7; clear c7; have H' := az H; clear H; go_wp2; go_meet
     case rel => exact ⟨_, (decide (t314 ≥ 14)), (by first | rfl | (simp; done) | (simp [*]; done)), H', ⟨by first | omega | exact Nat.le_refl _⟩, ⟨by repeat (first | (with_reducible first | exact HB.out | apply below_alloc | apply pw_below_drewN | apply below_drew1) | exact HB.out)⟩⟩
    ·
     rw [if_neg c7] at H; have c7b0 : decide (14 ≤ t314) = false := decide_eq_false c7; clear c7; by_cases c8 : a0 = 10
     ·
      rw [if_pos c8] at H; have c8b0 : (a0 == 10) = true := beq_iff_eq.mpr c8; have c8b1 : (a0 != 10) = false := bne_eq_false_iff_eq.mpr c8; clear c8; have H' := az H; clear H; go_wp2; go_meet
      case rel => exact ⟨_, ((a0 == 10)), (by first | rfl | (simp; done) | (simp [*]; done)), H', ⟨by first | omega | exact Nat.le_refl _⟩, ⟨by repeat (first | (with_reducible first | exact HB.out | apply below_alloc | apply pw_below_drewN | apply below_drew1) | exact HB.out)⟩⟩
     ·
      rw [if_neg c8] at H; have c8b0 : (a0 == 10) = false := beq_eq_false_iff_ne.mpr c8; have c8b1 : (a0 != 10) = true := bne_iff_ne.mpr c8; have H' := az H; clear H; go_wp2; go_meet
      case rel => exact ⟨_, ((a0 == 13)), (by first | rfl | (simp; done) | (simp [*]; done)), H', ⟨by first | omega | exact Nat.le_refl _⟩, ⟨by repeat (first | (with_reducible first | exact HB.out | apply below_alloc | apply pw_below_drewN | apply below_drew1) | exact HB.out)⟩⟩
 case rest =>
  clear HC3; (try clear p2); (try clear c5); (try clear c5b0); (try clear c5b1); (try clear c6); (try clear c6b0); (try clear c6b1); (try clear c7); (try clear c7b0); (try clear c8); (try clear c8b0); (try clear c8b1); obtain ⟨kq, x6_2, rfl, HA, HJ2, HB⟩ := hcut
  cases kq with
  | zero => exact absurd HA.out (by simp [impl_RuneWide.j0])
  | succ kj2 =>
   have H := HA.out; clear HA; simp only [impl_RuneWide.j0] at H; by_cases c9 : x6_2 = true
   ·
    subst c9; have H1 : (some 0) = some r := by rw [if_pos rfl] at H; exact H
    clear H; have H := H1; clear H1; obtain rfl := Option.some.inj H; go_wp2; go_ret; exact ⟨by first | rfl | (simp [errW_none, errW_some] <;> rfl) | (simp [*, errW_none, errW_some] <;> rfl), by repeat (first | (with_reducible first | exact HB.out | apply below_alloc | apply pw_below_drewN | apply below_drew1) | exact HB.out)⟩
   ·
    replace c9 := Bool.eq_false_iff.mpr c9; subst c9; have H1 : (if a0 = 105 then (impl_RuneWide.j1 kj2 a0 t314 (a0 == 105)) else (if a0 = 106 then (impl_RuneWide.j1 kj2 a0 t314 (a0 == 106)) else (if a0 = 108 then (impl_RuneWide.j1 kj2 a0 t314 (a0 == 108)) else (if a0 = 102 then (impl_RuneWide.j1 kj2 a0 t314 (a0 == 102)) else (impl_RuneWide.j1 kj2 a0 t314 (a0 == 116)))))) = some r := by rw [if_neg (show ¬ (false = true) by decide)] at H; exact H
    clear H; have H := H1; clear H1; have HC10 := az H; clear H; go_upto_if 17 with (fail)
    go_cut [17] (fun v17 wc => ∃ (kq : Nat) (x17_9 : Bool), v17 = .bool x17_9 ∧ Aside0 (impl_RuneWide.j1 kq a0 t314 x17_9 = some r) ∧ Aside0 (kq ≤ kj2) ∧ Aside0 (Below w.heap.size w wc))
    case first =>
     have H := HC10.out; clear HC10; by_cases c11 : a0 = 105
     ·
      rw [if_pos c11] at H; have c11b0 : (a0 == 105) = true := beq_iff_eq.mpr c11; have c11b1 : (a0 != 105) = false := bne_eq_false_iff_eq.mpr c11; clear c11; (first | rw [c11b0] | (simp only [i64_w, i32_w]; rw [c11b0]) | skip); have H' := az H; clear H; go_wp2; go_meet
      case rel => exact ⟨_, ((a0 == 105)), (by first | rfl | (simp; done) | (simp [*]; done)), H', ⟨by have := HJ2.out; first | omega | exact Nat.le_refl _⟩, ⟨by repeat (first | (with_reducible first | exact HB.out | apply below_alloc | apply pw_below_drewN | apply below_drew1) | exact HB.out)⟩⟩
     ·
      rw [if_neg c11] at H; have c11b0 : (a0 == 105) = false := beq_eq_false_iff_ne.mpr c11; have c11b1 : (a0 != 105) = true := bne_iff_ne.mpr c11; (first | rw [c11b0] | (simp only [i64_w, i32_w]; rw [c11b0]) | skip); by_cases c12 : a0 = 106
      ·
       rw [if_pos c12] at H; have c12b0 : (a0 == 106) = true := beq_iff_eq.mpr c12; have c12b1 : (a0 != 106) = false := bne_eq_false_iff_eq.mpr c12; clear c12; have H' := az H; clear H; go_wp2; go_meet
       case rel => exact ⟨_, ((a0 == 106)), (by first | rfl | (simp; done) | (simp [*]; done)), H', ⟨by have := HJ2.out; first | omega | exact Nat.le_refl _⟩, ⟨by repeat (first | (with_reducible first | exact HB.out | apply below_alloc | apply pw_below_drewN | apply below_drew1) | exact HB.out)⟩⟩
      ·
       rw [if_neg c12] at H; have c12b0 : (a0 == 106) = false := beq_eq_false_iff_ne.mpr c12; have c12b1 : (a0 != 106) = true := bne_iff_ne.mpr c12; by_cases c13 : a0 = 108
       ·
        rw [if_pos c13] at H; have c13b0 : (a0 == 108) = true := beq_iff_eq.mpr c13; have c13b1 : (a0 != 108) = false := bne_eq_false_iff_eq.mpr c13; clear c13; have H' := az H; clear H; go_wp2; go_meet
        case rel => exact ⟨_, ((a0 == 108)), (by first | rfl | (simp; done) | (simp [*]; done)), H', ⟨by have := HJ2.out; first | omega | exact Nat.le_refl _⟩, ⟨by repeat (first | (with_reducible first | exact HB.out | apply below_alloc | apply pw_below_drewN | apply below_drew1) | exact HB.out)⟩⟩
       ·
        rw [if_neg c13] at H; have c13b0 : (a0 == 108) = false := beq_eq_false_iff_ne.mpr c13; have c13b1 : (a0 != 108) = true := bne_iff_ne.mpr c13; by_cases c14 : a0 = 102
        ·
         rw [if_pos c14] at H; have c14b0 : (a0 == 102) = true := beq_iff_eq.mpr c14; have c14b1 : (a0 != 102) = false := bne_eq_false_iff_eq.mpr c14; clear c14; have H' := az H; clear H; go_wp2; go_meet
         case rel => exact ⟨_, ((a0 == 102)), (by first | rfl | (simp; done) | (simp [*]; done)), H', ⟨by have := HJ2.out; first | omega | exact Nat.le_refl _⟩, ⟨by repeat (first | (with_reducible first | exact HB.out | apply below_alloc | apply pw_below_drewN | apply below_drew1) | exact HB.out)⟩⟩
        ·
         rw [if_neg c14] at H; have c14b0 : (a0 == 102) = false := beq_eq_false_iff_ne.mpr c14; have c14b1 : (a0 != 102) = true := bne_iff_ne.mpr c14; have H' := az H; clear H; go_wp2; go_meet
         case rel => exact ⟨_, ((a0 == 116)), (by first | rfl | (simp; done) | (simp [*]; done)), H', ⟨by have := HJ2.out; first | omega | exact Nat.le_refl _⟩, ⟨by repeat (first | (with_reducible first | exact HB.out | apply below_alloc | apply pw_below_drewN | apply below_drew1) | exact HB.out)⟩⟩
    case rest =>
     clear HC10; (try clear c1); (try clear p2); (try clear c5); (try clear c5b0); (try clear c5b1); (try clear c6); (try clear c6b0); (try clear c6b1); (try clear c7); (try clear c7b0); (try clear c8); (try clear c8b0); (try clear c8b1); (try clear c9); (try clear c11); (try clear c11b0); (try clear c11b1); (try clear c12); (try clear c12b0); (try clear c12b1); (try clear c13); (try clear c13b0); (try clear c13b1); (try clear c14); (try clear c14b0); (try clear c14b1); (try clear p2); obtain ⟨kq, x17_9, rfl, HA, HJ9, HB⟩ := hcut
     cases kq with
     | zero => exact absurd HA.out (by simp [impl_RuneWide.j1])
     | succ kj9 =>
      have H := HA.out; clear HA; simp only [impl_RuneWide.j1] at H; by_cases c15 : x17_9 = true
      ·
       subst c15; have H1 : (some 6) = some r := by rw [if_pos rfl] at H; exact H
       clear H; have H := H1; clear H1; obtain rfl := Option.some.inj H; go_wp2; go_ret; exact ⟨by first | rfl | (simp [errW_none, errW_some] <;> rfl) | (simp [*, errW_none, errW_some] <;> rfl), by repeat (first | (with_reducible first | exact HB.out | apply below_alloc | apply pw_below_drewN | apply below_drew1) | exact HB.out)⟩
      ·
       replace c15 := Bool.eq_false_iff.mpr c15; subst c15; have H1 : (if a0 = 109 then (impl_RuneWide.j2 kj9 a0 t314 (a0 == 109)) else (impl_RuneWide.j2 kj9 a0 t314 (a0 == 119))) = some r := by rw [if_neg (show ¬ (false = true) by decide)] at H; exact H
       clear H; have H := H1; clear H1; have HC16 := az H; clear H; go_upto_if 28 with (fail)
       go_cut [28] (fun v28 wc => ∃ (kq : Nat) (x28_15 : Bool), v28 = .bool x28_15 ∧ Aside0 (impl_RuneWide.j2 kq a0 t314 x28_15 = some r) ∧ Aside0 (kq ≤ kj9) ∧ Aside0 (Below w.heap.size w wc))
       case first =>
        have H := HC16.out; clear HC16; by_cases c17 : a0 = 109
        ·
         rw [if_pos c17] at H; have c17b0 : (a0 == 109) = true := beq_iff_eq.mpr c17; have c17b1 : (a0 != 109) = false := bne_eq_false_iff_eq.mpr c17; clear c17; (first | rw [c17b0] | (simp only [i64_w, i32_w]; rw [c17b0]) | skip); have H' := az H; clear H; go_wp2; go_meet
         case rel => exact ⟨_, ((a0 == 109)), (by first | rfl | (simp; done) | (simp [*]; done)), H', ⟨by have := HJ2.out; have := HJ9.out; first | omega | exact Nat.le_refl _⟩, ⟨by repeat (first | (with_reducible first | exact HB.out | apply below_alloc | apply pw_below_drewN | apply below_drew1) | exact HB.out)⟩⟩
        ·
         rw [if_neg c17] at H; have c17b0 : (a0 == 109) = false := beq_eq_false_iff_ne.mpr c17; have c17b1 : (a0 != 109) = true := bne_iff_ne.mpr c17; (first | rw [c17b0] | (simp only [i64_w, i32_w]; rw [c17b0]) | skip); have H' := az H; clear H; go_wp2; go_meet
         case rel => exact ⟨_, ((a0 == 119)), (by first | rfl | (simp; done) | (simp [*]; done)), H', ⟨by have := HJ2.out; have := HJ9.out; first | omega | exact Nat.le_refl _⟩, ⟨by repeat (first | (with_reducible first | exact HB.out | apply below_alloc | apply pw_below_drewN | apply below_drew1) | exact HB.out)⟩⟩
       case rest =>
        clear HC16; (try clear c1); (try clear p2); (try clear c5); (try clear c5b0); (try clear c5b1); (try clear c6); (try clear c6b0); (try clear c6b1); (try clear c7); (try clear c7b0); (try clear c8); (try clear c8b0); (try clear c8b1); (try clear c9); (try clear c11); (try clear c11b0); (try clear c11b1); (try clear c12); (try clear c12b0); (try clear c12b1); (try clear c13); (try clear c13b0); (try clear c13b1); (try clear c14); (try clear c14b0); (try clear c14b1); (try clear c15); (try clear c17); (try clear c17b0); (try clear c17b1); (try clear p2); obtain ⟨kq, x28_15, rfl, HA, HJ15, HB⟩ := hcut
        cases kq with
        | zero => exact absurd HA.out (by simp [impl_RuneWide.j2])
        | succ kj15 =>
         have H := HA.out; clear HA; simp only [impl_RuneWide.j2] at H; by_cases c18 : x28_15 = true
         ·
          subst c18; have H1 : (some 16) = some r := by rw [if_pos rfl] at H; exact H
          clear H; have H := H1; clear H1; obtain rfl := Option.some.inj H; go_wp2; go_ret; exact ⟨by first | rfl | (simp [errW_none, errW_some] <;> rfl) | (simp [*, errW_none, errW_some] <;> rfl), by repeat (first | (with_reducible first | exact HB.out | apply below_alloc | apply pw_below_drewN | apply below_drew1) | exact HB.out)⟩
         ·
          replace c18 := Bool.eq_false_iff.mpr c18; subst c18; have H1 : (if a0 ≥ 19968 then (impl_RuneWide.j3 kj15 t314 (decide (a0 ≤ 40959))) else (impl_RuneWide.j3 kj15 t314 false)) = some r := by rw [if_neg (show ¬ (false = true) by decide)] at H; exact H
          clear H; have H := H1; clear H1; have HC19 := az H; clear H; go_upto_region 17 with (fail)
          go_cut [33] (fun v33 wc => ∃ (kq : Nat) (x33_18 : Bool), v33 = .bool x33_18 ∧ Aside0 (impl_RuneWide.j3 kq t314 x33_18 = some r) ∧ Aside0 (kq ≤ kj15) ∧ Aside0 (Below w.heap.size w wc))
          case first =>
           have H := HC19.out; clear HC19; by_cases c20 : a0 ≥ 19968
           ·
            rw [if_pos c20] at H; have c20b0 : decide (19968 ≤ a0) = true := decide_eq_true c20; clear c20; (first | rw [c20b0] | (simp only [i64_w, i32_w]; rw [c20b0]) | skip); have H' := az H; clear H; go_wp2; go_meet
            case rel => exact ⟨_, (decide (a0 ≤ 40959)), (by first | rfl | (simp; done) | (simp [*]; done)), H', ⟨by have := HJ2.out; have := HJ9.out; have := HJ15.out; first | omega | exact Nat.le_refl _⟩, ⟨by repeat (first | (with_reducible first | exact HB.out | apply below_alloc | apply pw_below_drewN | apply below_drew1) | exact HB.out)⟩⟩
           ·
            rw [if_neg c20] at H; have c20b0 : decide (19968 ≤ a0) = false := decide_eq_false c20; clear c20; (first | rw [c20b0] | (simp only [i64_w, i32_w]; rw [c20b0]) | skip); have H' := az H; clear H; go_wp2; go_meet
            case rel => exact ⟨_, (false), (by first | rfl | (simp; done) | (simp [*]; done)), H', ⟨by have := HJ2.out; have := HJ9.out; have := HJ15.out; first | omega | exact Nat.le_refl _⟩, ⟨by repeat (first | (with_reducible first | exact HB.out | apply below_alloc | apply pw_below_drewN | apply below_drew1) | exact HB.out)⟩⟩
          case rest =>
           clear HC19; (try clear c1); (try clear c2); (try clear p2); (try clear c5); (try clear c5b0); (try clear c5b1); (try clear c6); (try clear c6b0); (try clear c6b1); (try clear c7); (try clear c7b0); (try clear c8); (try clear c8b0); (try clear c8b1); (try clear c9); (try clear c11); (try clear c11b0); (try clear c11b1); (try clear c12); (try clear c12b0); (try clear c12b1); (try clear c13); (try clear c13b0); (try clear c13b1); (try clear c14); (try clear c14b0); (try clear c14b1); (try clear c15); (try clear c17); (try clear c17b0); (try clear c17b1); (try clear c18); (try clear c20); (try clear c20b0); (try clear p2); obtain ⟨kq, x33_18, rfl, HA, HJ18, HB⟩ := hcut
           cases kq with
           | zero => exact absurd HA.out (by simp [impl_RuneWide.j3])
           | succ kj18 =>
            have H := HA.out; clear HA; simp only [impl_RuneWide.j3] at H; by_cases c21 : x33_18 = true
            ·
             subst c21; have H1 : (some 20) = some r := by rw [if_pos rfl] at H; exact H
             clear H; have H := H1; clear H1; obtain rfl := Option.some.inj H; go_wp2; go_ret; exact ⟨by first | rfl | (simp [errW_none, errW_some] <;> rfl) | (simp [*, errW_none, errW_some] <;> rfl), by repeat (first | (with_reducible first | exact HB.out | apply below_alloc | apply pw_below_drewN | apply below_drew1) | exact HB.out)⟩
            ·
             replace c21 := Bool.eq_false_iff.mpr c21; subst c21; have H1 : (if t314 = 2 then (impl_RuneWide.j4 kj18 t314 (t314 == 2)) else (impl_RuneWide.j4 kj18 t314 (t314 == 3))) = some r := by rw [if_neg (show ¬ (false = true) by decide)] at H; exact H
             clear H; have H := H1; clear H1; have HC22 := az H; clear H; go_upto_if 40 with (fail)
             go_cut [40] (fun v40 wc => ∃ (kq : Nat) (x40_21 : Bool), v40 = .bool x40_21 ∧ Aside0 (impl_RuneWide.j4 kq t314 x40_21 = some r) ∧ Aside0 (kq ≤ kj18) ∧ Aside0 (Below w.heap.size w wc))
             case first =>
              have H := HC22.out; clear HC22; by_cases c23 : t314 = 2
              ·
               rw [if_pos c23] at H; have c23b0 : (t314 == 2) = true := beq_iff_eq.mpr c23; have c23b1 : (t314 != 2) = false := bne_eq_false_iff_eq.mpr c23; clear c23; (first | rw [c23b0] | (simp only [i64_w, i32_w]; rw [c23b0]) | skip); have H' := az H; clear H; go_wp2; go_meet
               case rel => exact ⟨_, ((t314 == 2)), (by first | rfl | (simp; done) | (simp [*]; done)), H', ⟨by have := HJ2.out; have := HJ9.out; have := HJ15.out; have := HJ18.out; first | omega | exact Nat.le_refl _⟩, ⟨by repeat (first | (with_reducible first | exact HB.out | apply below_alloc | apply pw_below_drewN | apply below_drew1) | exact HB.out)⟩⟩
              ·
               rw [if_neg c23] at H; have c23b0 : (t314 == 2) = false := beq_eq_false_iff_ne.mpr c23; have c23b1 : (t314 != 2) = true := bne_iff_ne.mpr c23; (first | rw [c23b0] | (simp only [i64_w, i32_w]; rw [c23b0]) | skip); have H' := az H; clear H; go_wp2; go_meet
               case rel => exact ⟨_, ((t314 == 3)), (by first | rfl | (simp; done) | (simp [*]; done)), H', ⟨by have := HJ2.out; have := HJ9.out; have := HJ15.out; have := HJ18.out; first | omega | exact Nat.le_refl _⟩, ⟨by repeat (first | (with_reducible first | exact HB.out | apply below_alloc | apply pw_below_drewN | apply below_drew1) | exact HB.out)⟩⟩
             case rest =>
              clear HC22; (try clear c1); (try clear c2); (try clear p2); (try clear c5); (try clear c5b0); (try clear c5b1); (try clear c6); (try clear c6b0); (try clear c6b1); (try clear c7); (try clear c7b0); (try clear c8); (try clear c8b0); (try clear c8b1); (try clear c9); (try clear c11); (try clear c11b0); (try clear c11b1); (try clear c12); (try clear c12b0); (try clear c12b1); (try clear c13); (try clear c13b0); (try clear c13b1); (try clear c14); (try clear c14b0); (try clear c14b1); (try clear c15); (try clear c17); (try clear c17b0); (try clear c17b1); (try clear c18); (try clear c20); (try clear c20b0); (try clear c21); (try clear c23); (try clear c23b0); (try clear c23b1); (try clear p2); obtain ⟨kq, x40_21, rfl, HA, HJ21, HB⟩ := hcut
              cases kq with
              | zero => exact absurd HA.out (by simp [impl_RuneWide.j4])
              | succ kj21 =>
               have H := HA.out; clear HA; simp only [impl_RuneWide.j4] at H; by_cases c24 : x40_21 = true
               ·
                subst c24; have H1 : (some 12) = some r := by rw [if_pos rfl] at H; exact H
                clear H; have H := H1; clear H1; obtain rfl := Option.some.inj H; go_wp2; go_ret; exact ⟨by first | rfl | (simp [errW_none, errW_some] <;> rfl) | (simp [*, errW_none, errW_some] <;> rfl), by repeat (first | (with_reducible first | exact HB.out | apply below_alloc | apply pw_below_drewN | apply below_drew1) | exact HB.out)⟩
               ·
                replace c24 := Bool.eq_false_iff.mpr c24; subst c24; have H1 : (if t314 = 11 then (some 40) else (if t314 = 12 then (some 6) else (if t314 = 8 then (some 6) else (some 10)))) = some r := by rw [if_neg (show ¬ (false = true) by decide)] at H; exact H
                clear H; have H := H1; clear H1; by_cases c25 : t314 = 11
                ·
                 rw [if_pos c25] at H; have c25b0 : (t314 == 11) = true := beq_iff_eq.mpr c25; have c25b1 : (t314 != 11) = false := bne_eq_false_iff_eq.mpr c25; clear c25; obtain rfl := Option.some.inj H; go_wp2; go_ret; exact ⟨by first | rfl | (simp [errW_none, errW_some] <;> rfl) | (simp [*, errW_none, errW_some] <;> rfl), by repeat (first | (with_reducible first | exact HB.out | apply below_alloc | apply pw_below_drewN | apply below_drew1) | exact HB.out)⟩
                ·
                 rw [if_neg c25] at H; have c25b0 : (t314 == 11) = false := beq_eq_false_iff_ne.mpr c25; have c25b1 : (t314 != 11) = true := bne_iff_ne.mpr c25; by_cases c26 : t314 = 12
                 ·
                  rw [if_pos c26] at H; have c26b0 : (t314 == 12) = true := beq_iff_eq.mpr c26; have c26b1 : (t314 != 12) = false := bne_eq_false_iff_eq.mpr c26; clear c26; obtain rfl := Option.some.inj H; go_wp2; go_ret; exact ⟨by first | rfl | (simp [errW_none, errW_some] <;> rfl) | (simp [*, errW_none, errW_some] <;> rfl), by repeat (first | (with_reducible first | exact HB.out | apply below_alloc | apply pw_below_drewN | apply below_drew1) | exact HB.out)⟩
                 ·
                  rw [if_neg c26] at H; have c26b0 : (t314 == 12) = false := beq_eq_false_iff_ne.mpr c26; have c26b1 : (t314 != 12) = true := bne_iff_ne.mpr c26; by_cases c27 : t314 = 8
                  ·
                   rw [if_pos c27] at H; have c27b0 : (t314 == 8) = true := beq_iff_eq.mpr c27; have c27b1 : (t314 != 8) = false := bne_eq_false_iff_eq.mpr c27; clear c27; obtain rfl := Option.some.inj H; go_wp2; go_ret; exact ⟨by first | rfl | (simp [errW_none, errW_some] <;> rfl) | (simp [*, errW_none, errW_some] <;> rfl), by repeat (first | (with_reducible first | exact HB.out | apply below_alloc | apply pw_below_drewN | apply below_drew1) | exact HB.out)⟩
                  ·
                   rw [if_neg c27] at H; have c27b0 : (t314 == 8) = false := beq_eq_false_iff_ne.mpr c27; have c27b1 : (t314 != 8) = true := bne_iff_ne.mpr c27; obtain rfl := Option.some.inj H; go_wp2; go_ret; exact ⟨by first | rfl | (simp [errW_none, errW_some] <;> rfl) | (simp [*, errW_none, errW_some] <;> rfl), by repeat (first | (with_reducible first | exact HB.out | apply below_alloc | apply pw_below_drewN | apply below_drew1) | exact HB.out)⟩
def impl_clusterWide.l0 : Nat → List Int → List Bool → Int → Int → Option (Int)
 | 0, _, _, _, _ => none
 | k + 1, x0, x5, x6, x7 => if x7 < (x0.length : Int) then (if 0 ≤ x7 then (if x7 < (x5.length : Int) then (if rdOf false x5 x7 = true then ((impl_RuneWide.f k (rd x0 x7)).bind fun t322 => (impl_clusterWide.l0 k x0 x5 (mx x6 t322) (wrap64 (x7 + 1)))) else (some x6)) else (none)) else (none)) else (some x6)
def impl_clusterWide.f (k : Nat) (l0 : List Int) (a1 : Int) : Option (Int) := (impl_joined.f k l0).bind fun t315 => (if 0 ≤ a1 then (if a1 < (l0.length : Int) then ((impl_RuneWide.f k (rd l0 a1)).bind fun t319 => (impl_clusterWide.l0 k l0 t315 t319 (wrap64 (a1 + 1)))) else (none)) else (none))
theorem impl_clusterWide.mono_l : ∀ k, (∀ y0 y1 y2 y3, LeO (impl_clusterWide.l0 k y0 y1 y2 y3) (impl_clusterWide.l0 (k + 1) y0 y1 y2 y3))
 | 0 => fun _ _ _ _ r h => by simp [impl_clusterWide.l0] at h
 | k + 1 => by
  have ih0 := impl_clusterWide.mono_l k
  ·
   intro y0 y1 y2 y3; unfold impl_clusterWide.l0
   repeat' first
   | (with_reducible exact ih0 _ _ _ _)
   | (with_reducible exact impl_RuneWide.mono _ _)
   | (with_reducible exact impl_joined.mono _ _)
   | (with_reducible exact LeO.refl _)
   | (with_reducible exact LeO.none _)
   | (with_reducible refine LeO.ite ?_ ?_)
   | (with_reducible refine LeO.bind ?_ (fun _ => ?_))
   | exact ih0 _ _ _ _
   | exact impl_RuneWide.mono _ _
   | exact impl_joined.mono _ _
   | exact LeO.none _
   | refine LeO.ite ?_ ?_
   | refine LeO.bind ?_ (fun _ => ?_)
theorem impl_clusterWide.mono : ∀ a0 a1 k, LeO (impl_clusterWide.f k a0 a1) (impl_clusterWide.f (k + 1) a0 a1) := by
 intro a0 a1 k; have ih0 := impl_clusterWide.mono_l k; unfold impl_clusterWide.f
 repeat' first
   | (with_reducible exact ih0 _ _ _ _)
   | (with_reducible exact impl_RuneWide.mono _ _)
   | (with_reducible exact impl_joined.mono _ _)
   | (with_reducible exact LeO.refl _)
   | (with_reducible exact LeO.none _)
   | (with_reducible refine LeO.ite ?_ ?_)
   | (with_reducible refine LeO.bind ?_ (fun _ => ?_))
   | exact ih0 _ _ _ _
   | exact impl_RuneWide.mono _ _
   | exact impl_joined.mono _ _
   | exact LeO.none _
   | refine LeO.ite ?_ ?_
   | refine LeO.bind ?_ (fun _ => ?_)
theorem impl_clusterWide.calls (k : Nat) (A0 : Option Addr) (c0 : Nat) (l0 : List Int) (a1 : Int) (r : Int) (w : World) (hr0 : Kd.C (Kd.int .i64) w A0 l0.length l0) (hc0 : l0.length ≤ c0) (h : impl_clusterWide.f k l0 a1 = some r) :
  Calls Try.prog 52 #[.slice A0 l0.length c0, .int .i64 a1] w fun e w' => e = .returned (.int .i64 r) ∧ Below w.heap.size w w' := by
 have HR0 := az hr0; have HC0 := az hc0; clear hr0 hc0; have HB := az (Below.refl w.heap.size w); have H : ((impl_joined.f k l0).bind fun t315 => (if 0 ≤ a1 then (if a1 < (l0.length : Int) then ((impl_RuneWide.f k (rd l0 a1)).bind fun t319 => (impl_clusterWide.l0 k l0 t315 t319 (wrap64 (a1 + 1)))) else (none)) else (none))) = some r := h; clear h; replace H := Option.bind_eq_some_iff.mp H; obtain ⟨t315, A30, H⟩ := H; replace H : (if 0 ≤ a1 then (if a1 < (l0.length : Int) then ((impl_RuneWide.f k (rd l0 a1)).bind fun t319 => (impl_clusterWide.l0 k l0 t315 t319 (wrap64 (a1 + 1)))) else (none)) else (none)) = some r := H; have A3 := az A30; clear A30; by_cases c4 : 0 ≤ a1
 ·
  rw [if_pos c4] at H; have c4b0 : decide (0 ≤ a1) = true := decide_eq_true c4; clear c4; by_cases c5 : a1 < (l0.length : Int)
  ·
   rw [if_pos c5] at H; have c5b0 : decide (a1 < (l0.length : Int)) = true := decide_eq_true c5; clear c5; replace H := Option.bind_eq_some_iff.mp H; obtain ⟨t319, A60, H⟩ := H; replace H : (impl_clusterWide.l0 k l0 t315 t319 (wrap64 (a1 + 1))) = some r := H; have A6 := az A60; clear A60; have H' := az H; clear H; go_enter Try.func52, Try.ntmps52; go_wp2_with (first | ((with_reducible refine gate_callee (f := 55) rfl ?_); refine goesL_ (some 9) rfl rfl Try.func55 (by kernel_rfl) rfl #[.slice A0 l0.length c0] rfl (by (try simp only [List.map_toArray, List.map_cons, List.map_nil]); first | done | rfl) ?_; (with_reducible refine (impl_joined.calls k _ _ l0 t315 _ ?side1 ?side2 A3.out).mono ?_); (case side1 => repeat (first | exact HR0.out | (with_reducible refine Kd.C_alloc ?_ _) | (with_reducible refine Kd.C_drewN ?_ _) | (with_reducible refine Kd.C_drew ?_))); (case side2 => exact HC0.out); rintro e w7 ⟨v316, rfl, ho0, hb⟩; refine ⟨_, rfl, ?_⟩; have n0_ := az (Kd.R_lower ho0 (below_size (by repeat (first | (with_reducible first | exact HB.out | apply below_alloc | apply pw_below_drewN | apply below_drew1) | exact HB.out)))); have n1_ := az (below_step (by repeat (first | (with_reducible first | exact HB.out | apply below_alloc | apply pw_below_drewN | apply below_drew1) | exact HB.out)) hb); clear HB; have HO317 := n0_; have HB := n1_; clear n0_ n1_; (try clear hb); (try clear hb2); (try clear hk); (try clear hi); (try clear ho0); have p318 : 0 ≤ (a1 : Int) := of_decide_eq_true (by assumption); have q318 : a1 < (l0.length : Int) := of_decide_eq_true (by assumption); obtain ⟨ad318, e318, hx318_0⟩ := Kd.at_int HR0.out a1 p318 q318; cases e318; replace hx318_0 := (HB.out.cell (World.block_lt_of_cell? w _ hx318_0)).trans hx318_0; replace p318 := eq_true p318; replace q318 := eq_true q318) | ((with_reducible refine gate_callee (f := 67) rfl ?_); refine goesL_ (some 14) rfl rfl Try.func67 (by kernel_rfl) rfl #[.int .i64 (rd l0 a1)] rfl (by (try simp only [List.map_toArray, List.map_cons, List.map_nil]); first | done | rfl) ?_; (with_reducible refine (impl_RuneWide.calls k (rd l0 a1) t319 _ A6.out).mono ?_); rintro e w8 ⟨rfl, hb⟩; refine ⟨_, rfl, ?_⟩; have n0_ := az (Kd.R_below (by (with_reducible repeat (first | apply Kd.R_alloc | apply Kd.R_drewN | apply Kd.R_drew)); exact HO317.out) hb); have n1_ := az (below_step (by repeat (first | (with_reducible first | exact HB.out | apply below_alloc | apply pw_below_drewN | apply below_drew1) | exact HB.out)) hb); clear HO317; clear HB; have HO317 := n0_; have HB := n1_; clear n0_ n1_; (try clear hb); (try clear hb2); (try clear hk); (try clear hi))); go_loopg [6, 7] k (fun kq v6 v7 w' => ∃ (x6_1 : Int) (x7_1 : Int), v6 = .int .i64 x6_1 ∧ v7 = .int .i64 x7_1 ∧ Aside0 (impl_clusterWide.l0 kq l0 t315 x6_1 x7_1 = some r) ∧ Aside0 (kq ≤ k) ∧ Aside0 (Kd.R Kd.bool 4 w' w.heap.size (fun _ => True) v316 t315) ∧ Aside0 (Below w.heap.size w w'))
   case atStart => exact ⟨(t319), (wrap64 (a1 + 1)), (by first | rfl | (simp; done) | (simp [*]; done)), (by first | rfl | (simp; done) | (simp [*]; done)), H', ⟨Nat.le_refl _⟩, ⟨by (with_reducible repeat (first | apply Kd.R_alloc | apply Kd.R_drewN | apply Kd.R_drew)); exact HO317.out⟩, ⟨by repeat (first | (with_reducible first | exact HB.out | apply below_alloc | apply pw_below_drewN | apply below_drew1) | exact HB.out)⟩⟩
   case round =>
    clear H'; (try clear p2); (try clear p3); (try clear q3); (try clear hx3); (try clear c4); (try clear c4b0); (try clear c5); (try clear c5b0); (try clear c6); (try clear p6); (try clear hx318_0); (try clear p318); (try clear q318); obtain ⟨x6_1, x7_1, rfl, rfl, HA, HK1, HO_5, HB⟩ := hrel
    cases gk with
    | zero => exact absurd HA.out (by simp [impl_clusterWide.l0])
    | succ k1 =>
     have H := HA.out; clear HA; simp only [impl_clusterWide.l0] at H; by_cases c9 : x7_1 < (l0.length : Int)
     ·
      rw [if_pos c9] at H; have c9b0 : decide (x7_1 < (l0.length : Int)) = true := decide_eq_true c9; clear c9; by_cases c10 : 0 ≤ x7_1
      ·
       rw [if_pos c10] at H; have c10b0 : decide (0 ≤ x7_1) = true := decide_eq_true c10; clear c10; by_cases c11 : x7_1 < (t315.length : Int)
       ·
        rw [if_pos c11] at H; have c11b0 : decide (x7_1 < (t315.length : Int)) = true := decide_eq_true c11; clear c11; obtain ⟨bq12, hbq12⟩ : ∃ b_ : Bool, b_ = (rdOf false t315 x7_1) := ⟨_, rfl⟩; replace H : (if bq12 = true then ((impl_RuneWide.f k1 (rd l0 x7_1)).bind fun t322 => (impl_clusterWide.l0 k1 l0 t315 (mx x6_1 t322) (wrap64 (x7_1 + 1)))) else (some x6_1)) = some r := by rw [← hbq12] at H; exact H
        have Nbq12 := az hbq12; clear hbq12; by_cases c13 : bq12 = true
        ·
         subst c13; have H1 : ((impl_RuneWide.f k1 (rd l0 x7_1)).bind fun t322 => (impl_clusterWide.l0 k1 l0 t315 (mx x6_1 t322) (wrap64 (x7_1 + 1)))) = some r := by rw [if_pos rfl] at H; exact H
         clear H; have H := H1; clear H1; replace H := Option.bind_eq_some_iff.mp H; obtain ⟨t322, A140, H⟩ := H; replace H : (impl_clusterWide.l0 k1 l0 t315 (mx x6_1 t322) (wrap64 (x7_1 + 1))) = some r := H; have A14 := az A140; clear A140; obtain ⟨ji15, hji15⟩ : ∃ j_ : Int, (mx x6_1 t322) = j_ := ⟨_, rfl⟩; replace H : (impl_clusterWide.l0 k1 l0 t315 ji15 (wrap64 (x7_1 + 1))) = some r := by first | (rw [hji15] at H; exact H) | (simp only [hji15] at H ⊢; exact H)
         (try rw [hji15] at A14); have hji15_ : (if x6_1 < t322 then t322 else x6_1) = ji15 := hji15; have H' := az H; clear H; obtain ⟨Ao16, co16, eo16⟩ := Kd.R_slice HO_5.out; subst eo16; have p320 : 0 ≤ (x7_1 : Int) := of_decide_eq_true (by assumption); have q320 : x7_1 < (t315.length : Int) := of_decide_eq_true (by assumption); obtain ⟨ad320, e320, hx320_0⟩ := Kd.at_bool (Kd.R_reads' HO_5.out).2.2 x7_1 p320 q320; (try rw [← Nbq12.out] at hx320_0)
         cases e320
         replace p320 := eq_true p320; replace q320 := eq_true q320; have p321 : 0 ≤ (x7_1 : Int) := of_decide_eq_true (by assumption); have q321 : x7_1 < (l0.length : Int) := of_decide_eq_true (by assumption); obtain ⟨ad321, e321, hx321_0⟩ := Kd.at_int HR0.out x7_1 p321 q321; obtain rfl : ad318 = ad321 := (by injection e321); replace hx321_0 := (HB.out.cell (World.block_lt_of_cell? w _ hx321_0)).trans hx321_0; replace p321 := eq_true p321; replace q321 := eq_true q321; go_wp2_with (first | ((with_reducible refine gate_callee (f := 67) rfl ?_); refine goesL_ (some 34) rfl rfl Try.func67 (by kernel_rfl) rfl #[.int .i64 (rd l0 x7_1)] rfl (by (try simp only [List.map_toArray, List.map_cons, List.map_nil]); first | done | rfl) ?_; (with_reducible refine (impl_RuneWide.calls k1 (rd l0 x7_1) t322 _ A14.out).mono ?_); rintro e w17 ⟨rfl, hb⟩; refine ⟨_, rfl, ?_⟩; have n0_ := az (Kd.R_below (by (with_reducible repeat (first | apply Kd.R_alloc | apply Kd.R_drewN | apply Kd.R_drew)); exact HO_5.out) hb); have n1_ := az (below_step (by repeat (first | (with_reducible first | exact HB.out | apply below_alloc | apply pw_below_drewN | apply below_drew1) | exact HB.out)) hb); clear HO_5; clear HB; have HO_5 := n0_; have HB := n1_; clear n0_ n1_; (try clear hb); (try clear hb2); (try clear hk); (try clear hi))); go_roundg k1
         case measure => have := HK1.out; omega
         case rel => exact ⟨(ji15), (wrap64 (x7_1 + 1)), (by first | rfl | (simp; done) | (simp only [← hji15] <;> (first | rfl | simp)) | (simp [*]; done)), (by first | rfl | (simp; done) | (simp [*]; done)), H', ⟨by have := HK1.out; omega⟩, ⟨by (with_reducible repeat (first | apply Kd.R_alloc | apply Kd.R_drewN | apply Kd.R_drew)); exact HO_5.out⟩, ⟨by repeat (first | (with_reducible first | exact HB.out | apply below_alloc | apply pw_below_drewN | apply below_drew1) | exact HB.out)⟩⟩
        ·
         replace c13 := Bool.eq_false_iff.mpr c13; subst c13; have H1 : (some x6_1) = some r := by rw [if_neg (show ¬ (false = true) by decide)] at H; exact H
         clear H; have H := H1; clear H1; obtain rfl := Option.some.inj H; obtain ⟨Ao18, co18, eo18⟩ := Kd.R_slice HO_5.out; subst eo18; have p320 : 0 ≤ (x7_1 : Int) := of_decide_eq_true (by assumption); have q320 : x7_1 < (t315.length : Int) := of_decide_eq_true (by assumption); obtain ⟨ad320, e320, hx320_0⟩ := Kd.at_bool (Kd.R_reads' HO_5.out).2.2 x7_1 p320 q320; (try rw [← Nbq12.out] at hx320_0)
         cases e320
         replace p320 := eq_true p320; replace q320 := eq_true q320; go_wp2; go_ret; exact ⟨by first | rfl | (simp [errW_none, errW_some] <;> rfl) | (simp [*, errW_none, errW_some] <;> rfl), by repeat (first | (with_reducible first | exact HB.out | apply below_alloc | apply pw_below_drewN | apply below_drew1) | exact HB.out)⟩
       ·
        rw [if_neg c11] at H; exact absurd H (by simp)
      ·
       rw [if_neg c10] at H; exact absurd H (by simp)
     ·
      rw [if_neg c9] at H; have c9b0 : decide (x7_1 < (l0.length : Int)) = false := decide_eq_false c9; clear c9; obtain rfl := Option.some.inj H; go_wp2; go_ret; exact ⟨by first | rfl | (simp [errW_none, errW_some] <;> rfl) | (simp [*, errW_none, errW_some] <;> rfl), by repeat (first | (with_reducible first | exact HB.out | apply below_alloc | apply pw_below_drewN | apply below_drew1) | exact HB.out)⟩
  ·
   rw [if_neg c5] at H; exact absurd H (by simp)
 ·
  rw [if_neg c4] at H; exact absurd H (by simp)
def impl_plainLook.f  : Option (Int × Int) := some (10, 0)
theorem impl_plainLook.calls  (r1 : Int) (r2 : Int) (w : World) (h : impl_plainLook.f  = some (r1, r2)) :
  Calls Try.prog 68 #[] w fun e w' => e = .returned (.agg #[.int .i64 r1, .int .i64 r2]) ∧ Below w.heap.size w w' := by
 have hu62 := Try.underlying62
 have HB := az (Below.refl w.heap.size w)
 have H : (some (10, 0)) = some (r1, r2) := h
 clear h
 simp only [Option.some.injEq, Prod.mk.injEq] at H
 obtain ⟨rfl, rfl⟩ := H
 go_enter Try.func68, Try.ntmps68
 go_wp2_with (first | ((with_reducible refine gate_dst (N := 0) rfl ?_); refine box_event ?hg (N := 0) ?hd (cs := #[.int .i64 0, .int .i64 0]) (t := 62) ?hr ?_; (case hd => rfl); (case hg => rfl); (case hr => first | (go_simp; done) | (go_simp; rfl)); intro gb323 hg w1 hbox hb; have n0_ := az (below_step (by repeat (first | (with_reducible first | exact HB.out | apply below_alloc | apply pw_below_drewN | apply below_drew1) | exact HB.out)) hb); have n1_ := az (hbox); have n2_ := az ((by rw [hg]; exact (below_size (by repeat (first | (with_reducible first | exact HB.out | apply below_alloc | apply pw_below_drewN | apply below_drew1) | exact HB.out))) : w.heap.size ≤ gb323)); have n3_ := az ((by rw [hg]; exact (below_size (by repeat (first | (with_reducible first | exact HB.out | apply below_alloc | apply pw_below_drewN | apply below_drew1) | exact HB.out))) : w.heap.size ≤ gb323)); clear HB; have HB := n0_; have BK323 := n1_; have GW323 := n2_; have GE323 := n3_; clear n0_ n1_ n2_ n3_; clear hb hbox hg; have hcz2_0 : w1.cell? ⟨gb323, 0, none⟩ = some (.int .i64 0) := (blk_cell BK323.out 0).trans rfl; have hcz2_1 : w1.cell? ⟨gb323, 1, none⟩ = some (.int .i64 0) := (blk_cell BK323.out 1).trans rfl; have hfz2_0 := blk_frozen BK323.out 0; have hfz2_1 := blk_frozen BK323.out 1))
 refine bodyPost_ret (results_cell_row rfl _ _ gb323 62 #[.int .i64 10, .int .i64 0] (0, 0) _ rfl (by (with_reducible repeat (first | refine blk_drewN ?_ _ | refine blk_drew ?_ | refine blk_alloc ?_ _)); refine blk_put (cs := #[.int .i64 10, .int .i64 0]) ?_ 1 _ rfl; (with_reducible repeat (first | refine blk_drewN ?_ _ | refine blk_drew ?_ | refine blk_alloc ?_ _)); refine blk_put (cs := #[.int .i64 0, .int .i64 0]) ?_ 0 _ rfl; (with_reducible repeat (first | refine blk_drewN ?_ _ | refine blk_drew ?_ | refine blk_alloc ?_ _)); exact BK323.out) Try.underlying62 rfl (by kernel_rfl)) rfl ?_
 exact ⟨by first | rfl | (simp [errW_none, errW_some] <;> rfl) | (simp [*, errW_none, errW_some] <;> rfl), by repeat (first | (with_reducible first | exact HB.out | apply below_alloc | apply pw_below_drewN | apply below_drew1 | refine below_set ?_ GE323.out) | exact HB.out)⟩
def impl_lookAt.l0 : Nat → Int → List (S41) → Int → Int → Option (Int × Int)
 | 0, _, _, _, _ => none
 | k + 1, x1, x7, x8, x9 => if x9 < x8 then (if 0 ≤ x9 then (if x9 < (x7.length : Int) then (if x1 ≥ ((rd_T41 x7 x9).f0) then (if x1 < ((rd_T41 x7 x9).f1) then (some ((rd_T41 x7 x9).f2, (rd_T41 x7 x9).f3)) else (impl_lookAt.l0 k x1 x7 x8 (wrap64 (x9 + 1)))) else (impl_lookAt.l0 k x1 x7 x8 (wrap64 (x9 + 1)))) else (none)) else (none)) else ((impl_plainLook.f).bind fun bt327 => (some (bt327.1, bt327.2)))
def impl_lookAt.f (k : Nat) (l0 : List (S41)) (a1 : Int) : Option (Int × Int) := impl_lookAt.l0 k a1 l0 (l0.length : Int) 0
theorem impl_lookAt.mono_l : ∀ k, (∀ y0 y1 y2 y3, LeO (impl_lookAt.l0 k y0 y1 y2 y3) (impl_lookAt.l0 (k + 1) y0 y1 y2 y3))
 | 0 => fun _ _ _ _ r h => by simp [impl_lookAt.l0] at h
 | k + 1 => by
  have ih0 := impl_lookAt.mono_l k
  ·
   intro y0 y1 y2 y3; unfold impl_lookAt.l0
   repeat' first
   | (with_reducible exact ih0 _ _ _ _)
   | (with_reducible exact LeO.refl _)
   | (with_reducible exact LeO.none _)
   | (with_reducible refine LeO.ite ?_ ?_)
   | (with_reducible refine LeO.bind ?_ (fun _ => ?_))
   | exact ih0 _ _ _ _
   | exact LeO.none _
   | refine LeO.ite ?_ ?_
   | refine LeO.bind ?_ (fun _ => ?_)
theorem impl_lookAt.mono : ∀ a0 a1 k, LeO (impl_lookAt.f k a0 a1) (impl_lookAt.f (k + 1) a0 a1) := by
 intro a0 a1 k; have ih0 := impl_lookAt.mono_l k; unfold impl_lookAt.f
 repeat' first
   | (with_reducible exact ih0 _ _ _ _)
   | (with_reducible exact LeO.refl _)
   | (with_reducible exact LeO.none _)
   | (with_reducible refine LeO.ite ?_ ?_)
   | (with_reducible refine LeO.bind ?_ (fun _ => ?_))
   | exact ih0 _ _ _ _
   | exact LeO.none _
   | refine LeO.ite ?_ ?_
   | refine LeO.bind ?_ (fun _ => ?_)
theorem impl_lookAt.calls (k : Nat) (A0 : Option Addr) (c0 : Nat) (l0 : List (S41)) (a1 : Int) (r1 : Int) (r2 : Int) (w : World) (hr0 : Kd.C k41 w A0 l0.length l0) (hc0 : l0.length ≤ c0) (h : impl_lookAt.f k l0 a1 = some (r1, r2)) :
  Calls Try.prog 53 #[.slice A0 l0.length c0, .int .i64 a1] w fun e w' => e = .returned (.agg #[.int .i64 r1, .int .i64 r2]) ∧ Below w.heap.size w w' := by
 have hu62 := Try.underlying62; have hu41 := Try.underlying41; have HR0 := az hr0; have HC0 := az hc0; clear hr0 hc0; have HB := az (Below.refl w.heap.size w); have H : (impl_lookAt.l0 k a1 l0 (l0.length : Int) 0) = some (r1, r2) := h; clear h; have H' := az H; clear H; go_enter Try.func53, Try.ntmps53; go_wp2_with (first | ((with_reducible refine gate_dst (N := 4) rfl ?_); refine box_event ?hg (N := 4) ?hd (cs := #[.int .i64 0, .int .i64 0]) (t := 62) ?hr ?_; (case hd => rfl); (case hg => rfl); (case hr => first | (go_simp; done) | (go_simp; rfl)); intro gb324 hg w3 hbox hb; have n0_ := az (below_step (by repeat (first | (with_reducible first | exact HB.out | apply below_alloc | apply pw_below_drewN | apply below_drew1) | exact HB.out)) hb); have n1_ := az (hbox); have n2_ := az ((by rw [hg]; exact (below_size (by repeat (first | (with_reducible first | exact HB.out | apply below_alloc | apply pw_below_drewN | apply below_drew1) | exact HB.out))) : w.heap.size ≤ gb324)); have n3_ := az ((by rw [hg]; exact (below_size (by repeat (first | (with_reducible first | exact HB.out | apply below_alloc | apply pw_below_drewN | apply below_drew1) | exact HB.out))) : w.heap.size ≤ gb324)); clear HB; have HB := n0_; have BK324 := n1_; have GW324 := n2_; have GE324 := n3_; clear n0_ n1_ n2_ n3_; clear hb hbox hg)); go_loopg [9] k (fun kq v9 w' => ∃ (x9_1 : Int) (x325000_1 : Int) (x325001_1 : Int), v9 = .int .i64 x9_1 ∧ Aside0 (impl_lookAt.l0 kq a1 l0 (l0.length : Int) x9_1 = some (r1, r2)) ∧ Aside0 (kq ≤ k) ∧ Aside0 (w'.heap[gb324]? = some (.cells #[.int .i64 x325000_1, .int .i64 x325001_1] 62 (0, 0))) ∧ Aside0 (Below w.heap.size w w'))
 case atStart => exact ⟨(0), (0), (0), (by first | rfl | (simp; done) | (simp [*]; done)), H', ⟨Nat.le_refl _⟩, ⟨by (with_reducible repeat (first | refine blk_drewN ?_ _ | refine blk_drew ?_ | refine blk_alloc ?_ _)); exact BK324.out⟩, ⟨by repeat (first | (with_reducible first | exact HB.out | apply below_alloc | apply pw_below_drewN | apply below_drew1 | refine below_set ?_ GE324.out) | exact HB.out)⟩⟩
 case round =>
  clear H'; (try clear p2); obtain ⟨x9_1, x325000_1, x325001_1, rfl, HA, HK1, BK324, HB⟩ := hrel
  cases gk with
  | zero => exact absurd HA.out (by simp [impl_lookAt.l0])
  | succ k1 =>
   have H := HA.out; clear HA; simp only [impl_lookAt.l0] at H; by_cases c4 : x9_1 < (l0.length : Int)
   ·
    rw [if_pos c4] at H; have c4b0 : decide (x9_1 < (l0.length : Int)) = true := decide_eq_true c4; clear c4; by_cases c5 : 0 ≤ x9_1
    ·
     rw [if_pos c5] at H; have c5b0 : decide (0 ≤ x9_1) = true := decide_eq_true c5; clear c5; by_cases c6 : x9_1 < (l0.length : Int)
     ·
      rw [if_pos c6] at H; have c6b0 : decide (x9_1 < (l0.length : Int)) = true := decide_eq_true c6; clear c6; by_cases c7 : a1 ≥ ((rd_T41 l0 x9_1).f0)
      ·
       rw [if_pos c7] at H; have c7b0 : decide (((rd_T41 l0 x9_1).f0) ≤ a1) = true := decide_eq_true c7; clear c7; by_cases c8 : a1 < ((rd_T41 l0 x9_1).f1)
       ·
        rw [if_pos c8] at H; have c8b0 : decide (a1 < ((rd_T41 l0 x9_1).f1)) = true := decide_eq_true c8; clear c8; simp only [Option.some.injEq, Prod.mk.injEq] at H; obtain ⟨rfl, rfl⟩ := H; have p325 : 0 ≤ (x9_1 : Int) := of_decide_eq_true (by assumption); have q325 : x9_1 < (l0.length : Int) := of_decide_eq_true (by assumption); obtain ⟨ad325, e325, hx325_0, hx325_1, hx325_2, hx325_3⟩ := at_T41 HR0.out x9_1 p325 q325
        cases e325
        replace hx325_0 := (HB.out.cell (World.block_lt_of_cell? w _ hx325_0)).trans hx325_0; replace hx325_1 := (HB.out.cell (World.block_lt_of_cell? w _ hx325_1)).trans hx325_1; replace hx325_2 := (HB.out.cell (World.block_lt_of_cell? w _ hx325_2)).trans hx325_2; replace hx325_3 := (HB.out.cell (World.block_lt_of_cell? w _ hx325_3)).trans hx325_3; replace p325 := eq_true p325; replace q325 := eq_true q325; go_wp2_with (first | ((with_reducible refine gate_dst (N := 6) rfl ?_); refine box_event ?hg (N := 6) ?hd (cs := #[.int .i64 0, .int .i64 0, .int .i64 0, .int .i64 0]) (t := 41) ?hr ?_; (case hd => rfl); (case hg => rfl); (case hr => first | (go_simp; done) | (go_simp; rfl)); intro gb326 hg w9 hbox hb; have n0_ := az (blk_below (g := gb324) (o := .cells #[.int .i64 x325000_1, .int .i64 x325001_1] 62 (0, 0)) (by (with_reducible repeat (first | refine blk_drewN ?_ _ | refine blk_drew ?_ | refine blk_alloc ?_ _)); exact BK324.out) hb); have n1_ := az (below_step (by repeat (first | (with_reducible first | exact HB.out | apply below_alloc | apply pw_below_drewN | apply below_drew1 | refine below_set ?_ GE324.out) | exact HB.out)) hb); have n2_ := az (hbox); have n3_ := az ((by rw [hg]; exact (below_size (by repeat (first | (with_reducible first | exact HB.out | apply below_alloc | apply pw_below_drewN | apply below_drew1 | refine below_set ?_ GE324.out) | exact HB.out))) : w.heap.size ≤ gb326)); have n4_ := az ((by rw [hg]; exact (below_size (by repeat (first | (with_reducible first | exact HB.out | apply below_alloc | apply pw_below_drewN | apply below_drew1 | refine below_set ?_ GE324.out) | exact HB.out))) : w.heap.size ≤ gb326)); have n5_ := az ((by rw [hg]; exact Nat.ne_of_lt (blk_lt (g := gb324) (o := .cells #[.int .i64 x325000_1, .int .i64 x325001_1] 62 (0, 0)) (by (with_reducible repeat (first | refine blk_drewN ?_ _ | refine blk_drew ?_ | refine blk_alloc ?_ _)); exact BK324.out)) : gb324 ≠ gb326)); have n6_ := az ((by rw [hg]; exact Nat.ne_of_gt (blk_lt (g := gb324) (o := .cells #[.int .i64 x325000_1, .int .i64 x325001_1] 62 (0, 0)) (by (with_reducible repeat (first | refine blk_drewN ?_ _ | refine blk_drew ?_ | refine blk_alloc ?_ _)); exact BK324.out)) : gb326 ≠ gb324)); clear BK324; clear HB; have BK324 := n0_; have HB := n1_; have BK326 := n2_; have GW326 := n3_; have GE326 := n4_; have NB324_326 := n5_; have NB326_324 := n6_; clear n0_ n1_ n2_ n3_ n4_ n5_ n6_; clear hb hbox hg; have hnb10 := NB326_324.out; have hnc10 := NB324_326.out; have hcz11_0 : w9.cell? ⟨gb326, 0, none⟩ = some (.int .i64 0) := (blk_cell BK326.out 0).trans rfl; have hcz11_1 : w9.cell? ⟨gb326, 1, none⟩ = some (.int .i64 0) := (blk_cell BK326.out 1).trans rfl; have hcz11_2 : w9.cell? ⟨gb326, 2, none⟩ = some (.int .i64 0) := (blk_cell BK326.out 2).trans rfl; have hcz11_3 : w9.cell? ⟨gb326, 3, none⟩ = some (.int .i64 0) := (blk_cell BK326.out 3).trans rfl; have hfz11_0 := blk_frozen BK326.out 0; have hfz11_1 := blk_frozen BK326.out 1; have hfz11_2 := blk_frozen BK326.out 2; have hfz11_3 := blk_frozen BK326.out 3; have hcz12_0 : w9.cell? ⟨gb324, 0, none⟩ = some (.int .i64 x325000_1) := (blk_cell BK324.out 0).trans rfl; have hcz12_1 : w9.cell? ⟨gb324, 1, none⟩ = some (.int .i64 x325001_1) := (blk_cell BK324.out 1).trans rfl; have hfz12_0 := blk_frozen BK324.out 0; have hfz12_1 := blk_frozen BK324.out 1)); refine bodyPost_ret (results_cell_row rfl _ _ gb324 62 #[.int .i64 ((rd_T41 l0 x9_1).f2), .int .i64 ((rd_T41 l0 x9_1).f3)] (0, 0) _ rfl (by (with_reducible repeat (first | refine blk_drewN ?_ _ | refine blk_drew ?_ | refine blk_alloc ?_ _)); refine blk_put (cs := #[.int .i64 ((rd_T41 l0 x9_1).f2), .int .i64 x325001_1]) ?_ 1 _ rfl; (with_reducible repeat (first | refine blk_drewN ?_ _ | refine blk_drew ?_ | refine blk_alloc ?_ _)); refine blk_put (cs := #[.int .i64 x325000_1, .int .i64 x325001_1]) ?_ 0 _ rfl; (with_reducible repeat (first | refine blk_drewN ?_ _ | refine blk_drew ?_ | refine blk_alloc ?_ _)); refine blk_far ?_ NB324_326.out _; (with_reducible repeat (first | refine blk_drewN ?_ _ | refine blk_drew ?_ | refine blk_alloc ?_ _)); refine blk_far ?_ NB324_326.out _; (with_reducible repeat (first | refine blk_drewN ?_ _ | refine blk_drew ?_ | refine blk_alloc ?_ _)); refine blk_far ?_ NB324_326.out _; (with_reducible repeat (first | refine blk_drewN ?_ _ | refine blk_drew ?_ | refine blk_alloc ?_ _)); refine blk_far ?_ NB324_326.out _; (with_reducible repeat (first | refine blk_drewN ?_ _ | refine blk_drew ?_ | refine blk_alloc ?_ _)); exact BK324.out) Try.underlying62 rfl (by kernel_rfl)) rfl ?_
        exact ⟨by first | rfl | (simp [errW_none, errW_some] <;> rfl) | (simp [*, errW_none, errW_some] <;> rfl), by repeat (first | (with_reducible first | exact HB.out | apply below_alloc | apply pw_below_drewN | apply below_drew1 | refine below_set ?_ GE324.out | refine below_set ?_ GE326.out) | exact HB.out)⟩
       ·
        rw [if_neg c8] at H; have c8b0 : decide (a1 < ((rd_T41 l0 x9_1).f1)) = false := decide_eq_false c8; clear c8; have H' := az H; clear H; have p325 : 0 ≤ (x9_1 : Int) := of_decide_eq_true (by assumption); have q325 : x9_1 < (l0.length : Int) := of_decide_eq_true (by assumption); obtain ⟨ad325, e325, hx325_0, hx325_1, hx325_2, hx325_3⟩ := at_T41 HR0.out x9_1 p325 q325
        cases e325
        replace hx325_0 := (HB.out.cell (World.block_lt_of_cell? w _ hx325_0)).trans hx325_0; replace hx325_1 := (HB.out.cell (World.block_lt_of_cell? w _ hx325_1)).trans hx325_1; replace hx325_2 := (HB.out.cell (World.block_lt_of_cell? w _ hx325_2)).trans hx325_2; replace hx325_3 := (HB.out.cell (World.block_lt_of_cell? w _ hx325_3)).trans hx325_3; replace p325 := eq_true p325; replace q325 := eq_true q325; go_wp2_with (first | ((with_reducible refine gate_dst (N := 6) rfl ?_); refine box_event ?hg (N := 6) ?hd (cs := #[.int .i64 0, .int .i64 0, .int .i64 0, .int .i64 0]) (t := 41) ?hr ?_; (case hd => rfl); (case hg => rfl); (case hr => first | (go_simp; done) | (go_simp; rfl)); intro gb326 hg w13 hbox hb; have n0_ := az (blk_below (g := gb324) (o := .cells #[.int .i64 x325000_1, .int .i64 x325001_1] 62 (0, 0)) (by (with_reducible repeat (first | refine blk_drewN ?_ _ | refine blk_drew ?_ | refine blk_alloc ?_ _)); exact BK324.out) hb); have n1_ := az (below_step (by repeat (first | (with_reducible first | exact HB.out | apply below_alloc | apply pw_below_drewN | apply below_drew1 | refine below_set ?_ GE324.out) | exact HB.out)) hb); have n2_ := az (hbox); have n3_ := az ((by rw [hg]; exact (below_size (by repeat (first | (with_reducible first | exact HB.out | apply below_alloc | apply pw_below_drewN | apply below_drew1 | refine below_set ?_ GE324.out) | exact HB.out))) : w.heap.size ≤ gb326)); have n4_ := az ((by rw [hg]; exact (below_size (by repeat (first | (with_reducible first | exact HB.out | apply below_alloc | apply pw_below_drewN | apply below_drew1 | refine below_set ?_ GE324.out) | exact HB.out))) : w.heap.size ≤ gb326)); have n5_ := az ((by rw [hg]; exact Nat.ne_of_lt (blk_lt (g := gb324) (o := .cells #[.int .i64 x325000_1, .int .i64 x325001_1] 62 (0, 0)) (by (with_reducible repeat (first | refine blk_drewN ?_ _ | refine blk_drew ?_ | refine blk_alloc ?_ _)); exact BK324.out)) : gb324 ≠ gb326)); have n6_ := az ((by rw [hg]; exact Nat.ne_of_gt (blk_lt (g := gb324) (o := .cells #[.int .i64 x325000_1, .int .i64 x325001_1] 62 (0, 0)) (by (with_reducible repeat (first | refine blk_drewN ?_ _ | refine blk_drew ?_ | refine blk_alloc ?_ _)); exact BK324.out)) : gb326 ≠ gb324)); clear BK324; clear HB; have BK324 := n0_; have HB := n1_; have BK326 := n2_; have GW326 := n3_; have GE326 := n4_; have NB324_326 := n5_; have NB326_324 := n6_; clear n0_ n1_ n2_ n3_ n4_ n5_ n6_; clear hb hbox hg; have hnb14 := NB326_324.out; have hnc14 := NB324_326.out; have hcz15_0 : w13.cell? ⟨gb326, 0, none⟩ = some (.int .i64 0) := (blk_cell BK326.out 0).trans rfl; have hcz15_1 : w13.cell? ⟨gb326, 1, none⟩ = some (.int .i64 0) := (blk_cell BK326.out 1).trans rfl; have hcz15_2 : w13.cell? ⟨gb326, 2, none⟩ = some (.int .i64 0) := (blk_cell BK326.out 2).trans rfl; have hcz15_3 : w13.cell? ⟨gb326, 3, none⟩ = some (.int .i64 0) := (blk_cell BK326.out 3).trans rfl; have hfz15_0 := blk_frozen BK326.out 0; have hfz15_1 := blk_frozen BK326.out 1; have hfz15_2 := blk_frozen BK326.out 2; have hfz15_3 := blk_frozen BK326.out 3)); go_roundg k1
        case measure => have := HK1.out; omega
        case rel => exact ⟨(wrap64 (x9_1 + 1)), (x325000_1), (x325001_1), (by first | rfl | (simp; done) | (simp [*]; done)), H', ⟨by have := HK1.out; omega⟩, ⟨by (with_reducible repeat (first | refine blk_drewN ?_ _ | refine blk_drew ?_ | refine blk_alloc ?_ _)); refine blk_far ?_ NB324_326.out _; (with_reducible repeat (first | refine blk_drewN ?_ _ | refine blk_drew ?_ | refine blk_alloc ?_ _)); refine blk_far ?_ NB324_326.out _; (with_reducible repeat (first | refine blk_drewN ?_ _ | refine blk_drew ?_ | refine blk_alloc ?_ _)); refine blk_far ?_ NB324_326.out _; (with_reducible repeat (first | refine blk_drewN ?_ _ | refine blk_drew ?_ | refine blk_alloc ?_ _)); refine blk_far ?_ NB324_326.out _; (with_reducible repeat (first | refine blk_drewN ?_ _ | refine blk_drew ?_ | refine blk_alloc ?_ _)); exact BK324.out⟩, ⟨by repeat (first | (with_reducible first | exact HB.out | apply below_alloc | apply pw_below_drewN | apply below_drew1 | refine below_set ?_ GE324.out | refine below_set ?_ GE326.out) | exact HB.out)⟩⟩
      ·
       rw [if_neg c7] at H; have c7b0 : decide (((rd_T41 l0 x9_1).f0) ≤ a1) = false := decide_eq_false c7; clear c7; have H' := az H; clear H; have p325 : 0 ≤ (x9_1 : Int) := of_decide_eq_true (by assumption); have q325 : x9_1 < (l0.length : Int) := of_decide_eq_true (by assumption); obtain ⟨ad325, e325, hx325_0, hx325_1, hx325_2, hx325_3⟩ := at_T41 HR0.out x9_1 p325 q325
       cases e325
       replace hx325_0 := (HB.out.cell (World.block_lt_of_cell? w _ hx325_0)).trans hx325_0; replace hx325_1 := (HB.out.cell (World.block_lt_of_cell? w _ hx325_1)).trans hx325_1; replace hx325_2 := (HB.out.cell (World.block_lt_of_cell? w _ hx325_2)).trans hx325_2; replace hx325_3 := (HB.out.cell (World.block_lt_of_cell? w _ hx325_3)).trans hx325_3; replace p325 := eq_true p325; replace q325 := eq_true q325; go_wp2_with (first | ((with_reducible refine gate_dst (N := 6) rfl ?_); refine box_event ?hg (N := 6) ?hd (cs := #[.int .i64 0, .int .i64 0, .int .i64 0, .int .i64 0]) (t := 41) ?hr ?_; (case hd => rfl); (case hg => rfl); (case hr => first | (go_simp; done) | (go_simp; rfl)); intro gb326 hg w16 hbox hb; have n0_ := az (blk_below (g := gb324) (o := .cells #[.int .i64 x325000_1, .int .i64 x325001_1] 62 (0, 0)) (by (with_reducible repeat (first | refine blk_drewN ?_ _ | refine blk_drew ?_ | refine blk_alloc ?_ _)); exact BK324.out) hb); have n1_ := az (below_step (by repeat (first | (with_reducible first | exact HB.out | apply below_alloc | apply pw_below_drewN | apply below_drew1 | refine below_set ?_ GE324.out) | exact HB.out)) hb); have n2_ := az (hbox); have n3_ := az ((by rw [hg]; exact (below_size (by repeat (first | (with_reducible first | exact HB.out | apply below_alloc | apply pw_below_drewN | apply below_drew1 | refine below_set ?_ GE324.out) | exact HB.out))) : w.heap.size ≤ gb326)); have n4_ := az ((by rw [hg]; exact (below_size (by repeat (first | (with_reducible first | exact HB.out | apply below_alloc | apply pw_below_drewN | apply below_drew1 | refine below_set ?_ GE324.out) | exact HB.out))) : w.heap.size ≤ gb326)); have n5_ := az ((by rw [hg]; exact Nat.ne_of_lt (blk_lt (g := gb324) (o := .cells #[.int .i64 x325000_1, .int .i64 x325001_1] 62 (0, 0)) (by (with_reducible repeat (first | refine blk_drewN ?_ _ | refine blk_drew ?_ | refine blk_alloc ?_ _)); exact BK324.out)) : gb324 ≠ gb326)); have n6_ := az ((by rw [hg]; exact Nat.ne_of_gt (blk_lt (g := gb324) (o := .cells #[.int .i64 x325000_1, .int .i64 x325001_1] 62 (0, 0)) (by (with_reducible repeat (first | refine blk_drewN ?_ _ | refine blk_drew ?_ | refine blk_alloc ?_ _)); exact BK324.out)) : gb326 ≠ gb324)); clear BK324; clear HB; have BK324 := n0_; have HB := n1_; have BK326 := n2_; have GW326 := n3_; have GE326 := n4_; have NB324_326 := n5_; have NB326_324 := n6_; clear n0_ n1_ n2_ n3_ n4_ n5_ n6_; clear hb hbox hg; have hnb17 := NB326_324.out; have hnc17 := NB324_326.out; have hcz18_0 : w16.cell? ⟨gb326, 0, none⟩ = some (.int .i64 0) := (blk_cell BK326.out 0).trans rfl; have hcz18_1 : w16.cell? ⟨gb326, 1, none⟩ = some (.int .i64 0) := (blk_cell BK326.out 1).trans rfl; have hcz18_2 : w16.cell? ⟨gb326, 2, none⟩ = some (.int .i64 0) := (blk_cell BK326.out 2).trans rfl; have hcz18_3 : w16.cell? ⟨gb326, 3, none⟩ = some (.int .i64 0) := (blk_cell BK326.out 3).trans rfl; have hfz18_0 := blk_frozen BK326.out 0; have hfz18_1 := blk_frozen BK326.out 1; have hfz18_2 := blk_frozen BK326.out 2; have hfz18_3 := blk_frozen BK326.out 3)); go_roundg k1
       case measure => have := HK1.out; omega
       case rel => exact ⟨(wrap64 (x9_1 + 1)), (x325000_1), (x325001_1), (by first | rfl | (simp; done) | (simp [*]; done)), H', ⟨by have := HK1.out; omega⟩, ⟨by (with_reducible repeat (first | refine blk_drewN ?_ _ | refine blk_drew ?_ | refine blk_alloc ?_ _)); refine blk_far ?_ NB324_326.out _; (with_reducible repeat (first | refine blk_drewN ?_ _ | refine blk_drew ?_ | refine blk_alloc ?_ _)); refine blk_far ?_ NB324_326.out _; (with_reducible repeat (first | refine blk_drewN ?_ _ | refine blk_drew ?_ | refine blk_alloc ?_ _)); refine blk_far ?_ NB324_326.out _; (with_reducible repeat (first | refine blk_drewN ?_ _ | refine blk_drew ?_ | refine blk_alloc ?_ _)); refine blk_far ?_ NB324_326.out _; (with_reducible repeat (first | refine blk_drewN ?_ _ | refine blk_drew ?_ | refine blk_alloc ?_ _)); exact BK324.out⟩, ⟨by repeat (first | (with_reducible first | exact HB.out | apply below_alloc | apply pw_below_drewN | apply below_drew1 | refine below_set ?_ GE324.out | refine below_set ?_ GE326.out) | exact HB.out)⟩⟩
     ·
      rw [if_neg c6] at H; exact absurd H (by simp)
    ·
     rw [if_neg c5] at H; exact absurd H (by simp)
   ·
    rw [if_neg c4] at H; have c4b0 : decide (x9_1 < (l0.length : Int)) = false := decide_eq_false c4; clear c4; replace H := Option.bind_eq_some_iff.mp H; obtain ⟨⟨t327, t328⟩, A190, H⟩ := H; replace H : (some (t327, t328)) = some (r1, r2) := H; have A19 := az A190; clear A190; simp only [Option.some.injEq, Prod.mk.injEq] at H; obtain ⟨rfl, rfl⟩ := H; go_wp2_with (first | ((with_reducible refine gate_callee (f := 68) rfl ?_); refine goesL_ (some 29) rfl rfl Try.func68 (by kernel_rfl) rfl #[] rfl (by (try simp only [List.map_toArray, List.map_cons, List.map_nil]); first | done | rfl) ?_; (with_reducible refine (impl_plainLook.calls  t327 t328 _ A19.out).mono ?_); rintro e w20 ⟨rfl, hb⟩; refine ⟨_, rfl, ?_⟩; have n0_ := az (blk_below (g := gb324) (o := .cells #[.int .i64 x325000_1, .int .i64 x325001_1] 62 (0, 0)) (by (with_reducible repeat (first | refine blk_drewN ?_ _ | refine blk_drew ?_ | refine blk_alloc ?_ _)); exact BK324.out) hb); have n1_ := az (below_step (by repeat (first | (with_reducible first | exact HB.out | apply below_alloc | apply pw_below_drewN | apply below_drew1 | refine below_set ?_ GE324.out) | exact HB.out)) hb); clear BK324; clear HB; have BK324 := n0_; have HB := n1_; clear n0_ n1_; (try clear hb); (try clear hb2); (try clear hk); (try clear hi); have hcz21_0 : w20.cell? ⟨gb324, 0, none⟩ = some (.int .i64 x325000_1) := (blk_cell BK324.out 0).trans rfl; have hcz21_1 : w20.cell? ⟨gb324, 1, none⟩ = some (.int .i64 x325001_1) := (blk_cell BK324.out 1).trans rfl; have hfz21_0 := blk_frozen BK324.out 0; have hfz21_1 := blk_frozen BK324.out 1)); refine bodyPost_ret (results_cell_row rfl _ _ gb324 62 #[.int .i64 t327, .int .i64 t328] (0, 0) _ rfl (by (with_reducible repeat (first | refine blk_drewN ?_ _ | refine blk_drew ?_ | refine blk_alloc ?_ _)); refine blk_put (cs := #[.int .i64 t327, .int .i64 x325001_1]) ?_ 1 _ rfl; (with_reducible repeat (first | refine blk_drewN ?_ _ | refine blk_drew ?_ | refine blk_alloc ?_ _)); refine blk_put (cs := #[.int .i64 x325000_1, .int .i64 x325001_1]) ?_ 0 _ rfl; (with_reducible repeat (first | refine blk_drewN ?_ _ | refine blk_drew ?_ | refine blk_alloc ?_ _)); exact BK324.out) Try.underlying62 rfl (by kernel_rfl)) rfl ?_; exact ⟨by first | rfl | (simp [errW_none, errW_some] <;> rfl) | (simp [*, errW_none, errW_some] <;> rfl), by repeat (first | (with_reducible first | exact HB.out | apply below_alloc | apply pw_below_drewN | apply below_drew1 | refine below_set ?_ GE324.out) | exact HB.out)⟩
def impl_widesOf.l0 : Nat → List Int → List (S41) → List Int → List Int → Int → Int → Option (List Int)
 | 0, _, _, _, _, _, _ => none
 | k + 1, x0, x1, x5, x12, x13, x14 => if x14 < x13 then (if 0 ≤ x14 then (if x14 < (x12.length : Int) then ((impl_clusterWide.f k x0 (rd x12 x14)).bind fun t336 => ((impl_lookAt.f k x1 (rd x12 x14)).bind fun bt337 => (if 0 ≤ (rd x12 x14) then (if (rd x12 x14) < (x5.length : Int) then (impl_widesOf.l0 k x0 x1 (x5.set ((rd x12 x14) : Int).toNat (wrap64 (t336 * bt337.1))) x12 x13 (wrap64 (x14 + 1))) else (none)) else (none)))) else (none)) else (none)) else (some x5)
def impl_widesOf.f (k : Nat) (l0 : List Int) (l1 : List (S41)) : Option (List Int) := if 0 ≤ (l0.length : Int) then (if ((l0.length : Int) : Int).toNat ≤ 35184372088832 then ((impl_starts.f k l0).bind fun t332 => (impl_widesOf.l0 k l0 l1 (List.replicate ((l0.length : Int) : Int).toNat 0) t332 (t332.length : Int) 0)) else (none)) else (none)
theorem impl_widesOf.mono_l : ∀ k, (∀ y0 y1 y2 y3 y4 y5, LeO (impl_widesOf.l0 k y0 y1 y2 y3 y4 y5) (impl_widesOf.l0 (k + 1) y0 y1 y2 y3 y4 y5))
 | 0 => fun _ _ _ _ _ _ r h => by simp [impl_widesOf.l0] at h
 | k + 1 => by
  have ih0 := impl_widesOf.mono_l k
  ·
   intro y0 y1 y2 y3 y4 y5; unfold impl_widesOf.l0
   repeat' first
   | (with_reducible exact ih0 _ _ _ _ _ _)
   | (with_reducible exact impl_clusterWide.mono _ _ _)
   | (with_reducible exact impl_lookAt.mono _ _ _)
   | (with_reducible exact impl_starts.mono _ _)
   | (with_reducible exact LeO.refl _)
   | (with_reducible exact LeO.none _)
   | (with_reducible refine LeO.ite ?_ ?_)
   | (with_reducible refine LeO.bind ?_ (fun _ => ?_))
   | exact ih0 _ _ _ _ _ _
   | exact impl_clusterWide.mono _ _ _
   | exact impl_lookAt.mono _ _ _
   | exact impl_starts.mono _ _
   | exact LeO.none _
   | refine LeO.ite ?_ ?_
   | refine LeO.bind ?_ (fun _ => ?_)
theorem impl_widesOf.mono : ∀ a0 a1 k, LeO (impl_widesOf.f k a0 a1) (impl_widesOf.f (k + 1) a0 a1) := by
 intro a0 a1 k; have ih0 := impl_widesOf.mono_l k; unfold impl_widesOf.f
 repeat' first
   | (with_reducible exact ih0 _ _ _ _ _ _)
   | (with_reducible exact impl_clusterWide.mono _ _ _)
   | (with_reducible exact impl_lookAt.mono _ _ _)
   | (with_reducible exact impl_starts.mono _ _)
   | (with_reducible exact LeO.refl _)
   | (with_reducible exact LeO.none _)
   | (with_reducible refine LeO.ite ?_ ?_)
   | (with_reducible refine LeO.bind ?_ (fun _ => ?_))
   | exact ih0 _ _ _ _ _ _
   | exact impl_clusterWide.mono _ _ _
   | exact impl_lookAt.mono _ _ _
   | exact impl_starts.mono _ _
   | exact LeO.none _
   | refine LeO.ite ?_ ?_
   | refine LeO.bind ?_ (fun _ => ?_)
theorem fldLook (a b : Int) (w : World) : (Instr.field 62 (.agg #[.int .i64 a, .int .i64 b]) 0).run Try.prog w = .ok (.int .i64 a) w := by kernel_rfl
attribute [local go_sem] fldLook
theorem impl_widesOf.calls (k : Nat) (A0 : Option Addr) (c0 : Nat) (l0 : List Int) (A1 : Option Addr) (c1 : Nat) (l1 : List (S41)) (r : List Int) (w : World) (hr0 : Kd.C (Kd.int .i64) w A0 l0.length l0) (hc0 : l0.length ≤ c0) (hr1 : Kd.C k41 w A1 l1.length l1) (hc1 : l1.length ≤ c1) (h : impl_widesOf.f k l0 l1 = some r) :
  Calls Try.prog 32 #[.slice A0 l0.length c0, .slice A1 l1.length c1] w fun e w' => ∃ v0_ : Value, e = .returned (v0_) ∧ Kd.R (Kd.int .i64) 3 w' w.heap.size (fun _ => True) v0_ r ∧ Below w.heap.size w w' := by
 have HR0 := az hr0; have HC0 := az hc0; clear hr0 hc0; have HR1 := az hr1; have HC1 := az hc1; clear hr1 hc1; have HB := az (Below.refl w.heap.size w); have H : (if 0 ≤ (l0.length : Int) then (if ((l0.length : Int) : Int).toNat ≤ 35184372088832 then ((impl_starts.f k l0).bind fun t332 => (impl_widesOf.l0 k l0 l1 (List.replicate ((l0.length : Int) : Int).toNat 0) t332 (t332.length : Int) 0)) else (none)) else (none)) = some r := h; clear h; by_cases c3 : 0 ≤ (l0.length : Int)
 ·
  rw [if_pos c3] at H; have c3b0 := eq_true c3; have c3b1 : decide (0 ≤ (l0.length : Int)) = true := decide_eq_true c3; clear c3; by_cases c4 : ((l0.length : Int) : Int).toNat ≤ 35184372088832
  ·
   rw [if_pos c4] at H; have c4b0 := eq_true c4; have c4b1 : decide (((l0.length : Int) : Int).toNat ≤ 35184372088832) = true := decide_eq_true c4; clear c4; obtain ⟨y329, hy329⟩ : ∃ y_ : List Int, y_ = (List.replicate ((l0.length : Int) : Int).toNat 0) := ⟨_, rfl⟩; replace H : ((impl_starts.f k l0).bind fun t332 => (impl_widesOf.l0 k l0 l1 y329 t332 (t332.length : Int) 0)) = some r := by first | (rw [hy329]; with_reducible exact H) | (have H2_ := (Option.bind_some _ _).symm.trans H; rw [hy329]; with_reducible exact H2_) | (have H2_ := (Option.bind_some _ _).symm.trans H; with_reducible exact H2_) | with_reducible exact H | (rw [hy329]; exact H) | exact H
   have Ny329 := az hy329; clear hy329; replace H := Option.bind_eq_some_iff.mp H; obtain ⟨t332, A50, H⟩ := H; replace H : (impl_widesOf.l0 k l0 l1 y329 t332 (t332.length : Int) 0) = some r := H; have A5 := az A50; clear A50; have H' := az H; clear H; go_enter Try.func32, Try.ntmps32; go_wp2_with (first | ((with_reducible refine gate_dst (N := 10) rfl ?_); refine Kd.R_make (Kd.int .i64) _ 3 rfl (N := 10) rfl 22 _ _ rfl (l0.length : Int) rfl rfl Try.underlying22 (.int .i64 0) 8 info3 rfl (by decide) (by omega) 0 (ok := fun _ => True) (okp := fun _ => True) rfl (fun _ hk => hk) trivial (of_decide_eq_true (by assumption)) (Nat.le_trans (Nat.mul_le_mul_right _ (of_decide_eq_true (by assumption) : (l0.length : Int).toNat ≤ 35184372088832)) (by omega)) (Below.refl _ _) (Nat.le_refl _) ?_; intro v330 w6 ho7 hb hg_ hnew_; clear hg_ hnew_; (first | rw [← Ny329.out] at ho7 | (simp only [Int.reduceToNat] at ho7; rw [← Ny329.out] at ho7)); have n0_ := az (Kd.R_lower ho7 (below_size (by repeat (first | (with_reducible first | exact HB.out | apply below_alloc | apply pw_below_drewN | apply below_drew1) | exact HB.out)))); have n1_ := az (below_step (by repeat (first | (with_reducible first | exact HB.out | apply below_alloc | apply pw_below_drewN | apply below_drew1) | exact HB.out)) hb); clear HB; have HO331 := n0_; have HB := n1_; clear n0_ n1_; clear hb ho7) | ((with_reducible refine gate_callee (f := 51) rfl ?_); refine goesL_ (some 12) rfl rfl Try.func51 (by kernel_rfl) rfl #[.slice A0 l0.length c0] rfl (by (try simp only [List.map_toArray, List.map_cons, List.map_nil]); first | done | rfl) ?_; (with_reducible refine (impl_starts.calls k _ _ l0 t332 _ ?side1 ?side2 A5.out).mono ?_); (case side1 => repeat (first | exact (Kd.C_below HR0.out HB.out) | (with_reducible refine Kd.C_alloc ?_ _) | (with_reducible refine Kd.C_drewN ?_ _) | (with_reducible refine Kd.C_drew ?_))); (case side2 => exact HC0.out); rintro e w8 ⟨v333, rfl, ho0, hb⟩; refine ⟨_, rfl, ?_⟩; have n0_ := az (Kd.R_elder' (by (with_reducible repeat (first | apply Kd.R_alloc | apply Kd.R_drewN | apply Kd.R_drew)); exact HO331.out) (Kd.R_base ho0) hb); have n1_ := az (Kd.R_lower (Kd.R_new' ho0 (Kd.R_lt (by (with_reducible repeat (first | apply Kd.R_alloc | apply Kd.R_drewN | apply Kd.R_drew)); exact HO331.out))) (below_size (by repeat (first | (with_reducible first | exact HB.out | apply below_alloc | apply pw_below_drewN | apply below_drew1) | exact HB.out)))); have n2_ := az (below_step (by repeat (first | (with_reducible first | exact HB.out | apply below_alloc | apply pw_below_drewN | apply below_drew1) | exact HB.out)) hb); clear HO331; clear HB; have HO331 := n0_; have HO334 := n1_; have HB := n2_; clear n0_ n1_ n2_; (try clear hb); (try clear hb2); (try clear hk); (try clear hi); (try clear ho0); obtain ⟨Ao9, co9, eo9⟩ := Kd.R_slice HO334.out; subst eo9)); go_loopg [14] k (fun kq v14 w' => ∃ (x5_1 : List Int) (x14_1 : Int), v14 = .int .i64 x14_1 ∧ Aside0 (impl_widesOf.l0 kq l0 l1 x5_1 t332 (t332.length : Int) x14_1 = some r) ∧ Aside0 (kq ≤ k) ∧ Aside0 (Kd.R (Kd.int .i64) 3 w' w.heap.size (fun k_ => some k_ ≠ ((.slice Ao9 t332.length co9) : Value).ownBlock) v330 x5_1) ∧ Aside0 (Kd.R (Kd.int .i64) 3 w' w.heap.size (fun k_ => some k_ ≠ (v330 : Value).ownBlock) (.slice Ao9 t332.length co9) t332) ∧ Aside0 (Below w.heap.size w w'))
   case atStart => exact ⟨(y329), (0), (by first | rfl | (simp; done) | (simp [*]; done)), H', ⟨Nat.le_refl _⟩, ⟨by (with_reducible repeat (first | apply Kd.R_alloc | apply Kd.R_drewN | apply Kd.R_drew)); exact Kd.R_mono HO331.out (fun _ hk => hk.2)⟩, ⟨by (with_reducible repeat (first | apply Kd.R_alloc | apply Kd.R_drewN | apply Kd.R_drew)); exact Kd.R_mono HO334.out (fun _ hk => hk.2)⟩, ⟨by repeat (first | (with_reducible first | exact HB.out | apply below_alloc | apply pw_below_drewN | apply below_drew1) | exact HB.out)⟩⟩
   case round =>
    clear H'; (try clear c1); (try clear p2); (try clear c3); (try clear c3b0); (try clear c3b1); (try clear c4); (try clear c4b0); (try clear c4b1); (try clear c5); obtain ⟨x5_1, x14_1, rfl, HA, HK1, HO_5, HO_12, HB⟩ := hrel
    cases gk with
    | zero => exact absurd HA.out (by simp [impl_widesOf.l0])
    | succ k1 =>
     have H := HA.out; clear HA; simp only [impl_widesOf.l0] at H; by_cases c10 : x14_1 < (t332.length : Int)
     ·
      rw [if_pos c10] at H; have c10b0 : decide (x14_1 < (t332.length : Int)) = true := decide_eq_true c10; clear c10; by_cases c11 : 0 ≤ x14_1
      ·
       rw [if_pos c11] at H; have c11b0 : decide (0 ≤ x14_1) = true := decide_eq_true c11; clear c11; by_cases c12 : x14_1 < (t332.length : Int)
       ·
        rw [if_pos c12] at H; have c12b0 : decide (x14_1 < (t332.length : Int)) = true := decide_eq_true c12; clear c12; replace H := Option.bind_eq_some_iff.mp H; obtain ⟨t336, A130, H⟩ := H; replace H : ((impl_lookAt.f k1 l1 (rd t332 x14_1)).bind fun bt337 => (if 0 ≤ (rd t332 x14_1) then (if (rd t332 x14_1) < (x5_1.length : Int) then (impl_widesOf.l0 k1 l0 l1 (x5_1.set ((rd t332 x14_1) : Int).toNat (wrap64 (t336 * bt337.1))) t332 (t332.length : Int) (wrap64 (x14_1 + 1))) else (none)) else (none))) = some r := H; have A13 := az A130; clear A130; replace H := Option.bind_eq_some_iff.mp H; obtain ⟨⟨t337, t338⟩, A140, H⟩ := H; replace H : (if 0 ≤ (rd t332 x14_1) then (if (rd t332 x14_1) < (x5_1.length : Int) then (impl_widesOf.l0 k1 l0 l1 (x5_1.set ((rd t332 x14_1) : Int).toNat (wrap64 (t336 * t337))) t332 (t332.length : Int) (wrap64 (x14_1 + 1))) else (none)) else (none)) = some r := H; have A14 := az A140; clear A140; by_cases c15 : 0 ≤ (rd t332 x14_1)
        ·
         rw [if_pos c15] at H; have c15b0 : decide (0 ≤ (rd t332 x14_1)) = true := decide_eq_true c15; clear c15; by_cases c16 : (rd t332 x14_1) < (x5_1.length : Int)
         ·
          rw [if_pos c16] at H; have c16b0 : decide ((rd t332 x14_1) < (x5_1.length : Int)) = true := decide_eq_true c16; clear c16; obtain ⟨y339, hy339⟩ : ∃ y_ : List Int, y_ = (x5_1.set ((rd t332 x14_1) : Int).toNat (wrap64 (t336 * t337))) := ⟨_, rfl⟩; replace H : (impl_widesOf.l0 k1 l0 l1 y339 t332 (t332.length : Int) (wrap64 (x14_1 + 1))) = some r := by first | (rw [hy339]; with_reducible exact H) | (have H2_ := (Option.bind_some _ _).symm.trans H; rw [hy339]; with_reducible exact H2_) | (have H2_ := (Option.bind_some _ _).symm.trans H; with_reducible exact H2_) | with_reducible exact H | (rw [hy339]; exact H) | exact H
          have Ny339 := az hy339; clear hy339; have H' := az H; clear H; have p335 : 0 ≤ (x14_1 : Int) := of_decide_eq_true (by assumption); have q335 : x14_1 < (t332.length : Int) := of_decide_eq_true (by assumption); obtain ⟨ad335, e335, hx335_0⟩ := Kd.at_int (Kd.R_reads' HO_12.out).2.2 x14_1 p335 q335
          cases e335
          replace p335 := eq_true p335; replace q335 := eq_true q335; go_wp2_with (first | ((with_reducible refine gate_callee (f := 52) rfl ?_); refine goesL_ (some 22) rfl rfl Try.func52 (by kernel_rfl) rfl #[.slice A0 l0.length c0, .int .i64 (rd t332 x14_1)] rfl (by (try simp only [List.map_toArray, List.map_cons, List.map_nil]); first | done | rfl) ?_; (with_reducible refine (impl_clusterWide.calls k1 _ _ l0 (rd t332 x14_1) t336 _ ?side1 ?side2 A13.out).mono ?_); (case side1 => repeat (first | exact (Kd.C_below HR0.out HB.out) | (with_reducible refine Kd.C_alloc ?_ _) | (with_reducible refine Kd.C_drewN ?_ _) | (with_reducible refine Kd.C_drew ?_))); (case side2 => exact HC0.out); rintro e w18 ⟨rfl, hb⟩; refine ⟨_, rfl, ?_⟩; have n0_ := az (Kd.R_below (by (with_reducible repeat (first | apply Kd.R_alloc | apply Kd.R_drewN | apply Kd.R_drew)); exact HO_5.out) hb); have n1_ := az (Kd.R_below (by (with_reducible repeat (first | apply Kd.R_alloc | apply Kd.R_drewN | apply Kd.R_drew)); exact HO_12.out) hb); have n2_ := az (below_step (by repeat (first | (with_reducible first | exact HB.out | apply below_alloc | apply pw_below_drewN | apply below_drew1) | exact HB.out)) hb); clear HO_5; clear HO_12; clear HB; have HO_5 := n0_; have HO_12 := n1_; have HB := n2_; clear n0_ n1_ n2_; (try clear hb); (try clear hb2); (try clear hk); (try clear hi)) | ((with_reducible refine gate_callee (f := 53) rfl ?_); refine goesL_ (some 25) rfl rfl Try.func53 (by kernel_rfl) rfl #[.slice A1 l1.length c1, .int .i64 (rd t332 x14_1)] rfl (by (try simp only [List.map_toArray, List.map_cons, List.map_nil]); first | done | rfl) ?_; (with_reducible refine (impl_lookAt.calls k1 _ _ l1 (rd t332 x14_1) t337 t338 _ ?side1 ?side2 A14.out).mono ?_); (case side1 => repeat (first | exact (Kd.C_below HR1.out HB.out) | (with_reducible refine Kd.C_alloc ?_ _) | (with_reducible refine Kd.C_drewN ?_ _) | (with_reducible refine Kd.C_drew ?_))); (case side2 => exact HC1.out); rintro e w19 ⟨rfl, hb⟩; refine ⟨_, rfl, ?_⟩; have n0_ := az (Kd.R_below (by (with_reducible repeat (first | apply Kd.R_alloc | apply Kd.R_drewN | apply Kd.R_drew)); exact HO_5.out) hb); have n1_ := az (Kd.R_below (by (with_reducible repeat (first | apply Kd.R_alloc | apply Kd.R_drewN | apply Kd.R_drew)); exact HO_12.out) hb); have n2_ := az (below_step (by repeat (first | (with_reducible first | exact HB.out | apply below_alloc | apply pw_below_drewN | apply below_drew1) | exact HB.out)) hb); clear HO_5; clear HO_12; clear HB; have HO_5 := n0_; have HO_12 := n1_; have HB := n2_; clear n0_ n1_ n2_; (try clear hb); (try clear hb2); (try clear hk); (try clear hi); have p17 : 0 ≤ ((rd t332 x14_1) : Int) := of_decide_eq_true (by assumption); have q17 : ((rd t332 x14_1) : Int) < ((x5_1.length : Int) : Int) := of_decide_eq_true (by assumption); obtain ⟨go17, co17, eo17, gb17, gl17, cl17, HG17⟩ := Kd.R_form HO_5.out (by omega); (first | cases eo17 | (injection eo17 with ea_ en_ ec_; (first | subst ea_ | (injection ea_ with ea_; subst ea_)); subst ec_; clear en_)); have GB17 := az gb17; have GG17 := az HG17; clear gb17 gl17 HG17; obtain ⟨hx17_0, hf17_0⟩ := Kd.R_celln 0 HO_5.out ((rd t332 x14_1) : Int) p17 q17; replace p17 := eq_true p17; replace q17 := eq_true q17; obtain ⟨hy20_, hz20_⟩ := Kd.R_celln 0 HO_5.out ((rd t332 x14_1) : Int) (of_decide_eq_true (by assumption)) (of_decide_eq_true (by assumption)); have HP20 := Kd.R_putg HO_5.out ((rd t332 x14_1) : Int) (wrap64 (t336 * t337))) | ((with_reducible refine gate_store (t := 3) (p := 28) rfl ?_); refine store_event (t := 3) (p := 28) (v := ?vo_w21) (w1 := (w19.setCell ⟨go17, ((rd t332 x14_1) : Int).toNat, none⟩ (.int .i64 (wrap64 (t336 * t337))))) ?hg ?ho ?hn ?hr ?_; (case ho => rfl); (case hg => rfl); (case hn => rfl); (case hr => first | (go_simp; done) | (go_simp; rfl)); intro w21 hw; have hg : w19.grownBy w21 (some go17) := (by rw [hw]; exact HP20.2); have hp_ : Kd.R (Kd.int .i64) 3 w21 w.heap.size (fun k_ => some k_ ≠ (.slice (some ad335) t332.length co9 : Value).ownBlock) (.slice (some ⟨go17, 0, none⟩) x5_1.length co17) y339 := (by rw [hw, Ny339.out]; exact HP20.1); clear HP20; have n0_ := az (hp_); have n1_ := az (Kd.R_after (v := (.slice (some ⟨go17, 0, none⟩) x5_1.length co17)) (v1 := (.slice (some ⟨go17, 0, none⟩) x5_1.length co17)) (ok := (fun _ => True)) (by (with_reducible repeat (first | apply Kd.R_alloc | apply Kd.R_drewN | apply Kd.R_drew)); exact Kd.R_mono HO_12.out (fun _ hk => ⟨trivial, hk⟩)) hg (.inl rfl)); have n2_ := az ((by rw [hw]; exact below_set (HB.out) GB17.out : Below w.heap.size w w21)); clear HO_5; clear HO_12; clear HB; have HO_5 := n0_; have HO_12 := n1_; have HB := n2_; clear n0_ n1_ n2_; clear hg hw hp_))
          go_roundg k1
          case measure => have := HK1.out; omega
          case rel => exact ⟨(y339), (wrap64 (x14_1 + 1)), (by first | rfl | (simp; done) | (simp [*]; done)), H', ⟨by have := HK1.out; omega⟩, ⟨by (with_reducible repeat (first | apply Kd.R_alloc | apply Kd.R_drewN | apply Kd.R_drew)); exact HO_5.out⟩, ⟨by (with_reducible repeat (first | apply Kd.R_alloc | apply Kd.R_drewN | apply Kd.R_drew)); exact Kd.R_mono HO_12.out (fun _ hk => hk.2)⟩, ⟨by repeat (first | (with_reducible first | exact HB.out | apply below_alloc | apply pw_below_drewN | apply below_drew1) | exact HB.out)⟩⟩
         ·
          rw [if_neg c16] at H; exact absurd H (by simp)
        ·
         rw [if_neg c15] at H; exact absurd H (by simp)
       ·
        rw [if_neg c12] at H; exact absurd H (by simp)
      ·
       rw [if_neg c11] at H; exact absurd H (by simp)
     ·
      rw [if_neg c10] at H; have c10b0 : decide (x14_1 < (t332.length : Int)) = false := decide_eq_false c10; clear c10; obtain rfl := Option.some.inj H; go_wp2; go_ret; exact ⟨_, by first | rfl | (simp [errW_none, errW_some] <;> rfl) | (simp [*, errW_none, errW_some] <;> rfl), by (with_reducible repeat (first | apply Kd.R_alloc | apply Kd.R_drewN | apply Kd.R_drew)); exact Kd.R_mono HO_5.out (fun _ hk => trivial), by repeat (first | (with_reducible first | exact HB.out | apply below_alloc | apply pw_below_drewN | apply below_drew1) | exact HB.out)⟩
  ·
   rw [if_neg c4] at H; exact absurd H (by simp)
 ·
  rw [if_neg c3] at H; exact absurd H (by simp)
theorem appI {P : Program} {rest : List Oper} {opsA : Array Oper} {o : Oper} {a : Act} {Q : Exit → Act → World → Prop} {w0 W : World} {t : TypeId} {base : Nat} (ht : P.underlying t = some (.slice 3)) (hinfo : (P.info? 3).map (fun i => (i.zero, i.size, i.bytes)) = some (some (.int .i64 0), 1, 8)) (hgd : o.guard = none) (s x : Operand)
  (ho : o.op = .call { callee := .builtin .append, args := #[s, x], argTypes := #[t, t] }) (v : Value) (xs : List Int) (p : Int) (hs : a.eval s = v) (hx : a.eval x = .slice (some ⟨W.heap.size, 0, none⟩) 1 1)
  (HO : Kd.R (Kd.int .i64) 3 W base (fun _ => True) v xs) (HB : Below base w0 W) (hbase : base ≤ W.heap.size) (hl : xs.length < 1000000)
  (h : ∀ v1 w1, Kd.R (Kd.int .i64) 3 w1 base (fun _ => True) v1 (xs ++ [p]) → Below base w0 w1 → W.grownBy w1 v.ownBlock → (v1.ownBlock = v.ownBlock ∨ ∃ b, v1.ownBlock = some b ∧ W.heap.size ≤ b) → wpList P opsA Q rest (a.put o.dst v1) w1) :
  wpList P opsA Q (o :: rest) a (W.alloc (.cells #[.int .i64 p] 3)) :=
 Kd.R_append (Kd.int .i64) base hgd s x t 3 (.int .i64 0) 8 ho ht hinfo rfl (by decide) (by omega) v xs p [.int .i64 p] (fun _ => True) (fun _ => False) hs hx rfl (fun _ hk => hk.elim) (fun _ _ => trivial) HO HB hbase (by omega) h
def impl_lineReaches.f  : Option ((List (S87))) := some (([(⟨9, 9, 14⟩ : S87), (⟨10, 10, 4⟩ : S87), (⟨32, 32, 3⟩ : S87), (⟨33, 33, 10⟩ : S87), (⟨34, 34, 11⟩ : S87), (⟨40, 40, 8⟩ : S87), (⟨41, 41, 9⟩ : S87), (⟨44, 44, 13⟩ : S87), (⟨45, 45, 12⟩ : S87), (⟨46, 47, 13⟩ : S87), (⟨48, 57, 2⟩ : S87), (⟨58, 59, 13⟩ : S87), (⟨63, 63, 10⟩ : S87), (⟨91, 91, 8⟩ : S87), (⟨93, 93, 9⟩ : S87), (⟨123, 123, 8⟩ : S87), (⟨125, 125, 9⟩ : S87), (⟨160, 160, 5⟩ : S87), (⟨173, 173, 14⟩ : S87), (⟨1632, 1641, 2⟩ : S87), (⟨8203, 8203, 6⟩ : S87), (⟨8205, 8205, 7⟩ : S87), (⟨19968, 40959, 15⟩ : S87)] : List (S87)))
theorem impl_lineReaches.calls  (r : List (S87)) (w : World) (h : impl_lineReaches.f  = some r) :
  Calls Try.prog 87 #[] w fun e w' => ∃ v0_ : Value, e = .returned (v0_) ∧ Kd.R k87 87 w' w.heap.size (fun _ => True) v0_ r ∧ Below w.heap.size w w' := by
 have hu87 := Try.underlying87; have HB := az (Below.refl w.heap.size w); have H : (some (([(⟨9, 9, 14⟩ : S87), (⟨10, 10, 4⟩ : S87), (⟨32, 32, 3⟩ : S87), (⟨33, 33, 10⟩ : S87), (⟨34, 34, 11⟩ : S87), (⟨40, 40, 8⟩ : S87), (⟨41, 41, 9⟩ : S87), (⟨44, 44, 13⟩ : S87), (⟨45, 45, 12⟩ : S87), (⟨46, 47, 13⟩ : S87), (⟨48, 57, 2⟩ : S87), (⟨58, 59, 13⟩ : S87), (⟨63, 63, 10⟩ : S87), (⟨91, 91, 8⟩ : S87), (⟨93, 93, 9⟩ : S87), (⟨123, 123, 8⟩ : S87), (⟨125, 125, 9⟩ : S87), (⟨160, 160, 5⟩ : S87), (⟨173, 173, 14⟩ : S87), (⟨1632, 1641, 2⟩ : S87), (⟨8203, 8203, 6⟩ : S87), (⟨8205, 8205, 7⟩ : S87), (⟨19968, 40959, 15⟩ : S87)] : List (S87)))) = some r := h; clear h; obtain ⟨y340, hy340⟩ : ∃ y_ : List (S87), y_ = (([(⟨9, 9, 14⟩ : S87), (⟨10, 10, 4⟩ : S87), (⟨32, 32, 3⟩ : S87), (⟨33, 33, 10⟩ : S87), (⟨34, 34, 11⟩ : S87), (⟨40, 40, 8⟩ : S87), (⟨41, 41, 9⟩ : S87), (⟨44, 44, 13⟩ : S87), (⟨45, 45, 12⟩ : S87), (⟨46, 47, 13⟩ : S87), (⟨48, 57, 2⟩ : S87), (⟨58, 59, 13⟩ : S87), (⟨63, 63, 10⟩ : S87), (⟨91, 91, 8⟩ : S87), (⟨93, 93, 9⟩ : S87), (⟨123, 123, 8⟩ : S87), (⟨125, 125, 9⟩ : S87), (⟨160, 160, 5⟩ : S87), (⟨173, 173, 14⟩ : S87), (⟨1632, 1641, 2⟩ : S87), (⟨8203, 8203, 6⟩ : S87), (⟨8205, 8205, 7⟩ : S87), (⟨19968, 40959, 15⟩ : S87)] : List (S87))) := ⟨_, rfl⟩; replace H : (some y340) = some r := by first | (rw [hy340]; with_reducible exact H) | (have H2_ := (Option.bind_some _ _).symm.trans H; rw [hy340]; with_reducible exact H2_) | (have H2_ := (Option.bind_some _ _).symm.trans H; with_reducible exact H2_) | with_reducible exact H | (rw [hy340]; exact H) | exact H
 have Ny340 := az hy340; clear hy340; obtain rfl := Option.some.inj H; go_enter Try.func87, Try.ntmps87; go_wp2_with (first | ((with_reducible refine gate_dst (N := 24) rfl ?_); refine Kd.R_lit k87 _ 87 ?hg (N := 24) ?hd (xs := ([(⟨9, 9, 14⟩ : S87), (⟨10, 10, 4⟩ : S87), (⟨32, 32, 3⟩ : S87), (⟨33, 33, 10⟩ : S87), (⟨34, 34, 11⟩ : S87), (⟨40, 40, 8⟩ : S87), (⟨41, 41, 9⟩ : S87), (⟨44, 44, 13⟩ : S87), (⟨45, 45, 12⟩ : S87), (⟨46, 47, 13⟩ : S87), (⟨48, 57, 2⟩ : S87), (⟨58, 59, 13⟩ : S87), (⟨63, 63, 10⟩ : S87), (⟨91, 91, 8⟩ : S87), (⟨93, 93, 9⟩ : S87), (⟨123, 123, 8⟩ : S87), (⟨125, 125, 9⟩ : S87), (⟨160, 160, 5⟩ : S87), (⟨173, 173, 14⟩ : S87), (⟨1632, 1641, 2⟩ : S87), (⟨8203, 8203, 6⟩ : S87), (⟨8205, 8205, 7⟩ : S87), (⟨19968, 40959, 15⟩ : S87)] : List (S87))) (inner := [.int .i64 9, .int .i64 9, .int .i64 14, .int .i64 10, .int .i64 10, .int .i64 4, .int .i64 32, .int .i64 32, .int .i64 3, .int .i64 33, .int .i64 33, .int .i64 10, .int .i64 34, .int .i64 34, .int .i64 11, .int .i64 40, .int .i64 40, .int .i64 8, .int .i64 41, .int .i64 41, .int .i64 9, .int .i64 44, .int .i64 44, .int .i64 13, .int .i64 45, .int .i64 45, .int .i64 12, .int .i64 46, .int .i64 47, .int .i64 13, .int .i64 48, .int .i64 57, .int .i64 2, .int .i64 58, .int .i64 59, .int .i64 13, .int .i64 63, .int .i64 63, .int .i64 10, .int .i64 91, .int .i64 91, .int .i64 8, .int .i64 93, .int .i64 93, .int .i64 9, .int .i64 123, .int .i64 123, .int .i64 8, .int .i64 125, .int .i64 125, .int .i64 9, .int .i64 160, .int .i64 160, .int .i64 5, .int .i64 173, .int .i64 173, .int .i64 14, .int .i64 1632, .int .i64 1641, .int .i64 2, .int .i64 8203, .int .i64 8203, .int .i64 6, .int .i64 8205, .int .i64 8205, .int .i64 7, .int .i64 19968, .int .i64 40959, .int .i64 15]) (ok := fun _ => True) (okp := fun _ => True) ?hr ?hp (fun _ hk => hk) trivial (Below.refl _ _) (Nat.le_refl _) (by simp) ?_; (case hd => rfl); (case hg => rfl); (case hr => first | (go_simp; done) | (go_simp; rfl)); (case hp => exact (Reps.c3 (show Kd.M k87 _ _ _ (⟨9, 9, 14⟩ : S87) [.int .i64 9, .int .i64 9, .int .i64 14] from (k87_mkM _ _ _ (⟨9, 9, 14⟩ : S87) )) (Reps.c3 (show Kd.M k87 _ _ _ (⟨10, 10, 4⟩ : S87) [.int .i64 10, .int .i64 10, .int .i64 4] from (k87_mkM _ _ _ (⟨10, 10, 4⟩ : S87) )) (Reps.c3 (show Kd.M k87 _ _ _ (⟨32, 32, 3⟩ : S87) [.int .i64 32, .int .i64 32, .int .i64 3] from (k87_mkM _ _ _ (⟨32, 32, 3⟩ : S87) )) (Reps.c3 (show Kd.M k87 _ _ _ (⟨33, 33, 10⟩ : S87) [.int .i64 33, .int .i64 33, .int .i64 10] from (k87_mkM _ _ _ (⟨33, 33, 10⟩ : S87) )) (Reps.c3 (show Kd.M k87 _ _ _ (⟨34, 34, 11⟩ : S87) [.int .i64 34, .int .i64 34, .int .i64 11] from (k87_mkM _ _ _ (⟨34, 34, 11⟩ : S87) )) (Reps.c3 (show Kd.M k87 _ _ _ (⟨40, 40, 8⟩ : S87) [.int .i64 40, .int .i64 40, .int .i64 8] from (k87_mkM _ _ _ (⟨40, 40, 8⟩ : S87) )) (Reps.c3 (show Kd.M k87 _ _ _ (⟨41, 41, 9⟩ : S87) [.int .i64 41, .int .i64 41, .int .i64 9] from (k87_mkM _ _ _ (⟨41, 41, 9⟩ : S87) )) (Reps.c3 (show Kd.M k87 _ _ _ (⟨44, 44, 13⟩ : S87) [.int .i64 44, .int .i64 44, .int .i64 13] from (k87_mkM _ _ _ (⟨44, 44, 13⟩ : S87) )) (Reps.c3 (show Kd.M k87 _ _ _ (⟨45, 45, 12⟩ : S87) [.int .i64 45, .int .i64 45, .int .i64 12] from (k87_mkM _ _ _ (⟨45, 45, 12⟩ : S87) )) (Reps.c3 (show Kd.M k87 _ _ _ (⟨46, 47, 13⟩ : S87) [.int .i64 46, .int .i64 47, .int .i64 13] from (k87_mkM _ _ _ (⟨46, 47, 13⟩ : S87) )) (Reps.c3 (show Kd.M k87 _ _ _ (⟨48, 57, 2⟩ : S87) [.int .i64 48, .int .i64 57, .int .i64 2] from (k87_mkM _ _ _ (⟨48, 57, 2⟩ : S87) )) (Reps.c3 (show Kd.M k87 _ _ _ (⟨58, 59, 13⟩ : S87) [.int .i64 58, .int .i64 59, .int .i64 13] from (k87_mkM _ _ _ (⟨58, 59, 13⟩ : S87) )) (Reps.c3 (show Kd.M k87 _ _ _ (⟨63, 63, 10⟩ : S87) [.int .i64 63, .int .i64 63, .int .i64 10] from (k87_mkM _ _ _ (⟨63, 63, 10⟩ : S87) )) (Reps.c3 (show Kd.M k87 _ _ _ (⟨91, 91, 8⟩ : S87) [.int .i64 91, .int .i64 91, .int .i64 8] from (k87_mkM _ _ _ (⟨91, 91, 8⟩ : S87) )) (Reps.c3 (show Kd.M k87 _ _ _ (⟨93, 93, 9⟩ : S87) [.int .i64 93, .int .i64 93, .int .i64 9] from (k87_mkM _ _ _ (⟨93, 93, 9⟩ : S87) )) (Reps.c3 (show Kd.M k87 _ _ _ (⟨123, 123, 8⟩ : S87) [.int .i64 123, .int .i64 123, .int .i64 8] from (k87_mkM _ _ _ (⟨123, 123, 8⟩ : S87) )) (Reps.c3 (show Kd.M k87 _ _ _ (⟨125, 125, 9⟩ : S87) [.int .i64 125, .int .i64 125, .int .i64 9] from (k87_mkM _ _ _ (⟨125, 125, 9⟩ : S87) )) (Reps.c3 (show Kd.M k87 _ _ _ (⟨160, 160, 5⟩ : S87) [.int .i64 160, .int .i64 160, .int .i64 5] from (k87_mkM _ _ _ (⟨160, 160, 5⟩ : S87) )) (Reps.c3 (show Kd.M k87 _ _ _ (⟨173, 173, 14⟩ : S87) [.int .i64 173, .int .i64 173, .int .i64 14] from (k87_mkM _ _ _ (⟨173, 173, 14⟩ : S87) )) (Reps.c3 (show Kd.M k87 _ _ _ (⟨1632, 1641, 2⟩ : S87) [.int .i64 1632, .int .i64 1641, .int .i64 2] from (k87_mkM _ _ _ (⟨1632, 1641, 2⟩ : S87) )) (Reps.c3 (show Kd.M k87 _ _ _ (⟨8203, 8203, 6⟩ : S87) [.int .i64 8203, .int .i64 8203, .int .i64 6] from (k87_mkM _ _ _ (⟨8203, 8203, 6⟩ : S87) )) (Reps.c3 (show Kd.M k87 _ _ _ (⟨8205, 8205, 7⟩ : S87) [.int .i64 8205, .int .i64 8205, .int .i64 7] from (k87_mkM _ _ _ (⟨8205, 8205, 7⟩ : S87) )) (Reps.c3 (show Kd.M k87 _ _ _ (⟨19968, 40959, 15⟩ : S87) [.int .i64 19968, .int .i64 40959, .int .i64 15] from (k87_mkM _ _ _ (⟨19968, 40959, 15⟩ : S87) )) (Reps.none _ _))))))))))))))))))))))))); intro v341 w1 ho2 hb hg_ hnew_; clear hg_ hnew_; (first | rw [← Ny340.out] at ho2 | (simp only [Int.reduceToNat] at ho2; rw [← Ny340.out] at ho2)); have n0_ := az (Kd.R_lower ho2 (below_size (by repeat (first | (with_reducible first | exact HB.out | apply below_alloc | apply pw_below_drewN | apply below_drew1) | exact HB.out)))); have n1_ := az (below_step (by repeat (first | (with_reducible first | exact HB.out | apply below_alloc | apply pw_below_drewN | apply below_drew1) | exact HB.out)) hb); clear HB; have HO342 := n0_; have HB := n1_; clear n0_ n1_; clear hb ho2))
 go_ret; exact ⟨_, by first | rfl | (simp [errW_none, errW_some] <;> rfl) | (simp [*, errW_none, errW_some] <;> rfl), by (with_reducible repeat (first | apply Kd.R_alloc | apply Kd.R_drewN | apply Kd.R_drew)); exact HO342.out, by repeat (first | (with_reducible first | exact HB.out | apply below_alloc | apply pw_below_drewN | apply below_drew1) | exact HB.out)⟩
def impl_RuneLine.j0 : Nat → Int → Bool → Option (Int)
 | 0, _, _ => none
 | k + 1, x0, x11 => if x11 = true then (some 7) else ((impl_lineReaches.f).bind fun t344 => ((impl_find.f t344 x0 1).bind fun t347 => (some t347)))
def impl_RuneLine.f (k : Nat) (a0 : Int) : Option (Int) := (impl_RuneBidi.f a0).bind fun t343 => (if t343 = 9 then (impl_RuneLine.j0 k a0 true) else (impl_RuneLine.j0 k a0 (decide (t343 ≥ 14))))
theorem impl_RuneLine.mono_l : ∀ k, (∀ y0 y1, LeO (impl_RuneLine.j0 k y0 y1) (impl_RuneLine.j0 (k + 1) y0 y1))
 | 0 => fun _ _ r h => by simp [impl_RuneLine.j0] at h
 | k + 1 => by
  have ih0 := impl_RuneLine.mono_l k
  ·
   intro y0 y1; unfold impl_RuneLine.j0
   repeat' first
   | (with_reducible exact ih0 _ _)
   | (with_reducible exact LeO.refl _)
   | (with_reducible exact LeO.none _)
   | (with_reducible refine LeO.ite ?_ ?_)
   | (with_reducible refine LeO.bind ?_ (fun _ => ?_))
   | exact ih0 _ _
   | exact LeO.none _
   | refine LeO.ite ?_ ?_
   | refine LeO.bind ?_ (fun _ => ?_)
theorem impl_RuneLine.mono : ∀ a0 k, LeO (impl_RuneLine.f k a0) (impl_RuneLine.f (k + 1) a0) := by
 intro a0 k; have ih0 := impl_RuneLine.mono_l k; unfold impl_RuneLine.f
 repeat' first
   | (with_reducible exact ih0 _ _)
   | (with_reducible exact LeO.refl _)
   | (with_reducible exact LeO.none _)
   | (with_reducible refine LeO.ite ?_ ?_)
   | (with_reducible refine LeO.bind ?_ (fun _ => ?_))
   | exact ih0 _ _
   | exact LeO.none _
   | refine LeO.ite ?_ ?_
   | refine LeO.bind ?_ (fun _ => ?_)
theorem impl_RuneLine.calls (k : Nat) (a0 : Int) (r : Int) (w : World) (h : impl_RuneLine.f k a0 = some r) :
  Calls Try.prog 57 #[.int .i64 a0] w fun e w' => e = .returned (.int .i64 r) ∧ Below w.heap.size w w' := by
 have HB := az (Below.refl w.heap.size w); have H : ((impl_RuneBidi.f a0).bind fun t343 => (if t343 = 9 then (impl_RuneLine.j0 k a0 true) else (impl_RuneLine.j0 k a0 (decide (t343 ≥ 14))))) = some r := h; clear h; replace H := Option.bind_eq_some_iff.mp H; obtain ⟨t343, A20, H⟩ := H; replace H : (if t343 = 9 then (impl_RuneLine.j0 k a0 true) else (impl_RuneLine.j0 k a0 (decide (t343 ≥ 14)))) = some r := H; have A2 := az A20; clear A20; have HC3 := az H; clear H; go_enter Try.func57, Try.ntmps57; go_upto_region 2 with (first | ((with_reducible refine gate_callee (f := 85) rfl ?_); refine goesL_ (some 5) rfl rfl Try.func85 (by kernel_rfl) rfl #[.int .i64 a0] rfl (by (try simp only [List.map_toArray, List.map_cons, List.map_nil]); first | done | rfl) ?_; (with_reducible refine (impl_RuneBidi.calls a0 t343 _ A2.out).mono ?_); rintro e w4 ⟨rfl, hb⟩; refine ⟨_, rfl, ?_⟩; have n0_ := az (below_step (by repeat (first | (with_reducible first | exact HB.out | apply below_alloc | apply pw_below_drewN | apply below_drew1) | exact HB.out)) hb); clear HB; have HB := n0_; clear n0_; (try clear hb); (try clear hb2); (try clear hk); (try clear hi)))
 (try simp only [Act.put, List.setIfInBounds_toArray, List.set_cons_zero, List.set_cons_succ]); go_cut [11] (fun v11 wc => ∃ (kq : Nat) (x11_2 : Bool), v11 = .bool x11_2 ∧ Aside0 (impl_RuneLine.j0 kq a0 x11_2 = some r) ∧ Aside0 (kq ≤ k) ∧ Aside0 (Below w.heap.size w wc))
 case first =>
  have H := HC3.out; clear HC3; by_cases c5 : t343 = 9
  ·
   rw [if_pos c5] at H; have c5b0 : (t343 == 9) = true := beq_iff_eq.mpr c5; have c5b1 : (t343 != 9) = false := bne_eq_false_iff_eq.mpr c5; clear c5; (first | rw [c5b0] | (simp only [i64_w, i32_w]; rw [c5b0]) | skip); have H' := az H; clear H; go_wp2; go_meet
   case rel => exact ⟨_, (true), (by first | rfl | (simp; done) | (simp [*]; done)), H', ⟨by first | omega | exact Nat.le_refl _⟩, ⟨by repeat (first | (with_reducible first | exact HB.out | apply below_alloc | apply pw_below_drewN | apply below_drew1) | exact HB.out)⟩⟩
  ·
   rw [if_neg c5] at H; have c5b0 : (t343 == 9) = false := beq_eq_false_iff_ne.mpr c5; have c5b1 : (t343 != 9) = true := bne_iff_ne.mpr c5; (first | rw [c5b0] | (simp only [i64_w, i32_w]; rw [c5b0]) | skip); have H' := az H; clear H; go_wp2; go_meet
   case rel => exact ⟨_, (decide (t343 ≥ 14)), (by first | rfl | (simp; done) | (simp [*]; done)), H', ⟨by first | omega | exact Nat.le_refl _⟩, ⟨by repeat (first | (with_reducible first | exact HB.out | apply below_alloc | apply pw_below_drewN | apply below_drew1) | exact HB.out)⟩⟩
 case rest =>
  clear HC3; (try clear p2); (try clear c5); (try clear c5b0); (try clear c5b1); obtain ⟨kq, x11_2, rfl, HA, HJ2, HB⟩ := hcut
  cases kq with
  | zero => exact absurd HA.out (by simp [impl_RuneLine.j0])
  | succ kj2 =>
   have H := HA.out; clear HA; simp only [impl_RuneLine.j0] at H; by_cases c6 : x11_2 = true
   ·
    subst c6; have H1 : (some 7) = some r := by rw [if_pos rfl] at H; exact H
    clear H; have H := H1; clear H1; obtain rfl := Option.some.inj H; go_wp2; go_ret; exact ⟨by first | rfl | (simp [errW_none, errW_some] <;> rfl) | (simp [*, errW_none, errW_some] <;> rfl), by repeat (first | (with_reducible first | exact HB.out | apply below_alloc | apply pw_below_drewN | apply below_drew1) | exact HB.out)⟩
   ·
    replace c6 := Bool.eq_false_iff.mpr c6; subst c6; have H1 : ((impl_lineReaches.f).bind fun t344 => ((impl_find.f t344 a0 1).bind fun t347 => (some t347))) = some r := by rw [if_neg (show ¬ (false = true) by decide)] at H; exact H
    clear H; have H := H1; clear H1; replace H := Option.bind_eq_some_iff.mp H; obtain ⟨t344, A70, H⟩ := H; replace H : ((impl_find.f t344 a0 1).bind fun t347 => (some t347)) = some r := H; have A7 := az A70; clear A70; replace H := Option.bind_eq_some_iff.mp H; obtain ⟨t347, A80, H⟩ := H; replace H : (some t347) = some r := H; have A8 := az A80; clear A80; obtain rfl := Option.some.inj H; go_wp2_with (first | ((with_reducible refine gate_callee (f := 87) rfl ?_); refine goesL_ (some 12) rfl rfl Try.func87 (by kernel_rfl) rfl #[] rfl (by (try simp only [List.map_toArray, List.map_cons, List.map_nil]); first | done | rfl) ?_; (with_reducible refine (impl_lineReaches.calls  t344 _ A7.out).mono ?_); rintro e w9 ⟨v345, rfl, ho0, hb⟩; refine ⟨_, rfl, ?_⟩; have n0_ := az (Kd.R_lower ho0 (below_size (by repeat (first | (with_reducible first | exact HB.out | apply below_alloc | apply pw_below_drewN | apply below_drew1) | exact HB.out)))); have n1_ := az (below_step (by repeat (first | (with_reducible first | exact HB.out | apply below_alloc | apply pw_below_drewN | apply below_drew1) | exact HB.out)) hb); clear HB; have HO346 := n0_; have HB := n1_; clear n0_ n1_; (try clear hb); (try clear hb2); (try clear hk); (try clear hi); (try clear ho0); obtain ⟨Ao10, co10, eo10⟩ := Kd.R_slice HO346.out; subst eo10) | ((with_reducible refine gate_callee (f := 86) rfl ?_); refine goesL_ (some 14) rfl rfl Try.func86 (by kernel_rfl) rfl #[.slice Ao10 t344.length co10, .int .i64 a0, .int .i64 1] rfl (by (try simp only [List.map_toArray, List.map_cons, List.map_nil]); first | done | rfl) ?_; (with_reducible refine (impl_find.calls _ _ t344 a0 1 t347 _ ?side1 ?side2 A8.out).mono ?_); (case side1 => repeat (first | exact (Kd.R_reads' HO346.out).2.2 | (with_reducible refine Kd.C_alloc ?_ _) | (with_reducible refine Kd.C_drewN ?_ _) | (with_reducible refine Kd.C_drew ?_))); (case side2 => exact (Kd.R_reads' HO346.out).2.1); rintro e w11 ⟨rfl, hb⟩; refine ⟨_, rfl, ?_⟩; have n0_ := az (Kd.R_below (by (with_reducible repeat (first | apply Kd.R_alloc | apply Kd.R_drewN | apply Kd.R_drew)); exact HO346.out) hb); have n1_ := az (below_step (by repeat (first | (with_reducible first | exact HB.out | apply below_alloc | apply pw_below_drewN | apply below_drew1) | exact HB.out)) hb); clear HO346; clear HB; have HO346 := n0_; have HB := n1_; clear n0_ n1_; (try clear hb); (try clear hb2); (try clear hk); (try clear hi))); go_ret; exact ⟨by first | rfl | (simp [errW_none, errW_some] <;> rfl) | (simp [*, errW_none, errW_some] <;> rfl), by repeat (first | (with_reducible first | exact HB.out | apply below_alloc | apply pw_below_drewN | apply below_drew1) | exact HB.out)⟩
def impl_oneOf.l0 : Nat → Int → List Int → Int → Int → Option (Bool)
 | 0, _, _, _, _ => none
 | k + 1, x0, x7, x8, x9 => if x9 < x8 then (if 0 ≤ x9 then (if x9 < (x7.length : Int) then (if x0 = (rd x7 x9) then (some true) else (impl_oneOf.l0 k x0 x7 x8 (wrap64 (x9 + 1)))) else (none)) else (none)) else (some false)
def impl_oneOf.f (k : Nat) (a0 : Int) (l1 : List Int) : Option (Bool) := impl_oneOf.l0 k a0 l1 (l1.length : Int) 0
theorem impl_oneOf.mono_l : ∀ k, (∀ y0 y1 y2 y3, LeO (impl_oneOf.l0 k y0 y1 y2 y3) (impl_oneOf.l0 (k + 1) y0 y1 y2 y3))
 | 0 => fun _ _ _ _ r h => by simp [impl_oneOf.l0] at h
 | k + 1 => by
  have ih0 := impl_oneOf.mono_l k
  ·
   intro y0 y1 y2 y3; unfold impl_oneOf.l0
   repeat' first
   | (with_reducible exact ih0 _ _ _ _)
   | (with_reducible exact LeO.refl _)
   | (with_reducible exact LeO.none _)
   | (with_reducible refine LeO.ite ?_ ?_)
   | (with_reducible refine LeO.bind ?_ (fun _ => ?_))
   | exact ih0 _ _ _ _
   | exact LeO.none _
   | refine LeO.ite ?_ ?_
   | refine LeO.bind ?_ (fun _ => ?_)
theorem impl_oneOf.mono : ∀ a0 a1 k, LeO (impl_oneOf.f k a0 a1) (impl_oneOf.f (k + 1) a0 a1) := by
 intro a0 a1 k; have ih0 := impl_oneOf.mono_l k; unfold impl_oneOf.f
 repeat' first
   | (with_reducible exact ih0 _ _ _ _)
   | (with_reducible exact LeO.refl _)
   | (with_reducible exact LeO.none _)
   | (with_reducible refine LeO.ite ?_ ?_)
   | (with_reducible refine LeO.bind ?_ (fun _ => ?_))
   | exact ih0 _ _ _ _
   | exact LeO.none _
   | refine LeO.ite ?_ ?_
   | refine LeO.bind ?_ (fun _ => ?_)
theorem impl_oneOf.calls (k : Nat) (a0 : Int) (A1 : Option Addr) (c1 : Nat) (l1 : List Int) (r : Bool) (w : World) (hr1 : Kd.C (Kd.int .i64) w A1 l1.length l1) (hc1 : l1.length ≤ c1) (h : impl_oneOf.f k a0 l1 = some r) :
  Calls Try.prog 74 #[.int .i64 a0, .slice A1 l1.length c1] w fun e w' => e = .returned (.bool r) ∧ Drawn0 w w' := by
 have HR1 := az hr1; have HC1 := az hc1; clear hr1 hc1; have H : (impl_oneOf.l0 k a0 l1 (l1.length : Int) 0) = some r := h; clear h; have H' := az H; clear H; go_enter Try.func74, Try.ntmps74; go_wp2; go_loopg [9] k (fun kq v9 w' => ∃ (x9_1 : Int), v9 = .int .i64 x9_1 ∧ Aside0 (impl_oneOf.l0 kq a0 l1 (l1.length : Int) x9_1 = some r) ∧ Aside0 (kq ≤ k) ∧ Drawn0 w w')
 case atStart => exact ⟨(0), (by first | rfl | (simp; done) | (simp [*]; done)), H', ⟨Nat.le_refl _⟩, by repeat (first | exact Drawn0.refl _ | apply Drawn0.step)⟩
 case round =>
  clear H'; (try clear c1); (try clear p2); obtain ⟨x9_1, rfl, HA, HK1, ⟨m1, rfl⟩⟩ := hrel
  cases gk with
  | zero => exact absurd HA.out (by simp [impl_oneOf.l0])
  | succ k1 =>
   have H := HA.out; clear HA; simp only [impl_oneOf.l0] at H; by_cases c3 : x9_1 < (l1.length : Int)
   ·
    rw [if_pos c3] at H; have c3b0 : decide (x9_1 < (l1.length : Int)) = true := decide_eq_true c3; clear c3; by_cases c4 : 0 ≤ x9_1
    ·
     rw [if_pos c4] at H; have c4b0 : decide (0 ≤ x9_1) = true := decide_eq_true c4; clear c4; by_cases c5 : x9_1 < (l1.length : Int)
     ·
      rw [if_pos c5] at H; have c5b0 : decide (x9_1 < (l1.length : Int)) = true := decide_eq_true c5; clear c5; by_cases c6 : a0 = (rd l1 x9_1)
      ·
       rw [if_pos c6] at H; have c6b0 : (a0 == (rd l1 x9_1)) = true := beq_iff_eq.mpr c6; have c6b1 : (a0 != (rd l1 x9_1)) = false := bne_eq_false_iff_eq.mpr c6; clear c6; obtain rfl := Option.some.inj H; have p348 : 0 ≤ (x9_1 : Int) := of_decide_eq_true (by assumption); have q348 : x9_1 < (l1.length : Int) := of_decide_eq_true (by assumption); obtain ⟨ad348, e348, hx348_0⟩ := Kd.at_int HR1.out x9_1 p348 q348
       cases e348
       replace p348 := eq_true p348; replace q348 := eq_true q348; go_wp2; go_ret; exact ⟨by first | rfl | (simp; done) | (simp [*]; done), by repeat (first | exact Drawn0.refl _ | apply Drawn0.step)⟩
      ·
       rw [if_neg c6] at H; have c6b0 : (a0 == (rd l1 x9_1)) = false := beq_eq_false_iff_ne.mpr c6; have c6b1 : (a0 != (rd l1 x9_1)) = true := bne_iff_ne.mpr c6; have H' := az H; clear H; have p348 : 0 ≤ (x9_1 : Int) := of_decide_eq_true (by assumption); have q348 : x9_1 < (l1.length : Int) := of_decide_eq_true (by assumption); obtain ⟨ad348, e348, hx348_0⟩ := Kd.at_int HR1.out x9_1 p348 q348
       cases e348
       replace p348 := eq_true p348; replace q348 := eq_true q348; go_wp2; go_roundg k1
       case measure => have := HK1.out; omega
       case rel => exact ⟨(wrap64 (x9_1 + 1)), (by first | rfl | (simp; done) | (simp [*]; done)), H', ⟨by have := HK1.out; omega⟩, by repeat (first | exact Drawn0.refl _ | apply Drawn0.step)⟩
     ·
      rw [if_neg c5] at H; exact absurd H (by simp)
    ·
     rw [if_neg c4] at H; exact absurd H (by simp)
   ·
    rw [if_neg c3] at H; have c3b0 : decide (x9_1 < (l1.length : Int)) = false := decide_eq_false c3; clear c3; obtain rfl := Option.some.inj H; go_wp2; go_ret; exact ⟨by first | rfl | (simp; done) | (simp [*]; done), by repeat (first | exact Drawn0.refl _ | apply Drawn0.step)⟩
def impl_afterSpace.f (k : Nat) (a0 : Int) : Option (Bool) := (impl_oneOf.f k a0 (([3, 4, 6] : List Int))).bind fun t352 => (some t352)
theorem impl_afterSpace.mono : ∀ a0 k, LeO (impl_afterSpace.f k a0) (impl_afterSpace.f (k + 1) a0) := by
 intro a0 k; unfold impl_afterSpace.f
 repeat' first
   | (with_reducible exact impl_oneOf.mono _ _ _)
   | (with_reducible exact LeO.refl _)
   | (with_reducible exact LeO.none _)
   | (with_reducible refine LeO.ite ?_ ?_)
   | (with_reducible refine LeO.bind ?_ (fun _ => ?_))
   | exact impl_oneOf.mono _ _ _
   | exact LeO.none _
   | refine LeO.ite ?_ ?_
   | refine LeO.bind ?_ (fun _ => ?_)
theorem impl_afterSpace.calls (k : Nat) (a0 : Int) (r : Bool) (w : World) (h : impl_afterSpace.f k a0 = some r) :
  Calls Try.prog 58 #[.int .i64 a0] w fun e w' => e = .returned (.bool r) ∧ Below w.heap.size w w' := by
 have HB := az (Below.refl w.heap.size w); have H : ((impl_oneOf.f k a0 (([3, 4, 6] : List Int))).bind fun t352 => (some t352)) = some r := h; clear h; obtain ⟨y349, hy349⟩ : ∃ y_ : List Int, y_ = (([3, 4, 6] : List Int)) := ⟨_, rfl⟩; replace H : ((impl_oneOf.f k a0 y349).bind fun t352 => (some t352)) = some r := by first | (rw [hy349]; with_reducible exact H) | (have H2_ := (Option.bind_some _ _).symm.trans H; rw [hy349]; with_reducible exact H2_) | (have H2_ := (Option.bind_some _ _).symm.trans H; with_reducible exact H2_) | with_reducible exact H | (rw [hy349]; exact H) | exact H
 have Ny349 := az hy349; clear hy349; replace H := Option.bind_eq_some_iff.mp H; obtain ⟨t352, A20, H⟩ := H; replace H : (some t352) = some r := H; have A2 := az A20; clear A20; obtain rfl := Option.some.inj H; go_enter Try.func58, Try.ntmps58; go_wp2_with (first | ((with_reducible refine gate_dst (N := 4) rfl ?_); refine Kd.R_lit (Kd.int .i64) _ 3 ?hg (N := 4) ?hd (xs := ([3, 4, 6] : List Int)) (inner := [.int .i64 3, .int .i64 4, .int .i64 6]) (ok := fun _ => True) (okp := fun _ => True) ?hr ?hp (fun _ hk => hk) trivial (Below.refl _ _) (Nat.le_refl _) (by simp) ?_; (case hd => rfl); (case hg => rfl); (case hr => first | (go_simp; done) | (go_simp; rfl)); (case hp => exact (Reps.one (show Kd.M (Kd.int .i64) _ _ _ 3 [.int .i64 3] from rfl) (Reps.one (show Kd.M (Kd.int .i64) _ _ _ 4 [.int .i64 4] from rfl) (Reps.one (show Kd.M (Kd.int .i64) _ _ _ 6 [.int .i64 6] from rfl) (Reps.none _ _))))); intro v350 w3 ho4 hb hg_ hnew_; clear hg_ hnew_; (first | rw [← Ny349.out] at ho4 | (simp only [Int.reduceToNat] at ho4; rw [← Ny349.out] at ho4)); have n0_ := az (Kd.R_lower ho4 (below_size (by repeat (first | (with_reducible first | exact HB.out | apply below_alloc | apply pw_below_drewN | apply below_drew1) | exact HB.out)))); have n1_ := az (below_step (by repeat (first | (with_reducible first | exact HB.out | apply below_alloc | apply pw_below_drewN | apply below_drew1) | exact HB.out)) hb); clear HB; have HO351 := n0_; have HB := n1_; clear n0_ n1_; clear hb ho4; obtain ⟨Ao5, co5, eo5⟩ := Kd.R_slice HO351.out; subst eo5) | ((with_reducible refine gate_callee (f := 74) rfl ?_); refine goesL_ (some 5) rfl rfl Try.func74 (by kernel_rfl) rfl #[.int .i64 a0, .slice Ao5 y349.length co5] rfl (by (try simp only [List.map_toArray, List.map_cons, List.map_nil]); first | done | rfl) ?_; (with_reducible refine (impl_oneOf.calls k a0 _ _ y349 t352 _ ?side1 ?side2 A2.out).mono ?_); (case side1 => repeat (first | exact (Kd.R_reads' HO351.out).2.2 | (with_reducible refine Kd.C_alloc ?_ _) | (with_reducible refine Kd.C_drewN ?_ _) | (with_reducible refine Kd.C_drew ?_))); (case side2 => exact (Kd.R_reads' HO351.out).2.1); rintro e w' ⟨rfl, ⟨nd, rfl⟩⟩; refine ⟨_, rfl, ?_⟩)); go_ret; exact ⟨by first | rfl | (simp [errW_none, errW_some] <;> rfl) | (simp [*, errW_none, errW_some] <;> rfl), by repeat (first | (with_reducible first | exact HB.out | apply below_alloc | apply pw_below_drewN | apply below_drew1) | exact HB.out)⟩
def impl_countsOf.l0 : Nat → List Int → List Int → Int → Int → Option (List Int)
 | 0, _, _, _, _ => none
 | k + 1, x3, x7, x8, x9 => if x9 < x8 then (if 0 ≤ x9 then (if x9 < (x7.length : Int) then ((impl_RuneLine.f k (rd x7 x9)).bind fun t354 => (if t354 = 7 then (if x9 > 0 then (if 0 ≤ (wrap64 (x9 - 1)) then (if (wrap64 (x9 - 1)) < (x3.length : Int) then ((impl_afterSpace.f k (rd x3 (wrap64 (x9 - 1)))).bind fun t356 => (if t356 = true then (if x3.length < 17592186044416 then (impl_countsOf.l0 k (x3 ++ [1]) x7 x8 (wrap64 (x9 + 1))) else (none)) else (if x3.length < 17592186044416 then (impl_countsOf.l0 k (x3 ++ [rd x3 (wrap64 (x9 - 1))]) x7 x8 (wrap64 (x9 + 1))) else (none)))) else (none)) else (none)) else (if x3.length < 17592186044416 then (impl_countsOf.l0 k (x3 ++ [1]) x7 x8 (wrap64 (x9 + 1))) else (none))) else (if x3.length < 17592186044416 then (impl_countsOf.l0 k (x3 ++ [t354]) x7 x8 (wrap64 (x9 + 1))) else (none)))) else (none)) else (none)) else (some x3)
def impl_countsOf.f (k : Nat) (l0 : List Int) : Option (List Int) := impl_countsOf.l0 k ([] : List Int) l0 (l0.length : Int) 0
theorem impl_countsOf.mono_l : ∀ k, (∀ y0 y1 y2 y3, LeO (impl_countsOf.l0 k y0 y1 y2 y3) (impl_countsOf.l0 (k + 1) y0 y1 y2 y3))
 | 0 => fun _ _ _ _ r h => by simp [impl_countsOf.l0] at h
 | k + 1 => by
  have ih0 := impl_countsOf.mono_l k
  ·
   intro y0 y1 y2 y3; unfold impl_countsOf.l0
   repeat' first
   | (with_reducible exact ih0 _ _ _ _)
   | (with_reducible exact impl_RuneLine.mono _ _)
   | (with_reducible exact impl_afterSpace.mono _ _)
   | (with_reducible exact LeO.refl _)
   | (with_reducible exact LeO.none _)
   | (with_reducible refine LeO.ite ?_ ?_)
   | (with_reducible refine LeO.bind ?_ (fun _ => ?_))
   | exact ih0 _ _ _ _
   | exact impl_RuneLine.mono _ _
   | exact impl_afterSpace.mono _ _
   | exact LeO.none _
   | refine LeO.ite ?_ ?_
   | refine LeO.bind ?_ (fun _ => ?_)
theorem impl_countsOf.mono : ∀ a0 k, LeO (impl_countsOf.f k a0) (impl_countsOf.f (k + 1) a0) := by
 intro a0 k; have ih0 := impl_countsOf.mono_l k; unfold impl_countsOf.f
 repeat' first
   | (with_reducible exact ih0 _ _ _ _)
   | (with_reducible exact impl_RuneLine.mono _ _)
   | (with_reducible exact impl_afterSpace.mono _ _)
   | (with_reducible exact LeO.refl _)
   | (with_reducible exact LeO.none _)
   | (with_reducible refine LeO.ite ?_ ?_)
   | (with_reducible refine LeO.bind ?_ (fun _ => ?_))
   | exact ih0 _ _ _ _
   | exact impl_RuneLine.mono _ _
   | exact impl_afterSpace.mono _ _
   | exact LeO.none _
   | refine LeO.ite ?_ ?_
   | refine LeO.bind ?_ (fun _ => ?_)
theorem impl_countsOf.calls (k : Nat) (A0 : Option Addr) (c0 : Nat) (l0 : List Int) (r : List Int) (w : World) (hr0 : Kd.C (Kd.int .i64) w A0 l0.length l0) (hc0 : l0.length ≤ c0) (h : impl_countsOf.f k l0 = some r) :
  Calls Try.prog 54 #[.slice A0 l0.length c0] w fun e w' => ∃ v0_ : Value, e = .returned (v0_) ∧ Kd.R (Kd.int .i64) 3 w' w.heap.size (fun _ => True) v0_ r ∧ Below w.heap.size w w' := by
 have HR0 := az hr0; have HC0 := az hc0; clear hr0 hc0; have HB := az (Below.refl w.heap.size w); have H : (impl_countsOf.l0 k ([] : List Int) l0 (l0.length : Int) 0) = some r := h; clear h; have H' := az H; clear H; go_enter Try.func54, Try.ntmps54; go_wp2; go_loopg [3, 9] k (fun kq v3 v9 w' => ∃ (x3_1 : List Int) (x9_1 : Int), v9 = .int .i64 x9_1 ∧ Aside0 (impl_countsOf.l0 kq x3_1 l0 (l0.length : Int) x9_1 = some r) ∧ Aside0 (kq ≤ k) ∧ Aside0 (Kd.R (Kd.int .i64) 3 w' w.heap.size (fun _ => True) v3 x3_1) ∧ Aside0 (Below w.heap.size w w'))
 case atStart => exact ⟨(([] : List Int)), (0), (by first | rfl | (simp; done) | (simp [*]; done)), H', ⟨Nat.le_refl _⟩, ⟨by first | exact Kd.R_nil _ _ _ _ _ | exact Kd.N_nil _ _ _ _ _ | exact Kd.V_nil _ _ _ _ _ | exact Kd.Q_nil _ _ _ _ _ | exact Kd.S_nil _ _ _ _ _⟩, ⟨by repeat (first | (with_reducible first | exact HB.out | apply below_alloc | apply pw_below_drewN | apply below_drew1) | exact HB.out)⟩⟩
 case round =>
  clear H'; obtain ⟨x3_1, x9_1, rfl, HA, HK1, HO_3, HB⟩ := hrel
  cases gk with
  | zero => exact absurd HA.out (by simp [impl_countsOf.l0])
  | succ k1 =>
   have H := HA.out; clear HA; simp only [impl_countsOf.l0] at H; by_cases c2 : x9_1 < (l0.length : Int)
   ·
    rw [if_pos c2] at H; have c2b0 : decide (x9_1 < (l0.length : Int)) = true := decide_eq_true c2; clear c2; by_cases c3 : 0 ≤ x9_1
    ·
     rw [if_pos c3] at H; have c3b0 : decide (0 ≤ x9_1) = true := decide_eq_true c3; clear c3; by_cases c4 : x9_1 < (l0.length : Int)
     ·
      rw [if_pos c4] at H; have c4b0 : decide (x9_1 < (l0.length : Int)) = true := decide_eq_true c4; clear c4; replace H := Option.bind_eq_some_iff.mp H; obtain ⟨t354, A50, H⟩ := H; replace H : (if t354 = 7 then (if x9_1 > 0 then (if 0 ≤ (wrap64 (x9_1 - 1)) then (if (wrap64 (x9_1 - 1)) < (x3_1.length : Int) then ((impl_afterSpace.f k1 (rd x3_1 (wrap64 (x9_1 - 1)))).bind fun t356 => (if t356 = true then (if x3_1.length < 17592186044416 then (impl_countsOf.l0 k1 (x3_1 ++ [1]) l0 (l0.length : Int) (wrap64 (x9_1 + 1))) else (none)) else (if x3_1.length < 17592186044416 then (impl_countsOf.l0 k1 (x3_1 ++ [rd x3_1 (wrap64 (x9_1 - 1))]) l0 (l0.length : Int) (wrap64 (x9_1 + 1))) else (none)))) else (none)) else (none)) else (if x3_1.length < 17592186044416 then (impl_countsOf.l0 k1 (x3_1 ++ [1]) l0 (l0.length : Int) (wrap64 (x9_1 + 1))) else (none))) else (if x3_1.length < 17592186044416 then (impl_countsOf.l0 k1 (x3_1 ++ [t354]) l0 (l0.length : Int) (wrap64 (x9_1 + 1))) else (none))) = some r := H; have A5 := az A50; clear A50; by_cases c6 : t354 = 7
      ·
       rw [if_pos c6] at H; have c6b0 : (t354 == 7) = true := beq_iff_eq.mpr c6; have c6b1 : (t354 != 7) = false := bne_eq_false_iff_eq.mpr c6; clear c6; by_cases c7 : x9_1 > 0
       ·
        rw [if_pos c7] at H; have c7b0 : decide (0 < x9_1) = true := decide_eq_true c7; clear c7; obtain ⟨ji8, hji8⟩ : ∃ j_ : Int, (wrap64 (x9_1 - 1)) = j_ := ⟨_, rfl⟩; replace H : (if 0 ≤ (ji8) then (if (ji8) < (x3_1.length : Int) then ((impl_afterSpace.f k1 (rd x3_1 (ji8))).bind fun t356 => (if t356 = true then (if x3_1.length < 17592186044416 then (impl_countsOf.l0 k1 (x3_1 ++ [1]) l0 (l0.length : Int) (wrap64 (x9_1 + 1))) else (none)) else (if x3_1.length < 17592186044416 then (impl_countsOf.l0 k1 (x3_1 ++ [rd x3_1 (ji8)]) l0 (l0.length : Int) (wrap64 (x9_1 + 1))) else (none)))) else (none)) else (none)) = some r := by first | (rw [hji8] at H; exact H) | (simp only [hji8] at H ⊢; exact H)
        (try rw [hji8] at A5); have hji8w : (IntKind.i64.wrap (x9_1 - 1)) = ji8 := (i64_w _).trans hji8; by_cases c9 : 0 ≤ (ji8)
        ·
         rw [if_pos c9] at H; have c9b0 : decide (0 ≤ (ji8)) = true := decide_eq_true c9; clear c9; by_cases c10 : (ji8) < (x3_1.length : Int)
         ·
          rw [if_pos c10] at H; have c10b0 : decide ((ji8) < (x3_1.length : Int)) = true := decide_eq_true c10; clear c10; replace H := Option.bind_eq_some_iff.mp H; obtain ⟨t356, A110, H⟩ := H; replace H : (if t356 = true then (if x3_1.length < 17592186044416 then (impl_countsOf.l0 k1 (x3_1 ++ [1]) l0 (l0.length : Int) (wrap64 (x9_1 + 1))) else (none)) else (if x3_1.length < 17592186044416 then (impl_countsOf.l0 k1 (x3_1 ++ [rd x3_1 (ji8)]) l0 (l0.length : Int) (wrap64 (x9_1 + 1))) else (none))) = some r := H; have A11 := az A110; clear A110; by_cases c12 : t356 = true
          ·
           subst c12; have H1 : (if x3_1.length < 17592186044416 then (impl_countsOf.l0 k1 (x3_1 ++ [1]) l0 (l0.length : Int) (wrap64 (x9_1 + 1))) else (none)) = some r := by rw [if_pos rfl] at H; exact H
           clear H; have H := H1; clear H1; by_cases c13 : x3_1.length < 17592186044416
           ·
            rw [if_pos c13] at H; have LMc13 := az c13; clear c13; obtain ⟨y357, hy357⟩ : ∃ y_ : List Int, y_ = (x3_1 ++ [1]) := ⟨_, rfl⟩; replace H : (impl_countsOf.l0 k1 y357 l0 (l0.length : Int) (wrap64 (x9_1 + 1))) = some r := by first | (rw [hy357]; with_reducible exact H) | (have H2_ := (Option.bind_some _ _).symm.trans H; rw [hy357]; with_reducible exact H2_) | (have H2_ := (Option.bind_some _ _).symm.trans H; with_reducible exact H2_) | with_reducible exact H | (rw [hy357]; exact H) | exact H
            have Ny357 := az hy357; clear hy357; have H' := az H; clear H; have p353 : 0 ≤ (x9_1 : Int) := of_decide_eq_true (by assumption); have q353 : x9_1 < (l0.length : Int) := of_decide_eq_true (by assumption); obtain ⟨ad353, e353, hx353_0⟩ := Kd.at_int HR0.out x9_1 p353 q353
            cases e353
            replace hx353_0 := (HB.out.cell (World.block_lt_of_cell? w _ hx353_0)).trans hx353_0; replace p353 := eq_true p353; replace q353 := eq_true q353; go_wp2_with (first | ((with_reducible refine gate_callee (f := 57) rfl ?_); refine goesL_ (some 15) rfl rfl Try.func57 (by kernel_rfl) rfl #[.int .i64 (rd l0 x9_1)] rfl (by (try simp only [List.map_toArray, List.map_cons, List.map_nil]); first | done | rfl) ?_; (with_reducible refine (impl_RuneLine.calls k1 (rd l0 x9_1) t354 _ A5.out).mono ?_); rintro e w14 ⟨rfl, hb⟩; refine ⟨_, rfl, ?_⟩; have n0_ := az (Kd.R_below (by (with_reducible repeat (first | apply Kd.R_alloc | apply Kd.R_drewN | apply Kd.R_drew)); exact HO_3.out) hb); have n1_ := az (below_step (by repeat (first | (with_reducible first | exact HB.out | apply below_alloc | apply pw_below_drewN | apply below_drew1) | exact HB.out)) hb); clear HO_3; clear HB; have HO_3 := n0_; have HB := n1_; clear n0_ n1_; (try clear hb); (try clear hb2); (try clear hk); (try clear hi); obtain ⟨Ao15, co15, eo15⟩ := Kd.R_slice HO_3.out; subst eo15; have p355 : 0 ≤ ((ji8) : Int) := of_decide_eq_true (by assumption); have q355 : (ji8) < (x3_1.length : Int) := of_decide_eq_true (by assumption); obtain ⟨ad355, e355, hx355_0⟩ := Kd.at_int (Kd.R_reads' HO_3.out).2.2 (ji8) p355 q355; cases e355; replace p355 := eq_true p355; replace q355 := eq_true q355) | (go_at_call 58; (with_reducible refine (impl_afterSpace.calls k1 (rd x3_1 (ji8)) true _ A11.out).mono ?_); rintro e w16 ⟨rfl, hb⟩; have n0_ := az (Kd.R_below (by (with_reducible repeat (first | apply Kd.R_alloc | apply Kd.R_drewN | apply Kd.R_drew)); exact HO_3.out) hb); have n1_ := az (below_step (by repeat (first | (with_reducible first | exact HB.out | apply below_alloc | apply pw_below_drewN | apply below_drew1) | exact HB.out)) hb); clear HO_3; clear HB; have HO_3 := n0_; have HB := n1_; clear n0_ n1_; (try clear hb); (try clear hb2); (try clear hk); (try clear hi)) | ((with_reducible refine gate_builtin (b := .append) (xs := #[.tmp 34, .tmp 36]) rfl ?_); at_builtin; refine Kd.R_append (Kd.int .i64) (w0 := w) w.heap.size rfl (.tmp 34) (.tmp 36) 22 3 (.int .i64 0) 8 rfl Try.underlying22 info3 rfl (by decide) (by omega) (.slice (some ad355) x3_1.length co15) x3_1 1 [.int .i64 1] (fun _ => True) (fun _ => False) rfl rfl ?aP (fun _ hk => hk.elim) ?aF ?aO ?aB ?aS ?aL ?_; (case aP => exact rfl); (case aB => exact (by repeat (first | (with_reducible first | exact HB.out | apply below_alloc | apply pw_below_drewN | apply below_drew1) | exact HB.out))); (case aF => exact (fun _ _ => trivial)); (case aO => exact (by (with_reducible repeat (first | apply Kd.R_alloc | apply Kd.R_drewN | apply Kd.R_drew)); exact HO_3.out)); (case aS => exact (below_size (by repeat (first | (with_reducible first | exact HB.out | apply below_alloc | apply pw_below_drewN | apply below_drew1) | exact HB.out)))); (case aL => have := LMc13.out; omega); intro v358 w17 ho hb hg hat; rw [← Ny357.out] at ho; have n0_ := az (hb); have n1_ := az (ho); clear HB; clear HO_3; have HB := n0_; have HO359 := n1_; clear n0_ n1_; clear ho hb hg hat)); go_roundg k1
            case measure => have := HK1.out; omega
            case rel => exact ⟨(y357), (wrap64 (x9_1 + 1)), (by first | rfl | (simp; done) | (simp [*]; done)), H', ⟨by have := HK1.out; omega⟩, ⟨by (with_reducible repeat (first | apply Kd.R_alloc | apply Kd.R_drewN | apply Kd.R_drew)); exact HO359.out⟩, ⟨by repeat (first | (with_reducible first | exact HB.out | apply below_alloc | apply pw_below_drewN | apply below_drew1) | exact HB.out)⟩⟩
           ·
            rw [if_neg c13] at H; exact absurd H (by simp)
          ·
           replace c12 := Bool.eq_false_iff.mpr c12; subst c12; have H1 : (if x3_1.length < 17592186044416 then (impl_countsOf.l0 k1 (x3_1 ++ [rd x3_1 (ji8)]) l0 (l0.length : Int) (wrap64 (x9_1 + 1))) else (none)) = some r := by rw [if_neg (show ¬ (false = true) by decide)] at H; exact H
           clear H; have H := H1; clear H1; by_cases c18 : x3_1.length < 17592186044416
           ·
            rw [if_pos c18] at H; have LMc18 := az c18; clear c18; obtain ⟨y361, hy361⟩ : ∃ y_ : List Int, y_ = (x3_1 ++ [rd x3_1 (ji8)]) := ⟨_, rfl⟩; replace H : (impl_countsOf.l0 k1 y361 l0 (l0.length : Int) (wrap64 (x9_1 + 1))) = some r := by first | (rw [hy361]; with_reducible exact H) | (have H2_ := (Option.bind_some _ _).symm.trans H; rw [hy361]; with_reducible exact H2_) | (have H2_ := (Option.bind_some _ _).symm.trans H; with_reducible exact H2_) | with_reducible exact H | (rw [hy361]; exact H) | exact H
            have Ny361 := az hy361; clear hy361; have H' := az H; clear H; have p353 : 0 ≤ (x9_1 : Int) := of_decide_eq_true (by assumption); have q353 : x9_1 < (l0.length : Int) := of_decide_eq_true (by assumption); obtain ⟨ad353, e353, hx353_0⟩ := Kd.at_int HR0.out x9_1 p353 q353
            cases e353
            replace hx353_0 := (HB.out.cell (World.block_lt_of_cell? w _ hx353_0)).trans hx353_0; replace p353 := eq_true p353; replace q353 := eq_true q353; go_wp2_with (first | ((with_reducible refine gate_callee (f := 57) rfl ?_); refine goesL_ (some 15) rfl rfl Try.func57 (by kernel_rfl) rfl #[.int .i64 (rd l0 x9_1)] rfl (by (try simp only [List.map_toArray, List.map_cons, List.map_nil]); first | done | rfl) ?_; (with_reducible refine (impl_RuneLine.calls k1 (rd l0 x9_1) t354 _ A5.out).mono ?_); rintro e w19 ⟨rfl, hb⟩; refine ⟨_, rfl, ?_⟩; have n0_ := az (Kd.R_below (by (with_reducible repeat (first | apply Kd.R_alloc | apply Kd.R_drewN | apply Kd.R_drew)); exact HO_3.out) hb); have n1_ := az (below_step (by repeat (first | (with_reducible first | exact HB.out | apply below_alloc | apply pw_below_drewN | apply below_drew1) | exact HB.out)) hb); clear HO_3; clear HB; have HO_3 := n0_; have HB := n1_; clear n0_ n1_; (try clear hb); (try clear hb2); (try clear hk); (try clear hi); obtain ⟨Ao20, co20, eo20⟩ := Kd.R_slice HO_3.out; subst eo20; have p355 : 0 ≤ ((ji8) : Int) := of_decide_eq_true (by assumption); have q355 : (ji8) < (x3_1.length : Int) := of_decide_eq_true (by assumption); obtain ⟨ad355, e355, hx355_0⟩ := Kd.at_int (Kd.R_reads' HO_3.out).2.2 (ji8) p355 q355; cases e355; replace p355 := eq_true p355; replace q355 := eq_true q355) | (go_at_call 58; (with_reducible refine (impl_afterSpace.calls k1 (rd x3_1 (ji8)) false _ A11.out).mono ?_); rintro e w21 ⟨rfl, hb⟩; have n0_ := az (Kd.R_below (by (with_reducible repeat (first | apply Kd.R_alloc | apply Kd.R_drewN | apply Kd.R_drew)); exact HO_3.out) hb); have n1_ := az (below_step (by repeat (first | (with_reducible first | exact HB.out | apply below_alloc | apply pw_below_drewN | apply below_drew1) | exact HB.out)) hb); clear HO_3; clear HB; have HO_3 := n0_; have HB := n1_; clear n0_ n1_; (try clear hb); (try clear hb2); (try clear hk); (try clear hi); have p360 : 0 ≤ ((ji8) : Int) := of_decide_eq_true (by assumption); have q360 : (ji8) < (x3_1.length : Int) := of_decide_eq_true (by assumption); obtain ⟨ad360, e360, hx360_0⟩ := Kd.at_int (Kd.R_reads' HO_3.out).2.2 (ji8) p360 q360; obtain rfl : ad355 = ad360 := (by injection e360); replace p360 := eq_true p360; replace q360 := eq_true q360) | ((with_reducible refine gate_builtin (b := .append) (xs := #[.tmp 34, .tmp 36]) rfl ?_); at_builtin; refine Kd.R_append (Kd.int .i64) (w0 := w) w.heap.size rfl (.tmp 34) (.tmp 36) 22 3 (.int .i64 0) 8 rfl Try.underlying22 info3 rfl (by decide) (by omega) (.slice (some ad355) x3_1.length co20) x3_1 (rd x3_1 (ji8)) [.int .i64 (rd x3_1 (ji8))] (fun _ => True) (fun _ => False) rfl rfl ?aP (fun _ hk => hk.elim) ?aF ?aO ?aB ?aS ?aL ?_; (case aP => exact rfl); (case aB => exact (by repeat (first | (with_reducible first | exact HB.out | apply below_alloc | apply pw_below_drewN | apply below_drew1) | exact HB.out))); (case aF => exact (fun _ _ => trivial)); (case aO => exact (by (with_reducible repeat (first | apply Kd.R_alloc | apply Kd.R_drewN | apply Kd.R_drew)); exact HO_3.out)); (case aS => exact (below_size (by repeat (first | (with_reducible first | exact HB.out | apply below_alloc | apply pw_below_drewN | apply below_drew1) | exact HB.out)))); (case aL => have := LMc18.out; omega); intro v362 w22 ho hb hg hat; rw [← Ny361.out] at ho; have n0_ := az (hb); have n1_ := az (ho); clear HB; clear HO_3; have HB := n0_; have HO363 := n1_; clear n0_ n1_; clear ho hb hg hat)); go_roundg k1
            case measure => have := HK1.out; omega
            case rel => exact ⟨(y361), (wrap64 (x9_1 + 1)), (by first | rfl | (simp; done) | (simp [*]; done)), H', ⟨by have := HK1.out; omega⟩, ⟨by (with_reducible repeat (first | apply Kd.R_alloc | apply Kd.R_drewN | apply Kd.R_drew)); exact HO363.out⟩, ⟨by repeat (first | (with_reducible first | exact HB.out | apply below_alloc | apply pw_below_drewN | apply below_drew1) | exact HB.out)⟩⟩
           ·
            rw [if_neg c18] at H; exact absurd H (by simp)
         ·
          rw [if_neg c10] at H; exact absurd H (by simp)
        ·
         rw [if_neg c9] at H; exact absurd H (by simp)
       ·
        rw [if_neg c7] at H; have c7b0 : decide (0 < x9_1) = false := decide_eq_false c7; clear c7; by_cases c23 : x3_1.length < 17592186044416
        ·
         rw [if_pos c23] at H; have LMc23 := az c23; clear c23; obtain ⟨y364, hy364⟩ : ∃ y_ : List Int, y_ = (x3_1 ++ [1]) := ⟨_, rfl⟩; replace H : (impl_countsOf.l0 k1 y364 l0 (l0.length : Int) (wrap64 (x9_1 + 1))) = some r := by first | (rw [hy364]; with_reducible exact H) | (have H2_ := (Option.bind_some _ _).symm.trans H; rw [hy364]; with_reducible exact H2_) | (have H2_ := (Option.bind_some _ _).symm.trans H; with_reducible exact H2_) | with_reducible exact H | (rw [hy364]; exact H) | exact H
         have Ny364 := az hy364; clear hy364; have H' := az H; clear H; have p353 : 0 ≤ (x9_1 : Int) := of_decide_eq_true (by assumption); have q353 : x9_1 < (l0.length : Int) := of_decide_eq_true (by assumption); obtain ⟨ad353, e353, hx353_0⟩ := Kd.at_int HR0.out x9_1 p353 q353
         cases e353
         replace hx353_0 := (HB.out.cell (World.block_lt_of_cell? w _ hx353_0)).trans hx353_0; replace p353 := eq_true p353; replace q353 := eq_true q353; go_wp2_with (first | ((with_reducible refine gate_callee (f := 57) rfl ?_); refine goesL_ (some 15) rfl rfl Try.func57 (by kernel_rfl) rfl #[.int .i64 (rd l0 x9_1)] rfl (by (try simp only [List.map_toArray, List.map_cons, List.map_nil]); first | done | rfl) ?_; (with_reducible refine (impl_RuneLine.calls k1 (rd l0 x9_1) t354 _ A5.out).mono ?_); rintro e w24 ⟨rfl, hb⟩; refine ⟨_, rfl, ?_⟩; have n0_ := az (Kd.R_below (by (with_reducible repeat (first | apply Kd.R_alloc | apply Kd.R_drewN | apply Kd.R_drew)); exact HO_3.out) hb); have n1_ := az (below_step (by repeat (first | (with_reducible first | exact HB.out | apply below_alloc | apply pw_below_drewN | apply below_drew1) | exact HB.out)) hb); clear HO_3; clear HB; have HO_3 := n0_; have HB := n1_; clear n0_ n1_; (try clear hb); (try clear hb2); (try clear hk); (try clear hi)) | ((with_reducible refine gate_builtin (b := .append) (xs := #[.tmp 34, .tmp 36]) rfl ?_); at_builtin; refine Kd.R_append (Kd.int .i64) (w0 := w) w.heap.size rfl (.tmp 34) (.tmp 36) 22 3 (.int .i64 0) 8 rfl Try.underlying22 info3 rfl (by decide) (by omega) u3 x3_1 1 [.int .i64 1] (fun _ => True) (fun _ => False) rfl rfl ?aP (fun _ hk => hk.elim) ?aF ?aO ?aB ?aS ?aL ?_; (case aP => exact rfl); (case aB => exact (by repeat (first | (with_reducible first | exact HB.out | apply below_alloc | apply pw_below_drewN | apply below_drew1) | exact HB.out))); (case aF => exact (fun _ _ => trivial)); (case aO => exact (by (with_reducible repeat (first | apply Kd.R_alloc | apply Kd.R_drewN | apply Kd.R_drew)); exact HO_3.out)); (case aS => exact (below_size (by repeat (first | (with_reducible first | exact HB.out | apply below_alloc | apply pw_below_drewN | apply below_drew1) | exact HB.out)))); (case aL => have := LMc23.out; omega); intro v365 w25 ho hb hg hat; rw [← Ny364.out] at ho; have n0_ := az (hb); have n1_ := az (ho); clear HB; clear HO_3; have HB := n0_; have HO366 := n1_; clear n0_ n1_; clear ho hb hg hat)); go_roundg k1
         case measure => have := HK1.out; omega
         case rel => exact ⟨(y364), (wrap64 (x9_1 + 1)), (by first | rfl | (simp; done) | (simp [*]; done)), H', ⟨by have := HK1.out; omega⟩, ⟨by (with_reducible repeat (first | apply Kd.R_alloc | apply Kd.R_drewN | apply Kd.R_drew)); exact HO366.out⟩, ⟨by repeat (first | (with_reducible first | exact HB.out | apply below_alloc | apply pw_below_drewN | apply below_drew1) | exact HB.out)⟩⟩
        ·
         rw [if_neg c23] at H; exact absurd H (by simp)
      ·
       rw [if_neg c6] at H; have c6b0 : (t354 == 7) = false := beq_eq_false_iff_ne.mpr c6; have c6b1 : (t354 != 7) = true := bne_iff_ne.mpr c6; by_cases c26 : x3_1.length < 17592186044416
       ·
        rw [if_pos c26] at H; have LMc26 := az c26; clear c26; obtain ⟨y367, hy367⟩ : ∃ y_ : List Int, y_ = (x3_1 ++ [t354]) := ⟨_, rfl⟩; replace H : (impl_countsOf.l0 k1 y367 l0 (l0.length : Int) (wrap64 (x9_1 + 1))) = some r := by first | (rw [hy367]; with_reducible exact H) | (have H2_ := (Option.bind_some _ _).symm.trans H; rw [hy367]; with_reducible exact H2_) | (have H2_ := (Option.bind_some _ _).symm.trans H; with_reducible exact H2_) | with_reducible exact H | (rw [hy367]; exact H) | exact H
        have Ny367 := az hy367; clear hy367; have H' := az H; clear H; have p353 : 0 ≤ (x9_1 : Int) := of_decide_eq_true (by assumption); have q353 : x9_1 < (l0.length : Int) := of_decide_eq_true (by assumption); obtain ⟨ad353, e353, hx353_0⟩ := Kd.at_int HR0.out x9_1 p353 q353
        cases e353
        replace hx353_0 := (HB.out.cell (World.block_lt_of_cell? w _ hx353_0)).trans hx353_0; replace p353 := eq_true p353; replace q353 := eq_true q353; go_wp2_with (first | ((with_reducible refine gate_callee (f := 57) rfl ?_); refine goesL_ (some 15) rfl rfl Try.func57 (by kernel_rfl) rfl #[.int .i64 (rd l0 x9_1)] rfl (by (try simp only [List.map_toArray, List.map_cons, List.map_nil]); first | done | rfl) ?_; (with_reducible refine (impl_RuneLine.calls k1 (rd l0 x9_1) t354 _ A5.out).mono ?_); rintro e w27 ⟨rfl, hb⟩; refine ⟨_, rfl, ?_⟩; have n0_ := az (Kd.R_below (by (with_reducible repeat (first | apply Kd.R_alloc | apply Kd.R_drewN | apply Kd.R_drew)); exact HO_3.out) hb); have n1_ := az (below_step (by repeat (first | (with_reducible first | exact HB.out | apply below_alloc | apply pw_below_drewN | apply below_drew1) | exact HB.out)) hb); clear HO_3; clear HB; have HO_3 := n0_; have HB := n1_; clear n0_ n1_; (try clear hb); (try clear hb2); (try clear hk); (try clear hi)) | ((with_reducible refine gate_builtin (b := .append) (xs := #[.tmp 34, .tmp 36]) rfl ?_); at_builtin; refine Kd.R_append (Kd.int .i64) (w0 := w) w.heap.size rfl (.tmp 34) (.tmp 36) 22 3 (.int .i64 0) 8 rfl Try.underlying22 info3 rfl (by decide) (by omega) u3 x3_1 t354 [.int .i64 t354] (fun _ => True) (fun _ => False) rfl rfl ?aP (fun _ hk => hk.elim) ?aF ?aO ?aB ?aS ?aL ?_; (case aP => exact rfl); (case aB => exact (by repeat (first | (with_reducible first | exact HB.out | apply below_alloc | apply pw_below_drewN | apply below_drew1) | exact HB.out))); (case aF => exact (fun _ _ => trivial)); (case aO => exact (by (with_reducible repeat (first | apply Kd.R_alloc | apply Kd.R_drewN | apply Kd.R_drew)); exact HO_3.out)); (case aS => exact (below_size (by repeat (first | (with_reducible first | exact HB.out | apply below_alloc | apply pw_below_drewN | apply below_drew1) | exact HB.out)))); (case aL => have := LMc26.out; omega); intro v368 w28 ho hb hg hat; rw [← Ny367.out] at ho; have n0_ := az (hb); have n1_ := az (ho); clear HB; clear HO_3; have HB := n0_; have HO369 := n1_; clear n0_ n1_; clear ho hb hg hat)); go_roundg k1
        case measure => have := HK1.out; omega
        case rel => exact ⟨(y367), (wrap64 (x9_1 + 1)), (by first | rfl | (simp; done) | (simp [*]; done)), H', ⟨by have := HK1.out; omega⟩, ⟨by (with_reducible repeat (first | apply Kd.R_alloc | apply Kd.R_drewN | apply Kd.R_drew)); exact HO369.out⟩, ⟨by repeat (first | (with_reducible first | exact HB.out | apply below_alloc | apply pw_below_drewN | apply below_drew1) | exact HB.out)⟩⟩
       ·
        rw [if_neg c26] at H; exact absurd H (by simp)
     ·
      rw [if_neg c4] at H; exact absurd H (by simp)
    ·
     rw [if_neg c3] at H; exact absurd H (by simp)
   ·
    rw [if_neg c2] at H; have c2b0 : decide (x9_1 < (l0.length : Int)) = false := decide_eq_false c2; clear c2; obtain rfl := Option.some.inj H; go_wp2; go_ret; exact ⟨_, by first | rfl | (simp [errW_none, errW_some] <;> rfl) | (simp [*, errW_none, errW_some] <;> rfl), by (with_reducible repeat (first | apply Kd.R_alloc | apply Kd.R_drewN | apply Kd.R_drew)); exact HO_3.out, by repeat (first | (with_reducible first | exact HB.out | apply below_alloc | apply pw_below_drewN | apply below_drew1) | exact HB.out)⟩
def inL (l : List Int) (x : Int) : Bool := l.contains x
def wordB (n : Int) : Bool := inL [1, 2] n
def ansV : Nat → Int
 | 0 => 2
 | 1 => 0
 | 2 => 1
 | 3 => 0
 | 4 => 0
 | 5 => 0
 | 6 => 1
 | 7 => 0
 | 8 => 0
 | _ => 1
def isV (a b s : Int) : Nat → Bool
 | 0 => a == 4
 | 1 => inL [4, 3, 6] b
 | 2 => s == 6
 | 3 => a == 5 || (b == 5 && !(inL [3, 14, 12] a))
 | 4 => (inL [9, 10, 13] b && !(a == 3)) || (inL [9, 10] b && !(s == 0))
 | 5 => s == 8
 | 6 => a == 3
 | 7 => a == 11 || inL [11, 14, 12] b
 | 8 => (wordB a && wordB b) || (b == 2 && inL [12, 13] a) || (a == 13 && b == 1) || ((wordB a && b == 8) || (a == 9 && wordB b))
 | _ => true
theorem one_l (x : Int) (l : List Int) (hn : l.length ≤ 1000) : ∀ (d k i : Nat), l.length - i = d → i ≤ l.length → d < k → impl_oneOf.l0 k x l (l.length : Int) (i : Int) = some ((l.drop i).contains x)
 | 0, k, i, hd, hi, hk => by
  obtain ⟨k, rfl⟩ : ∃ m, k = m + 1 := ⟨k - 1, by omega⟩
  rw [impl_oneOf.l0, if_neg (by omega), List.drop_eq_nil_of_le (by omega)]
  rfl
 | d + 1, k, i, hd, hi, hk => by
  obtain ⟨k, rfl⟩ : ∃ m, k = m + 1 := ⟨k - 1, by omega⟩
  have ih := one_l x l hn d k (i + 1) (by omega) (by omega) (by omega)
  have hlt : i < l.length := by omega
  rw [impl_oneOf.l0, if_pos (by omega), if_pos (by omega), if_pos (by omega), List.drop_eq_getElem_cons hlt]
  have e : rd l (i : Int) = l[i] := by simp [rd, List.getD_eq_getElem?_getD, hlt]
  have w : wrap64 ((i : Int) + 1) = ((i + 1 : Nat) : Int) := by unfold wrap64; omega
  rw [e, w, ih, List.contains_cons]
  by_cases h : x = l[i]
  · rw [if_pos h, beq_iff_eq.mpr h, Bool.true_or]
  · rw [if_neg h, beq_eq_false_iff_ne.mpr h, Bool.false_or]
theorem one_f (k : Nat) (x : Int) (l : List Int) (hn : l.length ≤ 1000) (hk : l.length < k) : impl_oneOf.f k x l = some (l.contains x) := by
 have h := one_l x l hn l.length k 0 (by omega) (by omega) hk
 rw [List.drop_zero] at h
 exact h
theorem oneOf_calls (a0 : Int) (A1 : Option Addr) (n c1 : Nat) (l1 : List Int) (w : World) (hr1 : Kd.C (Kd.int .i64) w A1 n l1) (hc1 : n ≤ c1) (hn : n ≤ 1000) :
  Calls Try.prog 74 #[.int .i64 a0, .slice A1 n c1] w fun e w' => e = .returned (.bool (inL l1 a0)) ∧ Drawn0 w w' := by
 obtain rfl : l1.length = n := hr1.1
 exact impl_oneOf.calls 1001 a0 A1 c1 l1 _ w hr1 hc1 (one_f 1001 a0 l1 hn (by omega))
theorem litC (xs : List Int) {W : World} {n g : Nat} (a : Array Value) (hg : W.heap.size = g) (ha : a = (xs.map fun x => .int .i64 x).toArray := by rfl) (hn : xs.length = n := by rfl) (hm : n ≤ 1000 := by decide) : Kd.C (Kd.int .i64) (W.alloc (.cells a 3)) (some ⟨g, 0, none⟩) n xs := by
 subst ha
 subst hg
 subst hn
 refine Kd.C_of_reads (d := (0 : Int)) (h1 := fun _ => rfl) ⟨rfl, by omega, fun _ => ⟨_, rfl, fun j hj => ?_⟩⟩
 have h := blk_cell (blk_new W (.cells (xs.map fun x => .int .i64 x).toArray 3)) j
 rw [add_plain, h]
 simp [List.getD_eq_getElem?_getD, hj]
theorem rule0_calls (a b s : Int) (w : World) : Calls Try.prog 75 #[.agg #[.int .i64 a, .int .i64 b, .int .i64 s]] w fun e w' => e = .returned (.bool (isV a b s 0)) ∧ Below w.heap.size w w' := by
 have HB := az (below_alloc (Below.refl w.heap.size w) (.cells #[.int .i64 a, .int .i64 b, .int .i64 s] 72))
 go_enter Try.func75, Try.ntmps75
 go_wp2
 go_ret
 exact ⟨rfl, HB.out⟩
theorem rule1_calls (a b s : Int) (w : World) : Calls Try.prog 76 #[.agg #[.int .i64 a, .int .i64 b, .int .i64 s]] w fun e w' => e = .returned (.bool (isV a b s 1)) ∧ Below w.heap.size w w' := by
 have HB := az (below_alloc (Below.refl w.heap.size w) (.cells #[.int .i64 a, .int .i64 b, .int .i64 s] 72))
 have HE2 := az (show isV a b s 1 = inL [4, 3, 6] b by rfl)
 go_enter Try.func76, Try.ntmps76
 go_wp2_with (first | (go_at_call 74; go_must (refine (oneOf_calls b _ _ _ [4, 3, 6] _ (litC [4, 3, 6] #[.int .i64 4, .int .i64 3, .int .i64 6] ?hg) (Nat.le_refl _) (by decide)).mono ?_); (case hg => simp); rintro e w' ⟨rfl, ⟨nd1, rfl⟩⟩))
 go_ret
 exact ⟨by rw [HE2.out]; first | done | rfl, pw_below_drewN (below_alloc HB.out _) _⟩
theorem rule2_calls (a b s : Int) (w : World) : Calls Try.prog 77 #[.agg #[.int .i64 a, .int .i64 b, .int .i64 s]] w fun e w' => e = .returned (.bool (isV a b s 2)) ∧ Below w.heap.size w w' := by
 have HB := az (below_alloc (Below.refl w.heap.size w) (.cells #[.int .i64 a, .int .i64 b, .int .i64 s] 72))
 go_enter Try.func77, Try.ntmps77
 go_wp2
 go_ret
 exact ⟨rfl, HB.out⟩
theorem rule3_calls (a b s : Int) (w : World) : Calls Try.prog 78 #[.agg #[.int .i64 a, .int .i64 b, .int .i64 s]] w fun e w' => e = .returned (.bool (isV a b s 3)) ∧ Below w.heap.size w w' := by
 have HB := az (below_alloc (Below.refl w.heap.size w) (.cells #[.int .i64 a, .int .i64 b, .int .i64 s] 72))
 by_cases h5 : a = 5
 ·
  have b5 : (a == 5) = true := beq_iff_eq.mpr h5
  have HE2 := az (show isV a b s 3 = true by unfold isV; rw [b5]; rfl)
  clear h5
  go_enter Try.func78, Try.ntmps78
  go_wp2
  go_ret
  exact ⟨by rw [HE2.out]; first | done | rfl, HB.out⟩
 ·
  have b5 : (a == 5) = false := beq_eq_false_iff_ne.mpr h5
  clear h5
  by_cases h6 : b = 5
  ·
   have b6 : (b == 5) = true := beq_iff_eq.mpr h6
   have HE2 := az (show isV a b s 3 = !(inL [3, 14, 12] a) by unfold isV; rw [b5, b6]; rfl)
   clear h6
   go_enter Try.func78, Try.ntmps78
   go_wp2_with (first | (go_at_call 74; go_must (refine (oneOf_calls a _ _ _ [3, 14, 12] _ (litC [3, 14, 12] #[.int .i64 3, .int .i64 14, .int .i64 12] ?hg) (Nat.le_refl _) (by decide)).mono ?_); (case hg => simp); rintro e w' ⟨rfl, ⟨nd1, rfl⟩⟩))
   go_ret
   exact ⟨by rw [HE2.out]; first | done | rfl, pw_below_drewN (below_alloc HB.out _) _⟩
  ·
   have b6 : (b == 5) = false := beq_eq_false_iff_ne.mpr h6
   have HE2 := az (show isV a b s 3 = false by unfold isV; rw [b5, b6]; rfl)
   clear h6
   go_enter Try.func78, Try.ntmps78
   go_wp2
   go_ret
   exact ⟨by rw [HE2.out]; first | done | rfl, HB.out⟩
theorem rule4_calls (a b s : Int) (w : World) : Calls Try.prog 79 #[.agg #[.int .i64 a, .int .i64 b, .int .i64 s]] w fun e w' => e = .returned (.bool (isV a b s 4)) ∧ Below w.heap.size w w' := by
 have HB := az (below_alloc (Below.refl w.heap.size w) (.cells #[.int .i64 a, .int .i64 b, .int .i64 s] 72))
 have L1 := fun (W : World) (g : Nat) (hg : W.heap.size = g) => litC [9, 10, 13] #[.int .i64 9, .int .i64 10, .int .i64 13] hg
 have L2 := fun (W : World) (g : Nat) (hg : W.heap.size = g) => litC [9, 10] #[.int .i64 9, .int .i64 10] hg
 have LT : 3 ≤ 1000 ∧ 2 ≤ 1000 := by decide
 cases q1 : inL [9, 10, 13] b with
 | true =>
  by_cases h3 : a = 3
  ·
   have b3 : (a == 3) = true := beq_iff_eq.mpr h3
   have b3' : (a != 3) = false := by rw [bne, b3]; rfl
   clear h3
   cases q2 : inL [9, 10] b with
   | true =>
    have HE2 := az (show isV a b s 4 = !(s == 0) by unfold isV; rw [q1, q2, b3]; rfl)
    go_enter Try.func79, Try.ntmps79
    go_wp2_with (first | (go_at_call 74; first | ((with_reducible refine (oneOf_calls b _ 3 3 [9, 10, 13] _ (L1 _ _ ?hg) (Nat.le_refl _) LT.1).mono ?_); (case hg => simp); rintro e w' ⟨rfl, ⟨nd1, rfl⟩⟩; rw [q1]) | ((with_reducible refine (oneOf_calls b _ 2 2 [9, 10] _ (L2 _ _ ?hg) (Nat.le_refl _) LT.2).mono ?_); (case hg => simp); rintro e w' ⟨rfl, ⟨nd2, rfl⟩⟩; rw [q2])))
    go_ret
    exact ⟨by rw [HE2.out]; first | done | rfl, pw_below_drewN (below_alloc (pw_below_drewN (below_alloc HB.out _) _) _) _⟩
   | false =>
    have HE2 := az (show isV a b s 4 = false by unfold isV; rw [q1, q2, b3]; rfl)
    go_enter Try.func79, Try.ntmps79
    go_wp2_with (first | (go_at_call 74; first | ((with_reducible refine (oneOf_calls b _ 3 3 [9, 10, 13] _ (L1 _ _ ?hg) (Nat.le_refl _) LT.1).mono ?_); (case hg => simp); rintro e w' ⟨rfl, ⟨nd1, rfl⟩⟩; rw [q1]) | ((with_reducible refine (oneOf_calls b _ 2 2 [9, 10] _ (L2 _ _ ?hg) (Nat.le_refl _) LT.2).mono ?_); (case hg => simp); rintro e w' ⟨rfl, ⟨nd2, rfl⟩⟩; rw [q2])))
    go_ret
    exact ⟨by rw [HE2.out]; first | done | rfl, pw_below_drewN (below_alloc (pw_below_drewN (below_alloc HB.out _) _) _) _⟩
  ·
   have b3 : (a == 3) = false := beq_eq_false_iff_ne.mpr h3
   have b3' : (a != 3) = true := by rw [bne, b3]; rfl
   clear h3
   have HE2 := az (show isV a b s 4 = true by unfold isV; rw [q1, b3]; rfl)
   go_enter Try.func79, Try.ntmps79
   go_wp2_with (first | (go_at_call 74; first | ((with_reducible refine (oneOf_calls b _ 3 3 [9, 10, 13] _ (L1 _ _ ?hg) (Nat.le_refl _) LT.1).mono ?_); (case hg => simp); rintro e w' ⟨rfl, ⟨nd1, rfl⟩⟩; rw [q1])))
   go_ret
   exact ⟨by rw [HE2.out]; first | done | rfl, pw_below_drewN (below_alloc HB.out _) _⟩
 | false =>
  cases q2 : inL [9, 10] b with
  | true =>
   have HE2 := az (show isV a b s 4 = !(s == 0) by unfold isV; rw [q1, q2]; rfl)
   go_enter Try.func79, Try.ntmps79
   go_wp2_with (first | (go_at_call 74; first | ((with_reducible refine (oneOf_calls b _ 3 3 [9, 10, 13] _ (L1 _ _ ?hg) (Nat.le_refl _) LT.1).mono ?_); (case hg => simp); rintro e w' ⟨rfl, ⟨nd1, rfl⟩⟩; rw [q1]) | ((with_reducible refine (oneOf_calls b _ 2 2 [9, 10] _ (L2 _ _ ?hg) (Nat.le_refl _) LT.2).mono ?_); (case hg => simp); rintro e w' ⟨rfl, ⟨nd2, rfl⟩⟩; rw [q2])))
   go_ret
   exact ⟨by rw [HE2.out]; first | done | rfl, pw_below_drewN (below_alloc (pw_below_drewN (below_alloc HB.out _) _) _) _⟩
  | false =>
   have HE2 := az (show isV a b s 4 = false by unfold isV; rw [q1, q2]; rfl)
   go_enter Try.func79, Try.ntmps79
   go_wp2_with (first | (go_at_call 74; first | ((with_reducible refine (oneOf_calls b _ 3 3 [9, 10, 13] _ (L1 _ _ ?hg) (Nat.le_refl _) LT.1).mono ?_); (case hg => simp); rintro e w' ⟨rfl, ⟨nd1, rfl⟩⟩; rw [q1]) | ((with_reducible refine (oneOf_calls b _ 2 2 [9, 10] _ (L2 _ _ ?hg) (Nat.le_refl _) LT.2).mono ?_); (case hg => simp); rintro e w' ⟨rfl, ⟨nd2, rfl⟩⟩; rw [q2])))
   go_ret
   exact ⟨by rw [HE2.out]; first | done | rfl, pw_below_drewN (below_alloc (pw_below_drewN (below_alloc HB.out _) _) _) _⟩
theorem rule5_calls (a b s : Int) (w : World) : Calls Try.prog 80 #[.agg #[.int .i64 a, .int .i64 b, .int .i64 s]] w fun e w' => e = .returned (.bool (isV a b s 5)) ∧ Below w.heap.size w w' := by
 have HB := az (below_alloc (Below.refl w.heap.size w) (.cells #[.int .i64 a, .int .i64 b, .int .i64 s] 72))
 go_enter Try.func80, Try.ntmps80
 go_wp2
 go_ret
 exact ⟨rfl, HB.out⟩
theorem rule6_calls (a b s : Int) (w : World) : Calls Try.prog 81 #[.agg #[.int .i64 a, .int .i64 b, .int .i64 s]] w fun e w' => e = .returned (.bool (isV a b s 6)) ∧ Below w.heap.size w w' := by
 have HB := az (below_alloc (Below.refl w.heap.size w) (.cells #[.int .i64 a, .int .i64 b, .int .i64 s] 72))
 go_enter Try.func81, Try.ntmps81
 go_wp2
 go_ret
 exact ⟨rfl, HB.out⟩
theorem rule7_calls (a b s : Int) (w : World) : Calls Try.prog 82 #[.agg #[.int .i64 a, .int .i64 b, .int .i64 s]] w fun e w' => e = .returned (.bool (isV a b s 7)) ∧ Below w.heap.size w w' := by
 have HB := az (below_alloc (Below.refl w.heap.size w) (.cells #[.int .i64 a, .int .i64 b, .int .i64 s] 72))
 by_cases h5 : a = 11
 ·
  have b5 : (a == 11) = true := beq_iff_eq.mpr h5
  have HE2 := az (show isV a b s 7 = true by unfold isV; rw [b5]; rfl)
  clear h5
  go_enter Try.func82, Try.ntmps82
  go_wp2
  go_ret
  exact ⟨by rw [HE2.out]; first | done | rfl, HB.out⟩
 ·
  have b5 : (a == 11) = false := beq_eq_false_iff_ne.mpr h5
  have HE2 := az (show isV a b s 7 = inL [11, 14, 12] b by unfold isV; rw [b5]; rfl)
  clear h5
  go_enter Try.func82, Try.ntmps82
  go_wp2_with (first | (go_at_call 74; go_must (refine (oneOf_calls b _ _ _ [11, 14, 12] _ (litC [11, 14, 12] #[.int .i64 11, .int .i64 14, .int .i64 12] ?hg) (Nat.le_refl _) (by decide)).mono ?_); (case hg => simp); rintro e w' ⟨rfl, ⟨nd1, rfl⟩⟩))
  go_ret
  exact ⟨by rw [HE2.out]; first | done | rfl, pw_below_drewN (below_alloc HB.out _) _⟩
theorem rule9_calls (a b s : Int) (w : World) : Calls Try.prog 84 #[.agg #[.int .i64 a, .int .i64 b, .int .i64 s]] w fun e w' => e = .returned (.bool (isV a b s 9)) ∧ Below w.heap.size w w' := by
 have HB := az (below_alloc (Below.refl w.heap.size w) (.cells #[.int .i64 a, .int .i64 b, .int .i64 s] 72))
 go_enter Try.func84, Try.ntmps84
 go_wp2
 go_ret
 exact ⟨rfl, HB.out⟩
theorem word_calls (x : Int) (w : World) : Calls Try.prog 73 #[.int .i64 x] w fun e w' => e = .returned (.bool (wordB x)) ∧ Below w.heap.size w w' := by
 go_enter Try.func73, Try.ntmps73
 go_wp2_with (go_at_call 74; go_must (refine (oneOf_calls x _ _ _ [1, 2] _ (litC [1, 2] #[.int .i64 1, .int .i64 2] ?hg) (Nat.le_refl _) (by decide)).mono ?_); (case hg => simp); rintro e w' ⟨rfl, ⟨nd1, rfl⟩⟩)
 go_ret
 exact ⟨rfl, pw_below_drewN (below_alloc (Below.refl _ _) _) _⟩
theorem rule8_calls (a b s : Int) (d : Nat) (w : World) (hd : w.cell? ⟨d, 0, none⟩ = some (.func (.func 73) #[] #[])) (hdl : d < w.heap.size) : Calls Try.prog 83 #[.agg #[.int .i64 a, .int .i64 b, .int .i64 s], .pointer (some ⟨d, 0, none⟩)] w fun e w' => e = .returned (.bool (isV a b s 8)) ∧ Below w.heap.size w w' := by
 obtain ⟨W0, hW0⟩ : ∃ W0, w.alloc (.cells #[.int .i64 a, .int .i64 b, .int .i64 s] 72) = W0 := ⟨_, rfl⟩
 have hB0 : Below w.heap.size w W0 := by rw [← hW0]; exact below_alloc (Below.refl _ _) _
 have hk : W0.heap[w.heap.size]? = some (.cells #[.int .i64 a, .int .i64 b, .int .i64 s] 72) := by rw [← hW0]; exact blk_new w _
 have x0 := (blk_cell hk 0).trans (show _ = some (Value.int .i64 a) from rfl)
 have x1 := (blk_cell hk 1).trans (show _ = some (Value.int .i64 b) from rfl)
 have xc := (hB0.cell (p := ⟨d, 0, none⟩) hdl).trans hd
 have lt1 : w.heap.size < W0.heap.size := by rw [← hW0]; simp
 have lt2 : d < W0.heap.size := Nat.lt_trans hdl lt1
 have HB0 := az hB0
 have H0 := az (Below.refl W0.heap.size W0)
 clear hB0 hk hd hdl
 have HV := az (show isV a b s 8 = ((wordB a && wordB b) || (b == 2 && inL [12, 13] a) || (a == 13 && b == 1) || ((wordB a && b == 8) || (a == 9 && wordB b))) from rfl)
 have HX := H0
 clear H0
 go_enter Try.func83, Try.ntmps83
 go_upto_region 1 with fail
 clear hW0
 go_cut [4] (fun v4 wc => v4 = .bool (wordB a && wordB b) ∧ Aside0 (Below W0.heap.size W0 wc))
 case first =>
  cases q1 : wordB a
  all_goals
   go_wp2_with (first | (go_at_call 73; go_must (refine (word_calls _ _).mono ?_); rintro e w' ⟨rfl, hb⟩; have n0 := az (below_step (by repeat (first | (with_reducible first | exact HX.out | apply below_alloc | apply pw_below_drewN | apply below_drew1) | exact HX.out)) hb); clear HX hb; have HX := n0; clear n0; have y0 := (HX.out.cell (p := ⟨w.heap.size, 0, none⟩) lt1).trans x0; have y1 := (HX.out.cell (p := ⟨w.heap.size, 1, none⟩) lt1).trans x1; have yc := (HX.out.cell (p := ⟨d, 0, none⟩) lt2).trans xc))
   go_meet
   exact ⟨by rw [q1]; first | done | rfl, ⟨(by repeat (first | (with_reducible first | exact HX.out | apply below_alloc | apply pw_below_drewN | apply below_drew1) | exact HX.out))⟩⟩
 case rest =>
 clear HX
 obtain ⟨rfl, HX⟩ := hcut
 cases v1 : (wordB a && wordB b)
 case true =>
  have HE2 := az (show isV a b s 8 = true by rw [HV.out, v1]; rfl)
  go_wp2
  go_ret
  exact ⟨by rw [HE2.out]; first | done | rfl, below_then HB0.out HB0.out.size (by repeat (first | (with_reducible first | exact HX.out | apply below_alloc | apply pw_below_drewN | apply below_drew1) | exact HX.out))⟩
 case false =>
 go_upto_region 2 with fail
 have z0 := (HX.out.cell (p := ⟨w.heap.size, 0, none⟩) lt1).trans x0; have z1 := (HX.out.cell (p := ⟨w.heap.size, 1, none⟩) lt1).trans x1; have zc := (HX.out.cell (p := ⟨d, 0, none⟩) lt2).trans xc
 go_cut [4] (fun v4 wd => v4 = .bool (b == 2 && inL [12, 13] a) ∧ Aside0 (Below W0.heap.size W0 wd))
 case first =>
  cases b2 : (b == 2)
  all_goals
   go_wp2_with (first | (go_at_call 74; go_must (refine (oneOf_calls a _ _ _ [12, 13] _ (litC [12, 13] #[.int .i64 12, .int .i64 13] ?hg) (Nat.le_refl _) (by decide)).mono ?_); (case hg => simp); rintro e w' ⟨rfl, ⟨nd1, rfl⟩⟩))
   go_meet
   exact ⟨by rw [b2]; first | done | rfl, ⟨(by repeat (first | (with_reducible first | exact HX.out | apply below_alloc | apply pw_below_drewN | apply below_drew1) | exact HX.out))⟩⟩
 case rest =>
 clear HX z0 z1 zc
 obtain ⟨rfl, HX⟩ := hcut
 cases v2 : (b == 2 && inL [12, 13] a)
 case true =>
  have HE2 := az (show isV a b s 8 = true by rw [HV.out, v1, v2]; rfl)
  go_wp2
  go_ret
  exact ⟨by rw [HE2.out]; first | done | rfl, below_then HB0.out HB0.out.size (by repeat (first | (with_reducible first | exact HX.out | apply below_alloc | apply pw_below_drewN | apply below_drew1) | exact HX.out))⟩
 case false =>
 go_upto_region 3 with fail
 have z0 := (HX.out.cell (p := ⟨w.heap.size, 0, none⟩) lt1).trans x0; have z1 := (HX.out.cell (p := ⟨w.heap.size, 1, none⟩) lt1).trans x1; have zc := (HX.out.cell (p := ⟨d, 0, none⟩) lt2).trans xc
 go_cut [4] (fun v4 wd => v4 = .bool (a == 13 && b == 1) ∧ Aside0 (Below W0.heap.size W0 wd))
 case first =>
  cases a13 : (a == 13)
  all_goals
   go_wp2
   go_meet
   exact ⟨by rw [a13]; first | done | rfl, ⟨(by repeat (first | (with_reducible first | exact HX.out | apply below_alloc | apply pw_below_drewN | apply below_drew1) | exact HX.out))⟩⟩
 case rest =>
 clear HX z0 z1 zc
 obtain ⟨rfl, HX⟩ := hcut
 cases v3 : (a == 13 && b == 1)
 case true =>
  have HE2 := az (show isV a b s 8 = true by rw [HV.out, v1, v2, v3]; rfl)
  go_wp2
  go_ret
  exact ⟨by rw [HE2.out]; first | done | rfl, below_then HB0.out HB0.out.size (by repeat (first | (with_reducible first | exact HX.out | apply below_alloc | apply pw_below_drewN | apply below_drew1) | exact HX.out))⟩
 case false =>
 have HF := az (show isV a b s 8 = ((wordB a && b == 8) || (a == 9 && wordB b)) by rw [HV.out, v1, v2, v3]; rfl)
 clear v2 v3
 have z0 := (HX.out.cell (p := ⟨w.heap.size, 0, none⟩) lt1).trans x0; have z1 := (HX.out.cell (p := ⟨w.heap.size, 1, none⟩) lt1).trans x1; have zc := (HX.out.cell (p := ⟨d, 0, none⟩) lt2).trans xc
 cases q1 : wordB a
 all_goals
  cases b8 : (b == 8)
  all_goals
   cases a9 : (a == 9)
   all_goals
    have HE2 := az (HF.out.trans (by rw [q1, b8, a9]))
    go_wp2_with (first | (go_at_call 73; go_must (refine (word_calls _ _).mono ?_); rintro e w' ⟨rfl, hb⟩; have n0 := az (below_step (by repeat (first | (with_reducible first | exact HX.out | apply below_alloc | apply pw_below_drewN | apply below_drew1) | exact HX.out)) hb); clear HX hb; have HX := n0; clear n0; have y0 := (HX.out.cell (p := ⟨w.heap.size, 0, none⟩) lt1).trans x0; have y1 := (HX.out.cell (p := ⟨w.heap.size, 1, none⟩) lt1).trans x1; have yc := (HX.out.cell (p := ⟨d, 0, none⟩) lt2).trans xc))
    go_ret
    exact ⟨by rw [HE2.out]; first | done | rfl, below_then HB0.out HB0.out.size (by repeat (first | (with_reducible first | exact HX.out | apply below_alloc | apply pw_below_drewN | apply below_drew1) | exact HX.out))⟩
def RC (W : World) (v : Value) (ans : Int) (fv : Value) : Prop := ∃ bB cB : Nat, v = .func (.func 72) #[] #[.pointer (some ⟨bB, 0, none⟩), .pointer (some ⟨cB, 0, none⟩)] ∧ bB < W.heap.size ∧ cB < W.heap.size ∧ W.cell? ⟨bB, 0, none⟩ = some (.int .i64 ans) ∧ W.cell? ⟨cB, 0, none⟩ = some fv
theorem RC.below {W W' : World} {v : Value} {ans : Int} {fv : Value} (h : RC W v ans fv) (hb : Below W.heap.size W W') : RC W' v ans fv := by
 obtain ⟨bB, cB, h0, h1, h2, h3, h4⟩ := h
 exact ⟨bB, cB, h0, Nat.lt_of_lt_of_le h1 hb.size, Nat.lt_of_lt_of_le h2 hb.size, (hb.cell (p := ⟨bB, 0, none⟩) h1).trans h3, (hb.cell (p := ⟨cB, 0, none⟩) h2).trans h4⟩
theorem when_calls (ans : Int) (fn : Fn) (lb : Array Value) (w : World) : Calls Try.prog 71 #[.int .i64 ans, .func fn #[] lb] w fun e w' => ∃ lb', e = .returned (.func (.func 72) #[] lb') ∧ RC w' (.func (.func 72) #[] lb') ans (.func fn #[] lb) ∧ Below w.heap.size w w' := by
 go_enter Try.func71, Try.ntmps71
 go_wp2
 go_ret
 have e1 := blk_new w (.cells #[.int .i64 ans] 3)
 have e2 := blk_new (w.alloc (.cells #[.int .i64 ans] 3)) (.cells #[.func fn #[] lb] 79)
 refine ⟨_, rfl, ⟨w.heap.size, w.heap.size + 1, rfl, by simp; omega, by simp, (blk_cell (blk_alloc e1 _) 0).trans rfl, ?_⟩, below_alloc (below_alloc (Below.refl _ _) _) _⟩
 rw [show (w.alloc (.cells #[.int .i64 ans] 3)).heap.size = w.heap.size + 1 by simp] at e2
 exact (blk_cell e2 0).trans rfl
theorem when2_calls (f : Nat) (lb : Array Value) (eg : ∀ args w, (callFunc f args).run Try.prog w = .ok (.enter f args) w) (a b s ans : Int) (v : Bool) (bB cB : Nat) (w : World) (h1 : w.cell? ⟨bB, 0, none⟩ = some (.int .i64 ans)) (h2 : w.cell? ⟨cB, 0, none⟩ = some (.func (.func f) #[] lb)) (l1 : bB < w.heap.size) (l2 : cB < w.heap.size)
  (hp : ∀ W, Below w.heap.size w W → Calls Try.prog f (#[.agg #[.int .i64 a, .int .i64 b, .int .i64 s]] ++ lb) W fun e w' => e = .returned (.bool v) ∧ Below W.heap.size W w') :
  Calls Try.prog 72 #[.agg #[.int .i64 a, .int .i64 b, .int .i64 s], .pointer (some ⟨bB, 0, none⟩), .pointer (some ⟨cB, 0, none⟩)] w fun e w' => e = .returned (.tuple #[.int .i64 ans, .bool v]) ∧ Below w.heap.size w w' := by
 obtain ⟨W0, hW0⟩ : ∃ W0, w.alloc (.cells #[.int .i64 a, .int .i64 b, .int .i64 s] 72) = W0 := ⟨_, rfl⟩
 have hB0 : Below w.heap.size w W0 := by rw [← hW0]; exact below_alloc (Below.refl _ _) _
 have hk : W0.heap[w.heap.size]? = some (.cells #[.int .i64 a, .int .i64 b, .int .i64 s] 72) := by rw [← hW0]; exact blk_new w _
 have x1 := (hB0.cell (p := ⟨bB, 0, none⟩) l1).trans h1
 have x2 := (hB0.cell (p := ⟨cB, 0, none⟩) l2).trans h2
 have HB0 := az hB0
 have HP := az hp
 have y0 := (blk_cell hk 0).trans (show _ = some (Value.int .i64 a) from rfl)
 have y1 := (blk_cell hk 1).trans (show _ = some (Value.int .i64 b) from rfl)
 have y2 := (blk_cell hk 2).trans (show _ = some (Value.int .i64 s) from rfl)
 have hu := Try.underlying72
 have lb0 : bB < W0.heap.size := Nat.lt_of_lt_of_le l1 hB0.size
 clear hB0 hk h1 h2 l1 l2 hp
 go_enter Try.func72, Try.ntmps72
 go_upto_region 1 with fail
 clear hW0
 go_region_with (go_at_fn f; refine (HP.out _ (by first | exact HB0.out | exact pw_below_drewN HB0.out _ | exact below_drew1 HB0.out)).mono ?_; rintro e w' ⟨rfl, hb⟩; have HX := az (below_then HB0.out HB0.out.size (below_then (by first | exact Below.refl _ _ | exact pw_below_drewN (Below.refl _ _) _ | exact below_drew1 (Below.refl _ _)) (by first | exact Nat.le_refl _ | simp) hb)); have z1 := ((below_then (B := W0.heap.size) (by first | exact Below.refl _ _ | exact pw_below_drewN (Below.refl _ _) _ | exact below_drew1 (Below.refl _ _)) (by first | exact Nat.le_refl _ | simp) hb).cell (p := ⟨bB, 0, none⟩) lb0).trans x1; clear hb)
 all_goals
  go_wp2
  go_ret2
  exact ⟨rfl, by repeat (first | (with_reducible first | exact HX.out | apply pw_below_drewN | apply below_drew1) | exact HX.out)⟩
def RuleAt (W : World) (v : Value) (i : Nat) : Prop := ∃ (bB cB f : Nat) (lb : Array Value), v = .func (.func 72) #[] #[.pointer (some ⟨bB, 0, none⟩), .pointer (some ⟨cB, 0, none⟩)] ∧ bB < W.heap.size ∧ cB < W.heap.size ∧ W.cell? ⟨bB, 0, none⟩ = some (.int .i64 (ansV i)) ∧ W.cell? ⟨cB, 0, none⟩ = some (.func (.func f) #[] lb) ∧ (∀ args w, (callFunc f args).run Try.prog w = .ok (.enter f args) w) ∧ ∀ (a b s : Int) (W' : World), Below W.heap.size W W' → Calls Try.prog f (#[.agg #[.int .i64 a, .int .i64 b, .int .i64 s]] ++ lb) W' fun e w' => e = .returned (.bool (isV a b s i)) ∧ Below W'.heap.size W' w'
theorem RuleAt.below {W W' : World} {v : Value} {i : Nat} (h : RuleAt W v i) (hb : Below W.heap.size W W') : RuleAt W' v i := by
 obtain ⟨bB, cB, f, lb, h0, h1, h2, h3, h4, h5, h6⟩ := h
 exact ⟨bB, cB, f, lb, h0, Nat.lt_of_lt_of_le h1 hb.size, Nat.lt_of_lt_of_le h2 hb.size, (hb.cell (p := ⟨bB, 0, none⟩) h1).trans h3, (hb.cell (p := ⟨cB, 0, none⟩) h2).trans h4, h5, fun a b s X hX => h6 a b s X (below_then hb hb.size hX)⟩
theorem RuleAt.of {W : World} {v : Value} {i f : Nat} {lb : Array Value} (h : RC W v (ansV i) (.func (.func f) #[] lb)) (eg : ∀ args w, (callFunc f args).run Try.prog w = .ok (.enter f args) w) (hp : ∀ (a b s : Int) (W' : World), Below W.heap.size W W' → Calls Try.prog f (#[.agg #[.int .i64 a, .int .i64 b, .int .i64 s]] ++ lb) W' fun e w' => e = .returned (.bool (isV a b s i)) ∧ Below W'.heap.size W' w') : RuleAt W v i := by
 obtain ⟨bB, cB, h0, h1, h2, h3, h4⟩ := h
 exact ⟨bB, cB, f, lb, h0, h1, h2, h3, h4, eg, hp⟩
theorem rule_calls {W : World} {v : Value} {i : Nat} (h : RuleAt W v i) (a b s : Int) : ∃ lb, v = .func (.func 72) #[] lb ∧ Calls Try.prog 72 (#[.agg #[.int .i64 a, .int .i64 b, .int .i64 s]] ++ lb) W fun e w' => e = .returned (.tuple #[.int .i64 (ansV i), .bool (isV a b s i)]) ∧ Below W.heap.size W w' := by
 obtain ⟨bB, cB, f, lb, h0, h1, h2, h3, h4, h5, h6⟩ := h
 exact ⟨_, h0, when2_calls f lb h5 a b s _ _ bB cB W h3 h4 h1 h2 (fun X hX => h6 a b s X hX)⟩
def RulesAt (W : World) (g : Nat) : Prop := g < W.heap.size ∧ ∀ i, i < 10 → ∃ v, W.cell? ⟨g, i, none⟩ = some v ∧ RuleAt W v i
theorem RulesAt.below {W W' : World} {g : Nat} (h : RulesAt W g) (hb : Below W.heap.size W W') : RulesAt W' g := by
 refine ⟨Nat.lt_of_lt_of_le h.1 hb.size, fun i hi => ?_⟩
 obtain ⟨v, h1, h2⟩ := h.2 i hi
 exact ⟨v, (hb.cell (p := ⟨g, i, none⟩) h.1).trans h1, h2.below hb⟩
def AllR (W : World) (n : Nat) (vs : List Value) : Prop := ∀ i v, i < n → vs[n - 1 - i]? = some v → RuleAt W v i
theorem AllR.more {W W' : World} {n : Nat} {vs : List Value} (h : AllR W n vs) (hb : Below W.heap.size W W') {v : Value} (hv : RuleAt W' v n) : AllR W' (n + 1) (v :: vs) := by
 intro i u hi hu
 by_cases e : i = n
 ·
  subst e
  rw [show i + 1 - 1 - i = 0 by omega, List.getElem?_cons_zero] at hu
  obtain rfl := Option.some.inj hu
  exact hv
 ·
  rw [show n + 1 - 1 - i = (n - 1 - i) + 1 by omega, List.getElem?_cons_succ] at hu
  exact (h i u (by omega) hu).below hb
theorem eg_of (f : Nat) {fn : Func} (hf : Try.prog.funcs[f]? = some fn) (hname : (fn.name == "runtime.NumGoroutine") = false) (hb : fn.body.isSome = true) : ∀ args w, (callFunc f args).run Try.prog w = .ok (.enter f args) w := fun args w => enters_ hf hname hb args w
theorem rules_end {W : World} {v0 v1 v2 v3 v4 v5 v6 v7 v8 v9 : Value} (h : AllR W 10 [v9, v8, v7, v6, v5, v4, v3, v2, v1, v0]) : RulesAt (W.alloc (.cells #[v0, v1, v2, v3, v4, v5, v6, v7, v8, v9] 69)) W.heap.size := by
 refine ⟨by simp, fun i hi => ?_⟩
 have hn := blk_cell (blk_new W (.cells #[v0, v1, v2, v3, v4, v5, v6, v7, v8, v9] 69)) i
 have hb : Below W.heap.size W (W.alloc (.cells #[v0, v1, v2, v3, v4, v5, v6, v7, v8, v9] 69)) := below_alloc (Below.refl _ _) _
 match i, hi with
 | 0, _ => exact ⟨v0, hn.trans rfl, (h 0 v0 (by decide) rfl).below hb⟩
 | 1, _ => exact ⟨v1, hn.trans rfl, (h 1 v1 (by decide) rfl).below hb⟩
 | 2, _ => exact ⟨v2, hn.trans rfl, (h 2 v2 (by decide) rfl).below hb⟩
 | 3, _ => exact ⟨v3, hn.trans rfl, (h 3 v3 (by decide) rfl).below hb⟩
 | 4, _ => exact ⟨v4, hn.trans rfl, (h 4 v4 (by decide) rfl).below hb⟩
 | 5, _ => exact ⟨v5, hn.trans rfl, (h 5 v5 (by decide) rfl).below hb⟩
 | 6, _ => exact ⟨v6, hn.trans rfl, (h 6 v6 (by decide) rfl).below hb⟩
 | 7, _ => exact ⟨v7, hn.trans rfl, (h 7 v7 (by decide) rfl).below hb⟩
 | 8, _ => exact ⟨v8, hn.trans rfl, (h 8 v8 (by decide) rfl).below hb⟩
 | 9, _ => exact ⟨v9, hn.trans rfl, (h 9 v9 (by decide) rfl).below hb⟩
theorem rat0 {W : World} {v : Value} (h : RC W v 2 (.func (.func 75) #[] #[])) : RuleAt W v 0 := RuleAt.of (i := 0) h (eg_of _ Try.func75 (by kernel_rfl) rfl) (fun a b s X hX => rule0_calls a b s X)
theorem rat1 {W : World} {v : Value} (h : RC W v 0 (.func (.func 76) #[] #[])) : RuleAt W v 1 := RuleAt.of (i := 1) h (eg_of _ Try.func76 (by kernel_rfl) rfl) (fun a b s X hX => rule1_calls a b s X)
theorem rat2 {W : World} {v : Value} (h : RC W v 1 (.func (.func 77) #[] #[])) : RuleAt W v 2 := RuleAt.of (i := 2) h (eg_of _ Try.func77 (by kernel_rfl) rfl) (fun a b s X hX => rule2_calls a b s X)
theorem rat3 {W : World} {v : Value} (h : RC W v 0 (.func (.func 78) #[] #[])) : RuleAt W v 3 := RuleAt.of (i := 3) h (eg_of _ Try.func78 (by kernel_rfl) rfl) (fun a b s X hX => rule3_calls a b s X)
theorem rat4 {W : World} {v : Value} (h : RC W v 0 (.func (.func 79) #[] #[])) : RuleAt W v 4 := RuleAt.of (i := 4) h (eg_of _ Try.func79 (by kernel_rfl) rfl) (fun a b s X hX => rule4_calls a b s X)
theorem rat5 {W : World} {v : Value} (h : RC W v 0 (.func (.func 80) #[] #[])) : RuleAt W v 5 := RuleAt.of (i := 5) h (eg_of _ Try.func80 (by kernel_rfl) rfl) (fun a b s X hX => rule5_calls a b s X)
theorem rat6 {W : World} {v : Value} (h : RC W v 1 (.func (.func 81) #[] #[])) : RuleAt W v 6 := RuleAt.of (i := 6) h (eg_of _ Try.func81 (by kernel_rfl) rfl) (fun a b s X hX => rule6_calls a b s X)
theorem rat7 {W : World} {v : Value} (h : RC W v 0 (.func (.func 82) #[] #[])) : RuleAt W v 7 := RuleAt.of (i := 7) h (eg_of _ Try.func82 (by kernel_rfl) rfl) (fun a b s X hX => rule7_calls a b s X)
theorem rat8 {W : World} {v : Value} (d : Nat) (hl : d < W.heap.size) (hd : W.cell? ⟨d, 0, none⟩ = some (.func (.func 73) #[] #[])) (h : RC W v 0 (.func (.func 83) #[] #[.pointer (some ⟨d, 0, none⟩)])) : RuleAt W v 8 := RuleAt.of (i := 8) h (eg_of _ Try.func83 (by kernel_rfl) rfl) (fun a b s X hX => rule8_calls a b s d X ((hX.cell (p := ⟨d, 0, none⟩) hl).trans hd) (Nat.lt_of_lt_of_le hl hX.size))
theorem rat9 {W : World} {v : Value} (h : RC W v 1 (.func (.func 84) #[] #[])) : RuleAt W v 9 := RuleAt.of (i := 9) h (eg_of _ Try.func84 (by kernel_rfl) rfl) (fun a b s X hX => rule9_calls a b s X)
theorem run_store_funcR {P : Program} {w : World} {a : Addr} {m : Mode} (fn : Fn) (first captured : Array Value) : (store a (.func fn first captured) m).run P w = stored P w a (.func fn first captured) m := run_store P w a _ m rfl
attribute [local go_sem] run_store_funcR
theorem rules_calls (w : World) : Calls Try.prog 56 #[] w fun e w' => ∃ g, e = .returned (.slice (some ⟨g, 0, none⟩) 10 10) ∧ RulesAt w' g ∧ Below w.heap.size w w' := by
 obtain ⟨W0, hW0⟩ : ∃ W0, (w.alloc (.cells #[Value.nilFunc] 54)).setCell ⟨w.heap.size, 0, none⟩ (.func (.func 73) #[] #[]) = W0 := ⟨_, rfl⟩
 have hB0 : Below w.heap.size w W0 := by rw [← hW0]; exact (below_alloc (Below.refl _ _) _).setCell (p := ⟨w.heap.size, 0, none⟩) (Nat.le_refl _) _
 have hd : W0.cell? ⟨w.heap.size, 0, none⟩ = some (.func (.func 73) #[] #[]) := by rw [← hW0]; exact (blk_cell (blk_set (blk_new w _) 0 _) 0).trans rfl
 have lt0 : w.heap.size < W0.heap.size := by rw [← hW0]; simp [World.setCell]
 have HD := az hd
 have HB0 := az hB0
 have HB := az (Below.refl W0.heap.size W0)
 have HA : Aside0 (AllR W0 0 []) := ⟨fun i v hi => absurd hi (Nat.not_lt_zero _)⟩
 clear hd hB0
 go_enter Try.func56, Try.ntmps56
 go_upto_region 3 with fail
 clear hW0
 go_wp2_with (go_at_call 71; first
  | ((with_reducible refine (when_calls 2 (.func 75) #[] _).mono ?_); go_must (rintro e w1 ⟨v0, rfl, hrc, hb⟩; have n1 := az (below_step HB.out hb); clear HB; have n0 := az (HA.out.more hb (rat0 hrc)); have HB := n1; clear n1; clear HA hrc hb; have HA := n0; clear n0))
  | ((with_reducible refine (when_calls 0 (.func 76) #[] _).mono ?_); go_must (rintro e w2 ⟨v1, rfl, hrc, hb⟩; have n1 := az (below_step HB.out hb); clear HB; have n0 := az (HA.out.more hb (rat1 hrc)); have HB := n1; clear n1; clear HA hrc hb; have HA := n0; clear n0))
  | ((with_reducible refine (when_calls 1 (.func 77) #[] _).mono ?_); go_must (rintro e w3 ⟨v2, rfl, hrc, hb⟩; have n1 := az (below_step HB.out hb); clear HB; have n0 := az (HA.out.more hb (rat2 hrc)); have HB := n1; clear n1; clear HA hrc hb; have HA := n0; clear n0))
  | ((with_reducible refine (when_calls 0 (.func 78) #[] _).mono ?_); go_must (rintro e w4 ⟨v3, rfl, hrc, hb⟩; have n1 := az (below_step HB.out hb); clear HB; have n0 := az (HA.out.more hb (rat3 hrc)); have HB := n1; clear n1; clear HA hrc hb; have HA := n0; clear n0))
  | ((with_reducible refine (when_calls 0 (.func 79) #[] _).mono ?_); go_must (rintro e w5 ⟨v4, rfl, hrc, hb⟩; have n1 := az (below_step HB.out hb); clear HB; have n0 := az (HA.out.more hb (rat4 hrc)); have HB := n1; clear n1; clear HA hrc hb; have HA := n0; clear n0))
  | ((with_reducible refine (when_calls 0 (.func 80) #[] _).mono ?_); go_must (rintro e w6 ⟨v5, rfl, hrc, hb⟩; have n1 := az (below_step HB.out hb); clear HB; have n0 := az (HA.out.more hb (rat5 hrc)); have HB := n1; clear n1; clear HA hrc hb; have HA := n0; clear n0))
  | ((with_reducible refine (when_calls 1 (.func 81) #[] _).mono ?_); go_must (rintro e w7 ⟨v6, rfl, hrc, hb⟩; have n1 := az (below_step HB.out hb); clear HB; have n0 := az (HA.out.more hb (rat6 hrc)); have HB := n1; clear n1; clear HA hrc hb; have HA := n0; clear n0))
  | ((with_reducible refine (when_calls 0 (.func 82) #[] _).mono ?_); go_must (rintro e w8 ⟨v7, rfl, hrc, hb⟩; have n1 := az (below_step HB.out hb); clear HB; have n0 := az (HA.out.more hb (rat7 hrc)); have HB := n1; clear n1; clear HA hrc hb; have HA := n0; clear n0))
  | ((with_reducible refine (when_calls 0 (.func 83) #[.pointer (some ⟨w.heap.size, 0, none⟩)] _).mono ?_); go_must (rintro e w9 ⟨v8, rfl, hrc, hb⟩; have n1 := az (below_step HB.out hb); clear HB; have n0 := az (HA.out.more hb (rat8 w.heap.size (Nat.lt_of_lt_of_le lt0 n1.out.size) ((n1.out.cell (p := ⟨w.heap.size, 0, none⟩) lt0).trans HD.out) hrc)); have HB := n1; clear n1; clear HA hrc hb; have HA := n0; clear n0))
  | ((with_reducible refine (when_calls 1 (.func 84) #[] _).mono ?_); go_must (rintro e w10 ⟨v9, rfl, hrc, hb⟩; have n1 := az (below_step HB.out hb); clear HB; have n0 := az (HA.out.more hb (rat9 hrc)); have HB := n1; clear n1; clear HA hrc hb; have HA := n0; clear n0)))
 go_ret
 exact ⟨_, rfl, rules_end HA.out, below_alloc (below_then HB0.out HB0.out.size HB.out) _⟩
def placeR (a b s : Int) : Nat → Nat → Int
 | 0, _ => 1
 | g + 1, i => if isV a b s i = true then ansV i else placeR a b s g (i + 1)
def placeV (a b s : Int) : Int := placeR a b s 10 0
def brX (k : Nat) (l0 cs : List Int) (js : List Bool) (i : Nat) (s : Int) : Option Int :=
 if i + 1 = l0.length then some 2 else if js.getD (i + 1) false = true then some 0 else (impl_RuneLine.f k (l0.getD (i + 1) 0)).bind fun t => (impl_afterSpace.f k (cs.getD i 0)).bind fun u => some (if t = 7 ∧ u = false then 0 else placeV (cs.getD i 0) (cs.getD (i + 1) 0) s)
def brL (k : Nat) (l0 cs : List Int) (js : List Bool) : Nat → Nat → Int → List Int → Option (List Int)
 | 0, _, _, out => some out
 | g + 1, i, s, out => (brX k l0 cs js i (if cs.getD i 0 = 3 then s else cs.getD i 0)).bind fun x => brL k l0 cs js g (i + 1) (if cs.getD i 0 = 3 then s else cs.getD i 0) (out ++ [x])
def impl_breaks.f (k : Nat) (l0 : List Int) : Option (List Int) := (impl_countsOf.f k l0).bind fun cs => (impl_joined.f k l0).bind fun js => if cs.length = l0.length ∧ js.length = l0.length ∧ l0.length ≤ 1000 then brL k l0 cs js l0.length 0 0 [] else none
theorem brX_mono (k : Nat) (l0 cs : List Int) (js : List Bool) (i : Nat) (s : Int) : LeO (brX k l0 cs js i s) (brX (k + 1) l0 cs js i s) := by
 unfold brX
 exact LeO.ite (LeO.refl _) (LeO.ite (LeO.refl _) (LeO.bind (impl_RuneLine.mono _ _) (fun t => LeO.bind (impl_afterSpace.mono _ _) (fun u => LeO.refl _))))
theorem brL_mono (k : Nat) (l0 cs : List Int) (js : List Bool) : ∀ (g i : Nat) (s : Int) (out : List Int), LeO (brL k l0 cs js g i s out) (brL (k + 1) l0 cs js g i s out)
 | 0, _, _, _ => LeO.refl _
 | g + 1, i, s, out => by
  simp only [brL]
  exact LeO.bind (brX_mono _ _ _ _ _ _) (fun x => brL_mono k l0 cs js g _ _ _)
theorem impl_breaks.mono : ∀ a0 k, LeO (impl_breaks.f k a0) (impl_breaks.f (k + 1) a0) := by
 intro a0 k
 unfold impl_breaks.f
 exact LeO.bind (impl_countsOf.mono _ _) (fun cs => LeO.bind (impl_joined.mono _ _) (fun js => LeO.ite (brL_mono _ _ _ _ _ _ _ _) (LeO.refl _)))
theorem below_of {w w' : World} (h : Below w.heap.size w w') : Below w.heap.size w w' := h
theorem place_at {a b s : Int} : ∀ (g q : Nat), isV a b s q = true → placeR a b s (g + 1) q = ansV q := fun g q h => by rw [placeR, if_pos h]
theorem place_on {a b s : Int} : ∀ (g q : Nat), isV a b s q = false → placeR a b s (g + 1) q = placeR a b s g (q + 1) := fun g q h => by rw [placeR, if_neg (by rw [h]; decide)]
theorem impl_breaks.calls (k : Nat) (A0 : Option Addr) (c0 : Nat) (l0 : List Int) (r : List Int) (w : World) (hr0 : Kd.C (Kd.int .i64) w A0 l0.length l0) (hc0 : l0.length ≤ c0) (h : impl_breaks.f k l0 = some r) :
  Calls Try.prog 33 #[.slice A0 l0.length c0] w fun e w' => ∃ v0_ : Value, e = .returned (v0_) ∧ Kd.R (Kd.int .i64) 3 w' w.heap.size (fun _ => True) v0_ r ∧ Below w.heap.size w w' := by
 have HR := az hr0
 have HC := az hc0
 clear hr0 hc0
 unfold impl_breaks.f at h
 replace h := Option.bind_eq_some_iff.mp h
 obtain ⟨cs, hcs, h⟩ := h
 replace h := Option.bind_eq_some_iff.mp h
 obtain ⟨js, hjs, h⟩ := h
 by_cases hl : cs.length = l0.length ∧ js.length = l0.length ∧ l0.length ≤ 1000
 case neg => rw [if_neg hl] at h; cases h
 case pos =>
 rw [if_pos hl] at h
 have HL := az hl
 have HCS := az hcs
 have HJS := az hjs
 have HF := az h
 clear hcs hjs h hl
 go_enter Try.func33, Try.ntmps33
 go_upto_region 4 with (first
  | (go_at_call 54; go_must (refine (impl_countsOf.calls k A0 c0 l0 cs _ HR.out HC.out HCS.out).mono ?_); rintro e w1 ⟨v1, rfl, ho1, hb1⟩; obtain ⟨A1, c1, e1⟩ := Kd.R_slice ho1; subst e1; have HO1 := az ho1; have HB1 := az hb1; clear ho1 hb1)
  | (go_at_call 55; go_must (refine (impl_joined.calls k A0 c0 l0 js _ (Kd.C_below HR.out HB1.out) HC.out HJS.out).mono ?_); rintro e w2 ⟨v2, rfl, ho2, hb2⟩; obtain ⟨A2, c2, e2⟩ := Kd.R_slice ho2; subst e2; have HO2 := az ho2; have HB2 := az (below_then HB1.out HB1.out.size hb2); have HC1 := az (Kd.C_below (Kd.R_reads' HO1.out).2.2 hb2); clear ho2 hb2)
  | (go_at_call 56; go_must (refine (rules_calls _).mono ?_); rintro e w3 ⟨g, rfl, hru, hb3⟩; have HRU := az hru; have HB3 := az (below_then HB2.out HB2.out.size hb3); have HCC := az (Kd.C_below HC1.out hb3); have HJJ := az (Kd.C_below (Kd.R_reads' HO2.out).2.2 hb3); clear hru hb3))
 have HR3 := az (Kd.C_below HR.out HB3.out)
 clear HO1 HO2 HB1 HB2 HC1
 go_wp2
 go_loopg [6, 7, 21] cs.length (fun gg s6 s7 s21 wr => ∃ (i : Nat) (s : Int) (out : List Int), s21 = .int .i64 i ∧ s7 = .int .i64 s ∧ i ≤ cs.length ∧ cs.length - i ≤ gg ∧ Aside0 (brL k l0 cs js (cs.length - i) i s out = some r) ∧ Aside0 (out.length = i) ∧ Aside0 (Kd.R (Kd.int .i64) 3 wr w3.heap.size (fun _ => True) s6 out) ∧ Aside0 (Below w3.heap.size w3 wr))
 case atStart => exact ⟨0, 0, [], rfl, rfl, Nat.zero_le _, by omega, ⟨by rw [Nat.sub_zero, HL.out.1]; exact HF.out⟩, ⟨rfl⟩, ⟨Kd.R_nil _ _ _ _ _⟩, ⟨Below.refl _ _⟩⟩
 case round =>
  clear HF
  obtain ⟨i, s, out, rfl, rfl, hi, hg, HF, HLO, HO, HB⟩ := hrel
  by_cases hlt : i < cs.length
  ·
   have hltz : (i : Int) < (cs.length : Int) := by omega
   have hn9 : cs.length ≤ 1000 := by have := HL.out; omega
   have hf := HF.out
   rw [show cs.length - i = (cs.length - (i + 1)) + 1 by omega, brL] at hf
   replace hf := Option.bind_eq_some_iff.mp hf
   obtain ⟨x, hx, hf⟩ := hf
   obtain ⟨a, ha⟩ : ∃ a, cs.getD i 0 = a := ⟨_, rfl⟩
   rw [ha] at hx hf
   obtain ⟨s2, hs2⟩ : ∃ s2, (if a = 3 then s else a) = s2 := ⟨_, rfl⟩
   rw [hs2] at hx hf
   have HX := az hx
   have HFF := az hf
   have HAA := az ha
   obtain ⟨ad, hA1, hxa⟩ := Kd.at_int (Kd.C_below HCC.out (below_of HB.out)) (i : Int) (by omega) hltz
   subst hA1
   simp only [rd, Int.toNat_natCast] at hxa
   rw [ha] at hxa
   clear hx hf HF ha
   go_upto_if 27 with fail
   have HS2 := az hs2
   clear hs2
   go_cut [7] from 22 to 83 (fun v7 wc => v7 = .int .i64 s2 ∧ wc = wr)
   case first =>
    by_cases h3 : a = 3
    ·
     have b3 : (a != 3) = false := bne_eq_false_iff_eq.mpr h3
     obtain rfl : s = s2 := by rw [← HS2.out, if_pos h3]
     go_wp2
     go_meet
     exact ⟨rfl, rfl⟩
    ·
     have b3 : (a != 3) = true := bne_iff_ne.mpr h3
     obtain rfl : a = s2 := by rw [← HS2.out, if_neg h3]
     go_wp2
     go_meet
     exact ⟨rfl, rfl⟩
   case rest =>
   obtain ⟨rfl, hwc⟩ := hcut
   subst hwc
   have hxx := HX.out
   unfold brX at hxx
   by_cases hlast : i + 1 = l0.length
   ·
    rw [if_pos hlast] at hxx
    have HXE := az (Option.some.inj hxx).symm
    clear hxx
    have hw1 : wrap64 ((l0.length : Int) - 1) = (i : Int) := by unfold wrap64; omega
    have hw2 : IntKind.i64.wrap ((l0.length : Int) - 1) = (i : Int) := by rw [i64_w]; exact hw1
    have hd : decide ((i : Int) = (i : Int)) = true := by simp
    clear hlast
    go_wp2_with (first | ((with_reducible refine gate_builtin (b := .append) (xs := #[.tmp 34, .tmp 35]) rfl ?_); at_builtin; go_must (refine appI (w0 := w3) (base := w3.heap.size) Try.underlying22 info3 rfl (.tmp 34) (.tmp 35) rfl _ out 2 rfl rfl HO.out HB.out HB.out.size ?aL ?_); (case aL => have := HLO.out; omega); intro v9 w9 ho9 hb9 hg9 hat9; have HO9 := az ho9; have HB9 := az hb9; clear ho9 hb9 hg9 hat9))
    go_roundg (cs.length - (i + 1))
    case measure => omega
    case rel => exact ⟨i + 1, s2, _, by go_num, rfl, by omega, Nat.le_refl _, ⟨HFF.out⟩, ⟨by rw [List.length_append, HLO.out]; rfl⟩, ⟨by have := HXE.out; rw [this]; exact HO9.out⟩, HB9⟩
   ·
    rw [if_neg hlast] at hxx
    have hw1 : wrap64 ((l0.length : Int) - 1) = (l0.length : Int) - 1 := by have := HL.out; unfold wrap64; omega
    have hw2 : IntKind.i64.wrap ((l0.length : Int) - 1) = (l0.length : Int) - 1 := by rw [i64_w]; exact hw1
    have hne : ((i : Int) == (l0.length : Int) - 1) = false := beq_eq_false_iff_ne.mpr (by omega)
    obtain ⟨m, hm⟩ : ∃ m : Nat, m = i + 1 := ⟨_, rfl⟩
    rw [← hm] at hxx
    have hw3 : wrap64 ((i : Int) + 1) = (m : Int) := by unfold wrap64; omega
    have hw4 : IntKind.i64.wrap ((i : Int) + 1) = (m : Int) := by rw [i64_w]; exact hw3
    have hi1 : (m : Int) < (js.length : Int) := by have := HL.out; omega
    have hi2 : (m : Int) < (l0.length : Int) := by have := HL.out; omega
    have hi3 : (m : Int) < (cs.length : Int) := by have := HL.out; omega
    have HM := az hm
    clear hm
    obtain ⟨ad2, hA2, hxj⟩ := Kd.at_bool (Kd.C_below HJJ.out HB.out) (m : Int) (by omega) hi1
    subst hA2
    obtain ⟨ad0, hA0, hxr⟩ := Kd.at_int (Kd.C_below HR3.out HB.out) (m : Int) (by omega) hi2
    subst hA0
    simp only [rd, rdOf, Int.toNat_natCast] at hxj hxr
    obtain ⟨j, hj⟩ : ∃ j, js.getD m false = j := ⟨_, rfl⟩
    obtain ⟨ru, hru⟩ : ∃ ru, l0.getD m 0 = ru := ⟨_, rfl⟩
    rw [hj] at hxj hxx
    rw [hru] at hxr hxx
    clear hj hru hlast
    cases j
    ·
     rw [if_neg (by decide)] at hxx
     replace hxx := Option.bind_eq_some_iff.mp hxx
     obtain ⟨tl, htl, hxx⟩ := hxx
     replace hxx := Option.bind_eq_some_iff.mp hxx
     obtain ⟨uu, huu, hxx⟩ := hxx
     rw [HAA.out] at huu hxx
     have HTL := az htl
     have HUU := az huu
     have HXE := az (Option.some.inj hxx).symm
     clear htl huu hxx
     obtain ⟨ad1, hA1, hxb⟩ := Kd.at_int (Kd.C_below HCC.out HB.out) (m : Int) (by omega) hi3
     simp only [rd, Int.toNat_natCast] at hxb
     obtain ⟨bb, hbb⟩ : ∃ bb, cs.getD m 0 = bb := ⟨_, rfl⟩
     rw [hbb] at hxb
     have HBB := az hbb
     obtain rfl : ad = ad1 := by injection hA1
     clear hA1 hbb
     have HXB := az hxb
     clear hxb
     have HXE2 := az (show x = (if tl = 7 ∧ uu = false then 0 else placeV a bb s2) by rw [HXE.out, HM.out, ← HBB.out, HM.out])
     clear HXE
     go_upto_region 11 with fail
     go_cut [55] from 22 to 83 (fun v55 wd => v55 = .bool (decide (tl = 7) && !uu) ∧ Aside0 (Below wc.heap.size wc wd))
     case first =>
      by_cases h7 : tl = 7
      ·
       have b7 : (tl == 7) = true := beq_iff_eq.mpr h7
       have d7 : decide (tl = 7) = true := decide_eq_true h7
       clear h7
       go_wp2_with (first
        | (go_at_call 57; go_must (refine (impl_RuneLine.calls k ru tl _ HTL.out).mono ?_); rintro e w4 ⟨rfl, hb4⟩; have HB4 := az hb4; clear hb4)
        | (go_at_call 58; go_must (refine (impl_afterSpace.calls k a uu _ HUU.out).mono ?_); rintro e w5 ⟨rfl, hb5⟩; have HB5 := az hb5; clear hb5))
       go_meet
       exact ⟨by rw [d7]; first | done | rfl, ⟨below_then HB4.out HB4.out.size HB5.out⟩⟩
      ·
       have b7 : (tl == 7) = false := beq_eq_false_iff_ne.mpr h7
       have d7 : decide (tl = 7) = false := decide_eq_false h7
       clear h7
       go_wp2_with (first
        | (go_at_call 57; go_must (refine (impl_RuneLine.calls k ru tl _ HTL.out).mono ?_); rintro e w4 ⟨rfl, hb4⟩; have HB4 := az hb4; clear hb4))
       go_meet
       exact ⟨by rw [d7]; first | done | rfl, HB4⟩
     case rest =>
     obtain ⟨rfl, HBD⟩ := hcut
     have HO2 := az (Kd.R_below HO.out HBD.out)
     have HB2 := az (below_then HB.out HB.out.size HBD.out)
     have HL9 := az hlt
     cases vd : (decide (tl = 7) && !uu)
     case true =>
      have HXE3 := az (show x = 0 by rw [HXE2.out, if_pos (by simpa using vd)])
      go_wp2_with (first | ((with_reducible refine gate_builtin (b := .append) (xs := #[.tmp 56, .tmp 57]) rfl ?_); at_builtin; go_must (refine appI (w0 := w3) (base := w3.heap.size) Try.underlying22 info3 rfl (.tmp 56) (.tmp 57) rfl _ out 0 rfl rfl HO2.out HB2.out HB2.out.size ?aL ?_); (case aL => have := HLO.out; omega); intro v9 w9 ho9 hb9 hg9 hat9; have HO9 := az ho9; have HB9 := az hb9; clear ho9 hb9 hg9 hat9))
      go_roundg (cs.length - (i + 1))
      case measure => omega
      case rel => exact ⟨m, s2, _, by first | rfl | go_num, rfl, by have := HM.out; omega, by have := HM.out; omega, ⟨by rw [HM.out]; exact HFF.out⟩, ⟨by rw [List.length_append, HLO.out, HM.out]; rfl⟩, ⟨by have := HXE3.out; rw [this]; exact HO9.out⟩, HB9⟩
     case false =>
     have HXE4 := az (show x = placeV a bb s2 by rw [HXE2.out, if_neg (by simpa using vd)])
     go_wp2
     go_loopg [6, 61] 10 (fun gq s6 s61 wq => ∃ q : Nat, s61 = .int .i64 q ∧ q < 10 ∧ 10 - q ≤ gq ∧ Aside0 (placeV a bb s2 = placeR a bb s2 (10 - q) q) ∧ Aside0 (Below wc.heap.size wc wq) ∧ Aside0 (Kd.R (Kd.int .i64) 3 wq w3.heap.size (fun _ => True) s6 out))
     case atStart => exact ⟨0, rfl, by decide, by decide, ⟨rfl⟩, ⟨Below.refl _ _⟩, HO2⟩
     case round =>
      obtain ⟨q, rfl, hq, hgq, HP, HBq, HOq⟩ := hrel
      obtain ⟨vr, hvr, hra⟩ := ((HRU.out.below HB2.out).below HBq.out).2 q hq
      obtain ⟨lb, rfl, hcall⟩ := rule_calls hra a bb s2
      have HCALL := az hcall
      have hqz : (q : Int) < 10 := by omega
      have hq0 : (0 : Int) ≤ (q : Int) := by omega
      have hxb := ((HBq.out.cell (World.block_lt_of_cell? _ _ ((HBD.out.cell (World.block_lt_of_cell? _ _ HXB.out)).trans HXB.out))).trans ((HBD.out.cell (World.block_lt_of_cell? _ _ HXB.out)).trans HXB.out))
      clear hra hcall
      have eg := eg_of 72 Try.func72 (by kernel_rfl) rfl
      have hu := Try.underlying72
      cases hv : isV a bb s2 q
      case true =>
       have HXE5 := az (show x = ansV q by rw [HXE4.out, HP.out, show 10 - q = (10 - (q + 1)) + 1 by omega, place_at _ _ hv])
       rw [hv] at HCALL
       go_wp2_with (first | (go_at_call 72; go_must (refine (HCALL.out).mono ?_); rintro e w6 ⟨rfl, hb6⟩; have HB6 := az (below_then HBq.out HBq.out.size hb6); have HO6 := az (Kd.R_below HOq.out hb6); have HB7 := az (below_then (below_then HB2.out HB2.out.size HBq.out) (below_then HB2.out HB2.out.size HBq.out).size hb6); clear hb6) | ((with_reducible refine gate_builtin (b := .append) (xs := #[.tmp 79, .tmp 81]) rfl ?_); at_builtin; go_must (refine appI (w0 := w3) (base := w3.heap.size) Try.underlying22 info3 rfl (.tmp 79) (.tmp 81) rfl _ out (ansV q) rfl rfl HO6.out HB7.out HB7.out.size ?aL ?_); (case aL => have := HLO.out; omega); intro v9 w9 ho9 hb9 hg9 hat9; have HO9 := az ho9; have HB9 := az hb9; clear ho9 hb9 hg9 hat9))
       go_roundg (cs.length - (i + 1))
       case measure => have := HL9.out; omega
       case rel => exact ⟨m, s2, _, by first | rfl | go_num, rfl, by have := HM.out; omega, by have := HM.out; omega, ⟨by rw [HM.out]; exact HFF.out⟩, ⟨by rw [List.length_append, HLO.out, HM.out]; rfl⟩, ⟨by have := HXE5.out; rw [this]; exact HO9.out⟩, HB9⟩
      case false =>
       have HP2 := az (show placeV a bb s2 = placeR a bb s2 (10 - (q + 1)) (q + 1) by rw [HP.out, show 10 - q = (10 - (q + 1)) + 1 by omega, place_on _ _ hv])
       have hq9 : q ≠ 9 := by rintro rfl; exact absurd hv (show ¬ (true = false) by decide)
       rw [hv] at HCALL
       go_wp2_with (first | (go_at_call 72; go_must (refine (HCALL.out).mono ?_); rintro e w6 ⟨rfl, hb6⟩; have HB6 := az (below_then HBq.out HBq.out.size hb6); have HO6 := az (Kd.R_below HOq.out hb6); have HB7 := az (below_then (below_then HB2.out HB2.out.size HBq.out) (below_then HB2.out HB2.out.size HBq.out).size hb6); clear hb6))
       go_roundg (10 - (q + 1))
       case measure => omega
       case rel => exact ⟨q + 1, by go_num, by omega, by omega, HP2, HB6, HO6⟩
    ·
     rw [if_pos rfl] at hxx
     have HXE := az (Option.some.inj hxx).symm
     clear hxx
     go_wp2_with (first | ((with_reducible refine gate_builtin (b := .append) (xs := #[.tmp 56, .tmp 57]) rfl ?_); at_builtin; go_must (refine appI (w0 := w3) (base := w3.heap.size) Try.underlying22 info3 rfl (.tmp 56) (.tmp 57) rfl _ out 0 rfl rfl HO.out HB.out HB.out.size ?aL ?_); (case aL => have := HLO.out; omega); intro v9 w9 ho9 hb9 hg9 hat9; have HO9 := az ho9; have HB9 := az hb9; clear ho9 hb9 hg9 hat9))
     go_roundg (cs.length - (i + 1))
     case measure => omega
     case rel => exact ⟨m, s2, _, by first | rfl | go_num, rfl, by have := HM.out; omega, by have := HM.out; omega, ⟨by rw [HM.out]; exact HFF.out⟩, ⟨by rw [List.length_append, HLO.out, HM.out]; rfl⟩, ⟨by have := HXE.out; rw [this]; exact HO9.out⟩, HB9⟩
  ·
   have hltz : ¬ (i : Int) < (cs.length : Int) := by omega
   obtain rfl : i = cs.length := by omega
   have hf := HF.out
   rw [Nat.sub_self, brL] at hf
   obtain rfl := Option.some.inj hf
   clear hf HF
   go_wp2
   go_ret
   exact ⟨_, rfl, Kd.R_lower HO.out HB3.out.size, below_then HB3.out HB3.out.size HB.out⟩
def slices_Index_int_int.l0 : Nat → List Int → Int → Int → Int → Option (Int)
 | 0, _, _, _, _ => none
 | k + 1, x0, x1, x7, x8 => if x8 < x7 then (if 0 ≤ x8 then (if x8 < (x0.length : Int) then (if x1 = (rd x0 x8) then (some x8) else (slices_Index_int_int.l0 k x0 x1 x7 (wrap64 (x8 + 1)))) else (none)) else (none)) else (some (-1))
def slices_Index_int_int.f (k : Nat) (l0 : List Int) (a1 : Int) : Option (Int) := slices_Index_int_int.l0 k l0 a1 (l0.length : Int) 0
theorem slices_Index_int_int.mono_l : ∀ k, (∀ y0 y1 y2 y3, LeO (slices_Index_int_int.l0 k y0 y1 y2 y3) (slices_Index_int_int.l0 (k + 1) y0 y1 y2 y3))
 | 0 => fun _ _ _ _ r h => by simp [slices_Index_int_int.l0] at h
 | k + 1 => by
  have ih0 := slices_Index_int_int.mono_l k
  ·
   intro y0 y1 y2 y3; unfold slices_Index_int_int.l0
   repeat' first
   | (with_reducible exact ih0 _ _ _ _)
   | (with_reducible exact LeO.refl _)
   | (with_reducible exact LeO.none _)
   | (with_reducible refine LeO.ite ?_ ?_)
   | (with_reducible refine LeO.bind ?_ (fun _ => ?_))
   | exact ih0 _ _ _ _
   | exact LeO.none _
   | refine LeO.ite ?_ ?_
   | refine LeO.bind ?_ (fun _ => ?_)
theorem slices_Index_int_int.mono : ∀ a0 a1 k, LeO (slices_Index_int_int.f k a0 a1) (slices_Index_int_int.f (k + 1) a0 a1) := by
 intro a0 a1 k; have ih0 := slices_Index_int_int.mono_l k; unfold slices_Index_int_int.f
 repeat' first
   | (with_reducible exact ih0 _ _ _ _)
   | (with_reducible exact LeO.refl _)
   | (with_reducible exact LeO.none _)
   | (with_reducible refine LeO.ite ?_ ?_)
   | (with_reducible refine LeO.bind ?_ (fun _ => ?_))
   | exact ih0 _ _ _ _
   | exact LeO.none _
   | refine LeO.ite ?_ ?_
   | refine LeO.bind ?_ (fun _ => ?_)
theorem slices_Index_int_int.calls (k : Nat) (A0 : Option Addr) (c0 : Nat) (l0 : List Int) (a1 : Int) (r : Int) (w : World) (hr0 : Kd.C (Kd.int .i64) w A0 l0.length l0) (hc0 : l0.length ≤ c0) (h : slices_Index_int_int.f k l0 a1 = some r) :
  Calls Try.prog 34 #[.slice A0 l0.length c0, .int .i64 a1] w fun e w' => e = .returned (.int .i64 r) ∧ Drawn0 w w' := by
 have HR0 := az hr0; have HC0 := az hc0; clear hr0 hc0; have H : (slices_Index_int_int.l0 k l0 a1 (l0.length : Int) 0) = some r := h; clear h; have H' := az H; clear H; go_enter Try.func34, Try.ntmps34; go_wp2; go_loopg [8] k (fun kq v8 w' => ∃ (x8_1 : Int), v8 = .int .i64 x8_1 ∧ Aside0 (slices_Index_int_int.l0 kq l0 a1 (l0.length : Int) x8_1 = some r) ∧ Aside0 (kq ≤ k) ∧ Drawn0 w w')
 case atStart => exact ⟨(0), (by first | rfl | (simp; done) | (simp [*]; done)), H', ⟨Nat.le_refl _⟩, by repeat (first | exact Drawn0.refl _ | apply Drawn0.step)⟩
 case round =>
  clear H'; (try clear p2); obtain ⟨x8_1, rfl, HA, HK1, ⟨m1, rfl⟩⟩ := hrel
  cases gk with
  | zero => exact absurd HA.out (by simp [slices_Index_int_int.l0])
  | succ k1 =>
   have H := HA.out; clear HA; simp only [slices_Index_int_int.l0] at H; by_cases c3 : x8_1 < (l0.length : Int)
   ·
    rw [if_pos c3] at H; have c3b0 : decide (x8_1 < (l0.length : Int)) = true := decide_eq_true c3; clear c3; by_cases c4 : 0 ≤ x8_1
    ·
     rw [if_pos c4] at H; have c4b0 : decide (0 ≤ x8_1) = true := decide_eq_true c4; clear c4; by_cases c5 : x8_1 < (l0.length : Int)
     ·
      rw [if_pos c5] at H; have c5b0 : decide (x8_1 < (l0.length : Int)) = true := decide_eq_true c5; clear c5; by_cases c6 : a1 = (rd l0 x8_1)
      ·
       rw [if_pos c6] at H; have c6b0 : (a1 == (rd l0 x8_1)) = true := beq_iff_eq.mpr c6; have c6b1 : (a1 != (rd l0 x8_1)) = false := bne_eq_false_iff_eq.mpr c6; clear c6; obtain rfl := Option.some.inj H; have p370 : 0 ≤ (x8_1 : Int) := of_decide_eq_true (by assumption); have q370 : x8_1 < (l0.length : Int) := of_decide_eq_true (by assumption); obtain ⟨ad370, e370, hx370_0⟩ := Kd.at_int HR0.out x8_1 p370 q370
       cases e370
       replace p370 := eq_true p370; replace q370 := eq_true q370; go_wp2; go_ret; exact ⟨by first | rfl | (simp; done) | (simp [*]; done), by repeat (first | exact Drawn0.refl _ | apply Drawn0.step)⟩
      ·
       rw [if_neg c6] at H; have c6b0 : (a1 == (rd l0 x8_1)) = false := beq_eq_false_iff_ne.mpr c6; have c6b1 : (a1 != (rd l0 x8_1)) = true := bne_iff_ne.mpr c6; have H' := az H; clear H; have p370 : 0 ≤ (x8_1 : Int) := of_decide_eq_true (by assumption); have q370 : x8_1 < (l0.length : Int) := of_decide_eq_true (by assumption); obtain ⟨ad370, e370, hx370_0⟩ := Kd.at_int HR0.out x8_1 p370 q370
       cases e370
       replace p370 := eq_true p370; replace q370 := eq_true q370; go_wp2; go_roundg k1
       case measure => have := HK1.out; omega
       case rel => exact ⟨(wrap64 (x8_1 + 1)), (by first | rfl | (simp; done) | (simp [*]; done)), H', ⟨by have := HK1.out; omega⟩, by repeat (first | exact Drawn0.refl _ | apply Drawn0.step)⟩
     ·
      rw [if_neg c5] at H; exact absurd H (by simp)
    ·
     rw [if_neg c4] at H; exact absurd H (by simp)
   ·
    rw [if_neg c3] at H; have c3b0 : decide (x8_1 < (l0.length : Int)) = false := decide_eq_false c3; clear c3; obtain rfl := Option.some.inj H; go_wp2; go_ret; exact ⟨by first | rfl | (simp; done) | (simp [*]; done), by repeat (first | exact Drawn0.refl _ | apply Drawn0.step)⟩
def impl_body.l0 : Nat → List Int → Int → Int → Option (Int)
 | 0, _, _, _ => none
 | k + 1, x0, x1, x2 => if x2 > x1 then (if 0 ≤ (wrap64 (x2 - 1)) then (if (wrap64 (x2 - 1)) < (x0.length : Int) then (if (rd x0 (wrap64 (x2 - 1))) = 32 then (impl_body.l0 k x0 x1 (wrap64 (x2 - 1))) else (if (rd x0 (wrap64 (x2 - 1))) = 10 then (impl_body.l0 k x0 x1 (wrap64 (x2 - 1))) else ((impl_RuneWide.f k (rd x0 (wrap64 (x2 - 1)))).bind fun t374 => (if t374 = 0 then (impl_body.l0 k x0 x1 (wrap64 (x2 - 1))) else (some x2))))) else (none)) else (none)) else (some x2)
def impl_body.f (k : Nat) (l0 : List Int) (a1 : Int) (a2 : Int) : Option (Int) := impl_body.l0 k l0 a1 a2
theorem impl_body.mono_l : ∀ k, (∀ y0 y1 y2, LeO (impl_body.l0 k y0 y1 y2) (impl_body.l0 (k + 1) y0 y1 y2))
 | 0 => fun _ _ _ r h => by simp [impl_body.l0] at h
 | k + 1 => by
  have ih0 := impl_body.mono_l k
  ·
   intro y0 y1 y2; unfold impl_body.l0
   repeat' first
   | (with_reducible exact ih0 _ _ _)
   | (with_reducible exact impl_RuneWide.mono _ _)
   | (with_reducible exact LeO.refl _)
   | (with_reducible exact LeO.none _)
   | (with_reducible refine LeO.ite ?_ ?_)
   | (with_reducible refine LeO.bind ?_ (fun _ => ?_))
   | exact ih0 _ _ _
   | exact impl_RuneWide.mono _ _
   | exact LeO.none _
   | refine LeO.ite ?_ ?_
   | refine LeO.bind ?_ (fun _ => ?_)
theorem impl_body.mono : ∀ a0 a1 a2 k, LeO (impl_body.f k a0 a1 a2) (impl_body.f (k + 1) a0 a1 a2) := by
 intro a0 a1 a2 k; have ih0 := impl_body.mono_l k; unfold impl_body.f
 repeat' first
   | (with_reducible exact ih0 _ _ _)
   | (with_reducible exact impl_RuneWide.mono _ _)
   | (with_reducible exact LeO.refl _)
   | (with_reducible exact LeO.none _)
   | (with_reducible refine LeO.ite ?_ ?_)
   | (with_reducible refine LeO.bind ?_ (fun _ => ?_))
   | exact ih0 _ _ _
   | exact impl_RuneWide.mono _ _
   | exact LeO.none _
   | refine LeO.ite ?_ ?_
   | refine LeO.bind ?_ (fun _ => ?_)
theorem impl_body.calls (k : Nat) (A0 : Option Addr) (c0 : Nat) (l0 : List Int) (a1 : Int) (a2 : Int) (r : Int) (w : World) (hr0 : Kd.C (Kd.int .i64) w A0 l0.length l0) (hc0 : l0.length ≤ c0) (h : impl_body.f k l0 a1 a2 = some r) :
  Calls Try.prog 59 #[.slice A0 l0.length c0, .int .i64 a1, .int .i64 a2] w fun e w' => e = .returned (.int .i64 r) ∧ Below w.heap.size w w' := by
 have HR0 := az hr0; have HC0 := az hc0; clear hr0 hc0; have HB := az (Below.refl w.heap.size w); have H : (impl_body.l0 k l0 a1 a2) = some r := h; clear h; have H' := az H; clear H; go_enter Try.func59, Try.ntmps59; go_wp2; go_loopg [2] k (fun kq v2 w' => ∃ (x2_1 : Int), v2 = .int .i64 x2_1 ∧ Aside0 (impl_body.l0 kq l0 a1 x2_1 = some r) ∧ Aside0 (kq ≤ k) ∧ Aside0 (Below w.heap.size w w'))
 case atStart => exact ⟨(a2), (by first | rfl | (simp; done) | (simp [*]; done)), H', ⟨Nat.le_refl _⟩, ⟨by repeat (first | (with_reducible first | exact HB.out | apply below_alloc | apply pw_below_drewN | apply below_drew1) | exact HB.out)⟩⟩
 case round =>
  clear H'; (try clear p2); obtain ⟨x2_1, rfl, HA, HK1, HB⟩ := hrel
  cases gk with
  | zero => exact absurd HA.out (by simp [impl_body.l0])
  | succ k1 =>
   have H := HA.out; clear HA; simp only [impl_body.l0] at H; by_cases c4 : x2_1 > a1
   ·
    rw [if_pos c4] at H; have c4b0 : decide (a1 < x2_1) = true := decide_eq_true c4; clear c4; obtain ⟨ji5, hji5⟩ : ∃ j_ : Int, (wrap64 (x2_1 - 1)) = j_ := ⟨_, rfl⟩; replace H : (if 0 ≤ (ji5) then (if (ji5) < (l0.length : Int) then (if (rd l0 (ji5)) = 32 then (impl_body.l0 k1 l0 a1 ji5) else (if (rd l0 (ji5)) = 10 then (impl_body.l0 k1 l0 a1 ji5) else ((impl_RuneWide.f k1 (rd l0 (ji5))).bind fun t374 => (if t374 = 0 then (impl_body.l0 k1 l0 a1 ji5) else (some x2_1))))) else (none)) else (none)) = some r := by first | (rw [hji5] at H; exact H) | (simp only [hji5] at H ⊢; exact H)
    have hji5w : (IntKind.i64.wrap (x2_1 - 1)) = ji5 := (i64_w _).trans hji5; by_cases c6 : 0 ≤ (ji5)
    ·
     rw [if_pos c6] at H; have c6b0 : decide (0 ≤ (ji5)) = true := decide_eq_true c6; clear c6; by_cases c7 : (ji5) < (l0.length : Int)
     ·
      rw [if_pos c7] at H; have c7b0 : decide ((ji5) < (l0.length : Int)) = true := decide_eq_true c7; clear c7; by_cases c8 : (rd l0 (ji5)) = 32
      ·
       rw [if_pos c8] at H; have c8b0 : ((rd l0 (ji5)) == 32) = true := beq_iff_eq.mpr c8; have c8b1 : ((rd l0 (ji5)) != 32) = false := bne_eq_false_iff_eq.mpr c8; clear c8; have H' := az H; clear H; have p371 : 0 ≤ ((ji5) : Int) := of_decide_eq_true (by assumption); have q371 : (ji5) < (l0.length : Int) := of_decide_eq_true (by assumption); obtain ⟨ad371, e371, hx371_0⟩ := Kd.at_int HR0.out (ji5) p371 q371
       cases e371
       replace hx371_0 := (HB.out.cell (World.block_lt_of_cell? w _ hx371_0)).trans hx371_0; replace p371 := eq_true p371; replace q371 := eq_true q371; go_wp2; go_roundg k1
       case measure => have := HK1.out; omega
       case rel => exact ⟨(ji5), (by first | rfl | (simp; done) | (simp only [← hji5] <;> (first | rfl | simp)) | (simp [*]; done)), H', ⟨by have := HK1.out; omega⟩, ⟨by repeat (first | (with_reducible first | exact HB.out | apply below_alloc | apply pw_below_drewN | apply below_drew1) | exact HB.out)⟩⟩
      ·
       rw [if_neg c8] at H; have c8b0 : ((rd l0 (ji5)) == 32) = false := beq_eq_false_iff_ne.mpr c8; have c8b1 : ((rd l0 (ji5)) != 32) = true := bne_iff_ne.mpr c8; by_cases c9 : (rd l0 (ji5)) = 10
       ·
        rw [if_pos c9] at H; have c9b0 : ((rd l0 (ji5)) == 10) = true := beq_iff_eq.mpr c9; have c9b1 : ((rd l0 (ji5)) != 10) = false := bne_eq_false_iff_eq.mpr c9; clear c9; have H' := az H; clear H; have p371 : 0 ≤ ((ji5) : Int) := of_decide_eq_true (by assumption); have q371 : (ji5) < (l0.length : Int) := of_decide_eq_true (by assumption); obtain ⟨ad371, e371, hx371_0⟩ := Kd.at_int HR0.out (ji5) p371 q371
        cases e371
        replace hx371_0 := (HB.out.cell (World.block_lt_of_cell? w _ hx371_0)).trans hx371_0; replace p371 := eq_true p371; replace q371 := eq_true q371; have p372 : 0 ≤ ((ji5) : Int) := of_decide_eq_true (by assumption); have q372 : (ji5) < (l0.length : Int) := of_decide_eq_true (by assumption); obtain ⟨ad372, e372, hx372_0⟩ := Kd.at_int HR0.out (ji5) p372 q372; obtain rfl : ad371 = ad372 := (by injection e372); replace hx372_0 := (HB.out.cell (World.block_lt_of_cell? w _ hx372_0)).trans hx372_0; replace p372 := eq_true p372; replace q372 := eq_true q372; go_wp2; go_roundg k1
        case measure => have := HK1.out; omega
        case rel => exact ⟨(ji5), (by first | rfl | (simp; done) | (simp only [← hji5] <;> (first | rfl | simp)) | (simp [*]; done)), H', ⟨by have := HK1.out; omega⟩, ⟨by repeat (first | (with_reducible first | exact HB.out | apply below_alloc | apply pw_below_drewN | apply below_drew1) | exact HB.out)⟩⟩
       ·
        rw [if_neg c9] at H; have c9b0 : ((rd l0 (ji5)) == 10) = false := beq_eq_false_iff_ne.mpr c9; have c9b1 : ((rd l0 (ji5)) != 10) = true := bne_iff_ne.mpr c9; replace H := Option.bind_eq_some_iff.mp H; obtain ⟨t374, A100, H⟩ := H; replace H : (if t374 = 0 then (impl_body.l0 k1 l0 a1 ji5) else (some x2_1)) = some r := H; have A10 := az A100; clear A100; by_cases c11 : t374 = 0
        ·
         rw [if_pos c11] at H; have c11b0 : (t374 == 0) = true := beq_iff_eq.mpr c11; have c11b1 : (t374 != 0) = false := bne_eq_false_iff_eq.mpr c11; clear c11; have H' := az H; clear H; have p371 : 0 ≤ ((ji5) : Int) := of_decide_eq_true (by assumption); have q371 : (ji5) < (l0.length : Int) := of_decide_eq_true (by assumption); obtain ⟨ad371, e371, hx371_0⟩ := Kd.at_int HR0.out (ji5) p371 q371
         cases e371
         replace hx371_0 := (HB.out.cell (World.block_lt_of_cell? w _ hx371_0)).trans hx371_0; replace p371 := eq_true p371; replace q371 := eq_true q371; have p372 : 0 ≤ ((ji5) : Int) := of_decide_eq_true (by assumption); have q372 : (ji5) < (l0.length : Int) := of_decide_eq_true (by assumption); obtain ⟨ad372, e372, hx372_0⟩ := Kd.at_int HR0.out (ji5) p372 q372; obtain rfl : ad371 = ad372 := (by injection e372); replace hx372_0 := (HB.out.cell (World.block_lt_of_cell? w _ hx372_0)).trans hx372_0; replace p372 := eq_true p372; replace q372 := eq_true q372; have p373 : 0 ≤ ((ji5) : Int) := of_decide_eq_true (by assumption); have q373 : (ji5) < (l0.length : Int) := of_decide_eq_true (by assumption); obtain ⟨ad373, e373, hx373_0⟩ := Kd.at_int HR0.out (ji5) p373 q373; obtain rfl : ad371 = ad373 := (by injection e373); replace hx373_0 := (HB.out.cell (World.block_lt_of_cell? w _ hx373_0)).trans hx373_0; replace p373 := eq_true p373; replace q373 := eq_true q373; go_wp2_with (first | (go_at_call 67; (with_reducible refine (impl_RuneWide.calls k1 (rd l0 (ji5)) t374 _ A10.out).mono ?_); rintro e w12 ⟨rfl, hb⟩; have n0_ := az (below_step (by repeat (first | (with_reducible first | exact HB.out | apply below_alloc | apply pw_below_drewN | apply below_drew1) | exact HB.out)) hb); clear HB; have HB := n0_; clear n0_; (try clear hb); (try clear hb2); (try clear hk); (try clear hi))); go_roundg k1
         case measure => have := HK1.out; omega
         case rel => exact ⟨(ji5), (by first | rfl | (simp; done) | (simp only [← hji5] <;> (first | rfl | simp)) | (simp [*]; done)), H', ⟨by have := HK1.out; omega⟩, ⟨by repeat (first | (with_reducible first | exact HB.out | apply below_alloc | apply pw_below_drewN | apply below_drew1) | exact HB.out)⟩⟩
        ·
         rw [if_neg c11] at H; have c11b0 : (t374 == 0) = false := beq_eq_false_iff_ne.mpr c11; have c11b1 : (t374 != 0) = true := bne_iff_ne.mpr c11; obtain rfl := Option.some.inj H; have p371 : 0 ≤ ((ji5) : Int) := of_decide_eq_true (by assumption); have q371 : (ji5) < (l0.length : Int) := of_decide_eq_true (by assumption); obtain ⟨ad371, e371, hx371_0⟩ := Kd.at_int HR0.out (ji5) p371 q371
         cases e371
         replace hx371_0 := (HB.out.cell (World.block_lt_of_cell? w _ hx371_0)).trans hx371_0; replace p371 := eq_true p371; replace q371 := eq_true q371; have p372 : 0 ≤ ((ji5) : Int) := of_decide_eq_true (by assumption); have q372 : (ji5) < (l0.length : Int) := of_decide_eq_true (by assumption); obtain ⟨ad372, e372, hx372_0⟩ := Kd.at_int HR0.out (ji5) p372 q372; obtain rfl : ad371 = ad372 := (by injection e372); replace hx372_0 := (HB.out.cell (World.block_lt_of_cell? w _ hx372_0)).trans hx372_0; replace p372 := eq_true p372; replace q372 := eq_true q372; have p373 : 0 ≤ ((ji5) : Int) := of_decide_eq_true (by assumption); have q373 : (ji5) < (l0.length : Int) := of_decide_eq_true (by assumption); obtain ⟨ad373, e373, hx373_0⟩ := Kd.at_int HR0.out (ji5) p373 q373; obtain rfl : ad371 = ad373 := (by injection e373); replace hx373_0 := (HB.out.cell (World.block_lt_of_cell? w _ hx373_0)).trans hx373_0; replace p373 := eq_true p373; replace q373 := eq_true q373; go_wp2_with (first | (go_at_call 67; (with_reducible refine (impl_RuneWide.calls k1 (rd l0 (ji5)) t374 _ A10.out).mono ?_); rintro e w13 ⟨rfl, hb⟩; have n0_ := az (below_step (by repeat (first | (with_reducible first | exact HB.out | apply below_alloc | apply pw_below_drewN | apply below_drew1) | exact HB.out)) hb); clear HB; have HB := n0_; clear n0_; (try clear hb); (try clear hb2); (try clear hk); (try clear hi))); go_ret; exact ⟨by first | rfl | (simp [errW_none, errW_some] <;> rfl) | (simp only [← hji5]; first | rfl | (simp [errW_none, errW_some] <;> rfl)) | (simp [*, errW_none, errW_some] <;> rfl), by repeat (first | (with_reducible first | exact HB.out | apply below_alloc | apply pw_below_drewN | apply below_drew1) | exact HB.out)⟩
     ·
      rw [if_neg c7] at H; exact absurd H (by simp)
    ·
     rw [if_neg c6] at H; exact absurd H (by simp)
   ·
    rw [if_neg c4] at H; have c4b0 : decide (a1 < x2_1) = false := decide_eq_false c4; clear c4; obtain rfl := Option.some.inj H; go_wp2; go_ret; exact ⟨by first | rfl | (simp [errW_none, errW_some] <;> rfl) | (simp [*, errW_none, errW_some] <;> rfl), by repeat (first | (with_reducible first | exact HB.out | apply below_alloc | apply pw_below_drewN | apply below_drew1) | exact HB.out)⟩
def sumW : List Int → Int → Int
 | [], a => a
 | x :: r, a => sumW r (wrap64 (a + x))
def impl_lineWide.f (k : Nat) (l0 l1 : List Int) (a2 a3 : Int) : Option Int := (impl_body.f k l0 a2 a3).bind fun b => if 0 ≤ a2 ∧ a2 ≤ b ∧ b ≤ (l1.length : Int) then some (sumW ((l1.take b.toNat).drop a2.toNat) 0) else none
theorem impl_lineWide.mono : ∀ a0 a1 a2 a3 k, LeO (impl_lineWide.f k a0 a1 a2 a3) (impl_lineWide.f (k + 1) a0 a1 a2 a3) := by
 intro a0 a1 a2 a3 k
 unfold impl_lineWide.f
 exact LeO.bind (impl_body.mono _ _ _ _) (fun b => LeO.refl _)
theorem cut_get {xs : List Int} {a b j : Nat} (h : a + j < b) (hb : b ≤ xs.length) : ((xs.take b).drop a).getD j 0 = xs.getD (a + j) 0 := by
 simp only [List.getD_eq_getElem?_getD, List.getElem?_drop]
 rw [List.getElem?_take_of_lt h]
theorem impl_lineWide.calls (k : Nat) (A0 : Option Addr) (c0 : Nat) (l0 : List Int) (A1 : Option Addr) (c1 : Nat) (l1 : List Int) (a2 a3 : Int) (r : Int) (w : World) (hr0 : Kd.C (Kd.int .i64) w A0 l0.length l0) (hc0 : l0.length ≤ c0) (hr1 : Kd.C (Kd.int .i64) w A1 l1.length l1) (hc1 : l1.length ≤ c1) (h : impl_lineWide.f k l0 l1 a2 a3 = some r) :
  Calls Try.prog 35 #[.slice A0 l0.length c0, .slice A1 l1.length c1, .int .i64 a2, .int .i64 a3] w fun e w' => e = .returned (.int .i64 r) ∧ Below w.heap.size w w' := by
 have HR := az hr0
 have HC := az hc0
 have HR1 := az hr1
 have hmx := hr1.2.1
 have HMX := az hmx
 unfold impl_lineWide.f at h
 replace h := Option.bind_eq_some_iff.mp h
 obtain ⟨b, hb, h⟩ := h
 by_cases hab : 0 ≤ a2 ∧ a2 ≤ b ∧ b ≤ (l1.length : Int)
 case neg => rw [if_neg hab] at h; cases h
 case pos =>
 rw [if_pos hab] at h
 have HF := az (Option.some.inj h)
 have HBD := az hb
 obtain ⟨h1, h2, h3⟩ := hab
 obtain ⟨n, hn⟩ : ∃ n : Nat, b.toNat - a2.toNat = n := ⟨_, rfl⟩
 obtain ⟨na, rfl⟩ : ∃ na : Nat, a2 = na := ⟨a2.toNat, by omega⟩
 obtain ⟨nb, rfl⟩ : ∃ nb : Nat, b = nb := ⟨b.toNat, by omega⟩
 simp only [Int.toNat_natCast] at hn HF
 have hlen : ((l1.take nb).drop na).length = n := by simp; omega
 have hbc : (nb : Int) ≤ (c1 : Int) := by omega
 have hab2 : (na : Int) ≤ (nb : Int) := h2
 have hna0 : (0 : Int) ≤ (na : Int) := h1
 have HLEN := az hlen
 have HN := az hn
 have H3 := az h3
 clear hr0 hc0 hr1 h hb h1 h2 hlen hn hmx
 by_cases hz : na = nb
 ·
  subst hz
  have hr0 : r = 0 := by
   have := HF.out
   rw [List.drop_eq_nil_of_le (by simp; omega), sumW] at this
   exact this.symm
  subst hr0
  clear HF
  go_enter Try.func35, Try.ntmps35
  go_wp2_with (first
   | (go_at_call 59; go_must (refine (impl_body.calls k A0 c0 l0 (na : Int) a3 (na : Int) _ HR.out HC.out HBD.out).mono ?_); rintro e w1 ⟨rfl, hb1⟩; have HB1 := az hb1; clear hb1))
  all_goals
   go_loopg [9, 20] 0 (fun gg s9 s20 wr => s9 = .int .i64 0 ∧ s20 = .int .i64 0 ∧ Aside0 (Below w.heap.size w wr))
   case atStart => exact ⟨rfl, rfl, HB1⟩
   case round =>
    obtain ⟨rfl, rfl, HB⟩ := hrel
    go_wp2
    go_ret
    exact ⟨rfl, HB.out⟩
 ·
  have hlt0 : na < nb := by omega
  have hb9 : nb ≤ 9223372036854775807 := by have := H3.out; have := HMX.out; omega
  have hcn : ¬ c1 = na := by omega
  obtain ⟨ad1, hA1, _⟩ := Kd.at_int HR1.out 0 (by omega) (by have := H3.out; omega)
  subst hA1
  go_enter Try.func35, Try.ntmps35
  go_wp2_with (first
   | (go_at_call 59; go_must (refine (impl_body.calls k A0 c0 l0 (na : Int) a3 (nb : Int) _ HR.out HC.out HBD.out).mono ?_); rintro e w1 ⟨rfl, hb1⟩; have HB1 := az hb1; clear hb1))
  go_loopg [9, 20] (nb - na) (fun gg s9 s20 wr => ∃ (i : Nat) (s : Int), s20 = .int .i64 i ∧ s9 = .int .i64 s ∧ i ≤ nb - na ∧ nb - na - i ≤ gg ∧ Aside0 (sumW (((l1.take nb).drop na).drop i) s = r) ∧ Aside0 (Below w.heap.size w wr))
  case atStart => exact ⟨0, 0, rfl, rfl, Nat.zero_le _, by omega, HF, HB1⟩
  case round =>
   clear HF
   obtain ⟨i, s, rfl, rfl, hi, hg, HF, HB⟩ := hrel
   by_cases hlt : i < nb - na
   ·
    have HLT := az hlt
    have hltz : (i : Int) < ((nb - na : Nat) : Int) := by omega
    obtain ⟨ad, hA, hx⟩ := Kd.at_int (Kd.C_below HR1.out HB.out) ((na + i : Nat) : Int) (by omega) (by have := H3.out; omega)
    obtain rfl : ad1 = ad := by injection hA
    rw [Int.toNat_natCast, ← add_add] at hx
    have hx1 : rd l1 ((na + i : Nat) : Int) = l1.getD (na + i) 0 := by unfold rd; rw [Int.toNat_natCast]
    rw [hx1] at hx
    have hq := HF.out
    have hl1 : i < ((l1.take nb).drop na).length := by rw [HLEN.out, ← HN.out]; exact hlt
    rw [List.drop_eq_getElem_cons hl1, sumW] at hq
    have hx2 : ((l1.take nb).drop na)[i] = l1.getD (na + i) 0 := by
     rw [← cut_get (a := na) (b := nb) (j := i) (xs := l1) (by omega) (by have := H3.out; omega), List.getD_eq_getElem?_getD, List.getElem?_eq_getElem hl1, Option.getD_some]
    rw [hx2] at hq
    obtain ⟨x, hxx⟩ : ∃ x, l1.getD (na + i) 0 = x := ⟨_, rfl⟩
    rw [hxx] at hx hq
    have HQ := az hq
    clear hx1 hx2 hxx hq hl1 hA HF
    go_wp2
    go_roundg (nb - na - (i + 1))
    case measure => have := HLT.out; omega
    case rel => exact ⟨i + 1, _, by go_num, by first | rfl | (rw [i64_w]), HLT.out, Nat.le_refl _, HQ, HB⟩
   ·
    have hltz : ¬ (i : Int) < ((nb - na : Nat) : Int) := by omega
    obtain rfl : i = nb - na := by omega
    have hq := HF.out
    rw [List.drop_eq_nil_of_le (by rw [HLEN.out, ← HN.out]; exact Nat.le_refl _), sumW] at hq
    subst hq
    clear HF
    go_wp2
    go_ret
    exact ⟨rfl, HB.out⟩
theorem newFiller_calls (k : Nat) (A0 : Option Addr) (c0 : Nat) (rs : List Int) (A1 : Option Addr) (c1 : Nat) (sp : List S41) (wide : Int) (ws bs : List Int) (w : World) (hr0 : Kd.C (Kd.int .i64) w A0 rs.length rs) (hc0 : rs.length ≤ c0) (hr1 : Kd.C k41 w A1 sp.length sp) (hc1 : sp.length ≤ c1) (hw : impl_widesOf.f k rs sp = some ws) (hb : impl_breaks.f k rs = some bs) :
  Calls Try.prog 19 #[.slice A0 rs.length c0, .slice A1 sp.length c1, .int .i64 wide] w fun e w' => ∃ (gb : Nat) (A2 : Option Addr) (c2 : Nat) (A3 : Option Addr) (c3 : Nat), e = .returned (.pointer (some ⟨gb, 0, none⟩)) ∧ FlO 47 gb A0 c0 rs A2 c2 ws A3 c3 bs wide w' ∧ Below w.heap.size w w' := by
 have HR := az hr0
 have HC := az hc0
 have HR1 := az hr1
 have HC1 := az hc1
 have HW := az hw
 have HB := az hb
 clear hr0 hc0 hr1 hc1 hw hb
 go_enter Try.func19, Try.ntmps19
 go_wp2_with (first
  | (go_at_call 32; go_must (refine (impl_widesOf.calls k A0 c0 rs A1 c1 sp ws _ HR.out HC.out HR1.out HC1.out HW.out).mono ?_); rintro e w1 ⟨v1, rfl, ho1, hb1⟩; obtain ⟨A2, c2, e2⟩ := Kd.R_slice ho1; subst e2; have HO1 := az ho1; have HB1 := az hb1; clear ho1 hb1)
  | (go_at_call 33; go_must (refine (impl_breaks.calls k A0 c0 rs bs _ (Kd.C_below HR.out HB1.out) HC.out HB.out).mono ?_); rintro e w2 ⟨v2, rfl, ho2, hb2⟩; obtain ⟨A3, c3, e3⟩ := Kd.R_slice ho2; subst e3; have HO2 := az ho2; have HW2 := az (Kd.C_below (Kd.R_reads' HO1.out).2.2 hb2); have HB2 := az (below_then HB1.out HB1.out.size hb2); clear ho2 hb2))
 go_ret
 have hn := blk_new w2 (.cells #[.slice A0 rs.length c0, .slice A2 ws.length c2, .slice A3 bs.length c3, .int .i64 wide] 47)
 have ha : Below w2.heap.size w2 (w2.alloc (.cells #[.slice A0 rs.length c0, .slice A2 ws.length c2, .slice A3 bs.length c3, .int .i64 wide] 47)) := below_alloc (Below.refl _ _) _
 exact ⟨w2.heap.size, A2, c2, A3, c3, rfl, ⟨hn, Kd.C_below (Kd.C_below HR.out HB2.out) ha, HC.out, Kd.C_below HW2.out ha, (Kd.R_reads' HO1.out).2.1, Kd.C_below (Kd.R_reads' HO2.out).2.2 ha, (Kd.R_reads' HO2.out).2.1⟩, below_alloc HB2.out _⟩
theorem fitsI_calls (k : Nat) (gb : Nat) (A0 : Option Addr) (c0 : Nat) (rs : List Int) (A1 : Option Addr) (c1 : Nat) (ws : List Int) (A2 : Option Addr) (c2 : Nat) (bs : List Int) (wide from_ to_ x : Int) (w : World) (hf : FlO 47 gb A0 c0 rs A1 c1 ws A2 c2 bs wide w) (hx : impl_lineWide.f k rs ws from_ to_ = some x) :
  Calls Try.prog 21 #[.pointer (some ⟨gb, 0, none⟩), .int .i64 from_, .int .i64 to_] w fun e w' => e = .returned (.bool (decide (x ≤ wide))) ∧ Below w.heap.size w w' := by
 have hS := FlI.of (w0 := w) hf (Below.refl _ _)
 have HX := az hx
 unfold FlI at hS
 clear hf hx
 go_enter Try.func21, Try.ntmps21
 go_upto_region 1 with fail
 go_region_held3 (fun W => W.cell? ⟨gb, 0, none⟩ = some (.slice A0 rs.length c0) ∧ W.cell? ⟨gb, 1, none⟩ = some (.slice A1 ws.length c1) ∧ W.cell? ⟨gb, 2, none⟩ = some (.slice A2 bs.length c2) ∧ W.cell? ⟨gb, 3, none⟩ = some (.int .i64 wide) ∧ Aside0 (FlO 47 gb A0 c0 rs A1 c1 ws A2 c2 bs wide W ∧ Below w.heap.size w W)) (first | (with_reducible assumption) | (with_reducible refine FlI.below ?_ (by with_reducible assumption); with_reducible assumption) | (with_reducible exact FlI.drew (by with_reducible assumption))) (first
  | (go_at_call 35; refine (impl_lineWide.calls k A0 c0 rs A1 c1 ws from_ to_ x _ ?s1 ?s2 ?s3 ?s4 HX.out).mono ?_; (case s1 => exact (show FlI 47 gb A0 c0 rs A1 c1 ws A2 c2 bs wide w _ by with_reducible assumption).2.2.2.2.out.1.2.1); (case s2 => exact (show FlI 47 gb A0 c0 rs A1 c1 ws A2 c2 bs wide w _ by with_reducible assumption).2.2.2.2.out.1.2.2.1); (case s3 => exact (show FlI 47 gb A0 c0 rs A1 c1 ws A2 c2 bs wide w _ by with_reducible assumption).2.2.2.2.out.1.2.2.2.1); (case s4 => exact (show FlI 47 gb A0 c0 rs A1 c1 ws A2 c2 bs wide w _ by with_reducible assumption).2.2.2.2.out.1.2.2.2.2.1); rintro e w3 ⟨rfl, p⟩))
 all_goals
  go_wp2
  go_ret
  exact ⟨rfl, (show FlI 47 gb A0 c0 rs A1 c1 ws A2 c2 bs wide w _ by with_reducible assumption).2.2.2.2.out.2⟩
theorem mustI_calls (k : Nat) (gb : Nat) (A0 : Option Addr) (c0 : Nat) (rs : List Int) (A1 : Option Addr) (c1 : Nat) (ws : List Int) (A2 : Option Addr) (c2 : Nat) (bs : List Int) (wide : Int) (m : Nat) (x : Int) (w : World) (hf : FlO 47 gb A0 c0 rs A1 c1 ws A2 c2 bs wide w) (hm : m ≤ bs.length) (hn : bs.length ≤ 1000) (hx : slices_Index_int_int.f k (bs.drop m) 2 = some x) (hx0 : -1 ≤ x) (hx1 : x ≤ 1000) :
  Calls Try.prog 20 #[.pointer (some ⟨gb, 0, none⟩), .int .i64 m] w fun e w' => e = .returned (.int .i64 (m + x + 1)) ∧ Drawn0 w w' := by
 have q2 := (blk_cell hf.1 2).trans (show _ = some (Value.slice A2 bs.length c2) from rfl)
 have hC := hf.2.2.2.2.2.1
 have hcc := hf.2.2.2.2.2.2
 have HD := az (Kd.C_drop (m := m) (c := c2) hC hm hcc)
 have HX := az hx
 have hw1 : wrap64 ((m : Int) + x) = (m : Int) + x := by unfold wrap64; omega
 have hw2 : IntKind.i64.wrap ((m : Int) + x) = (m : Int) + x := by rw [i64_w]; exact hw1
 have hw3 : wrap64 ((m : Int) + x + 1) = (m : Int) + x + 1 := by unfold wrap64; omega
 have hw4 : IntKind.i64.wrap ((m : Int) + x + 1) = (m : Int) + x + 1 := by rw [i64_w]; exact hw3
 have hm0 : (0 : Int) ≤ (m : Int) := by omega
 have hm1 : (m : Int) ≤ (bs.length : Int) := by omega
 have hm2 : (bs.length : Int) ≤ (c2 : Int) := by omega
 clear hf hC hx
 by_cases hc : c2 = m
 ·
  subst hc
  rw [if_pos rfl] at HD
  have he : bs.drop c2 = [] := List.drop_eq_nil_of_le (by omega)
  rw [he] at HD HX
  clear he
  go_enter Try.func20, Try.ntmps20
  go_wp2_with (go_at_call 34; go_must (refine (slices_Index_int_int.calls k A2 0 [] 2 x _ HD.out (Nat.le_refl _) HX.out).mono ?_); rintro e w1 ⟨rfl, ⟨nd, rfl⟩⟩)
  go_ret
  exact ⟨rfl, ⟨⟨_, rfl⟩⟩⟩
 ·
  rw [if_neg hc, show (Kd.int .i64).sz = 1 from rfl, Nat.mul_one] at HD
  go_enter Try.func20, Try.ntmps20
  go_wp2_with (go_at_call 34; rw [show bs.length - m = (bs.drop m).length from (List.length_drop ..).symm]; go_must (refine (slices_Index_int_int.calls k _ _ (bs.drop m) 2 x _ HD.out (by simp; omega) HX.out).mono ?_); rintro e w1 ⟨rfl, ⟨nd, rfl⟩⟩)
  go_ret
  exact ⟨rfl, ⟨⟨_, rfl⟩⟩⟩
def fitsIL (k : Nat) (rs ws bs : List Int) (wide : Int) : List Int → Int → Option Bool
 | [], _ => some true
 | e :: r, fr => if 1 ≤ e ∧ e ≤ (bs.length : Int) ∧ 0 ≤ fr ∧ fr ≤ (bs.length : Int) then (if bs.getD (e - 1).toNat 0 = 0 then some false else (slices_Index_int_int.f k (bs.drop fr.toNat) 2).bind fun x => if -1 ≤ x ∧ x ≤ 1000 then (if fr + x + 1 < e then some false else (impl_lineWide.f k rs ws fr e).bind fun y => if y ≤ wide then fitsIL k rs ws bs wide r e else some false) else none) else none
def impl_FillFits.f (k : Nat) (l0 : List Int) (l1 : List S41) (a2 : Int) (l3 : List Int) : Option Bool := (impl_fillable.f k l0 l1 a2).bind fun a => if a = true then (impl_endsOk.f k l3 (l0.length : Int)).bind fun b => if b = true then (impl_widesOf.f k l0 l1).bind fun ws => (impl_breaks.f k l0).bind fun bs => if bs.length ≤ 1000 then fitsIL k l0 ws bs a2 l3 0 else none else some false else some false
theorem fitsIL_mono (k : Nat) (rs ws bs : List Int) (wide : Int) : ∀ (es : List Int) (fr : Int), LeO (fitsIL k rs ws bs wide es fr) (fitsIL (k + 1) rs ws bs wide es fr)
 | [], _ => LeO.refl _
 | e :: r, fr => by
  simp only [fitsIL]
  exact LeO.ite (LeO.ite (LeO.refl _) (LeO.bind (slices_Index_int_int.mono _ _ _) (fun x => LeO.ite (LeO.ite (LeO.refl _) (LeO.bind (impl_lineWide.mono _ _ _ _ _) (fun y => LeO.ite (fitsIL_mono k rs ws bs wide r e) (LeO.refl _)))) (LeO.refl _)))) (LeO.refl _)
theorem impl_FillFits.mono : ∀ a0 a1 a2 a3 k, LeO (impl_FillFits.f k a0 a1 a2 a3) (impl_FillFits.f (k + 1) a0 a1 a2 a3) := by
 intro a0 a1 a2 a3 k
 unfold impl_FillFits.f
 exact LeO.bind (impl_fillable.mono _ _ _ _) (fun a => LeO.ite (LeO.bind (impl_endsOk.mono _ _ _) (fun b => LeO.ite (LeO.bind (impl_widesOf.mono _ _ _) (fun ws => LeO.bind (impl_breaks.mono _ _) (fun bs => LeO.ite (fitsIL_mono _ _ _ _ _ _ _) (LeO.refl _)))) (LeO.refl _))) (LeO.refl _))
theorem impl_FillFits.calls (k : Nat) (A0 : Option Addr) (c0 : Nat) (l0 : List Int) (A1 : Option Addr) (c1 : Nat) (l1 : List S41) (a2 : Int) (A3 : Option Addr) (c3 : Nat) (l3 : List Int) (r : Bool) (w : World) (hr0 : Kd.C (Kd.int .i64) w A0 l0.length l0) (hc0 : l0.length ≤ c0) (hr1 : Kd.C k41 w A1 l1.length l1) (hc1 : l1.length ≤ c1) (hr3 : Kd.C (Kd.int .i64) w A3 l3.length l3) (hc3 : l3.length ≤ c3) (h : impl_FillFits.f k l0 l1 a2 l3 = some r) :
  Calls Try.prog 8 #[.slice A0 l0.length c0, .slice A1 l1.length c1, .int .i64 a2, .slice A3 l3.length c3] w fun e w' => e = .returned (.bool r) ∧ Below w.heap.size w w' := by
 have HR := az hr0
 have HC := az hc0
 have HR1 := az hr1
 have HC1 := az hc1
 have HR3 := az hr3
 have HC3 := az hc3
 have hmx := hr3.2.1
 have HMX := az hmx
 clear hr0 hc0 hr1 hc1 hr3 hc3 hmx
 unfold impl_FillFits.f at h
 replace h := Option.bind_eq_some_iff.mp h
 obtain ⟨a, ha, h⟩ := h
 have HA := az ha
 clear ha
 cases a
 ·
  rw [if_neg (by decide)] at h
  obtain rfl := Option.some.inj h
  clear h
  go_enter Try.func8, Try.ntmps8
  go_wp2_with (go_at_call 17; go_must (refine (impl_fillable.calls k A0 c0 l0 A1 c1 l1 a2 false _ HR.out HC.out HR1.out HC1.out HA.out).mono ?_); rintro e w1 ⟨rfl, hb1⟩; have HB1 := az hb1; clear hb1)
  go_ret
  exact ⟨rfl, HB1.out⟩
 rw [if_pos rfl] at h
 replace h := Option.bind_eq_some_iff.mp h
 obtain ⟨b, hb, h⟩ := h
 have HE := az hb
 clear hb
 cases b
 ·
  rw [if_neg (by decide)] at h
  obtain rfl := Option.some.inj h
  clear h
  go_enter Try.func8, Try.ntmps8
  go_wp2_with (first
   | (go_at_call 17; go_must (refine (impl_fillable.calls k A0 c0 l0 A1 c1 l1 a2 true _ HR.out HC.out HR1.out HC1.out HA.out).mono ?_); rintro e w1 ⟨rfl, hb1⟩; have HB1 := az hb1; clear hb1)
   | (go_at_call 18; go_must (refine (impl_endsOk.calls k A3 c3 l3 (l0.length : Int) false _ (Kd.C_below HR3.out HB1.out) HC3.out HE.out).mono ?_); rintro e w2 ⟨rfl, ⟨nd, rfl⟩⟩))
  go_ret
  exact ⟨rfl, pw_below_drewN HB1.out _⟩
 rw [if_pos rfl] at h
 replace h := Option.bind_eq_some_iff.mp h
 obtain ⟨ws, hws, h⟩ := h
 replace h := Option.bind_eq_some_iff.mp h
 obtain ⟨bs, hbs, h⟩ := h
 by_cases hn : bs.length ≤ 1000
 case neg => rw [if_neg hn] at h; cases h
 case pos =>
 rw [if_pos hn] at h
 have HF0 := az h
 have HWS := az hws
 have HBS := az hbs
 clear h hws hbs
 go_enter Try.func8, Try.ntmps8
 go_wp2_with (first
  | (go_at_call 17; go_must (refine (impl_fillable.calls k A0 c0 l0 A1 c1 l1 a2 true _ HR.out HC.out HR1.out HC1.out HA.out).mono ?_); rintro e w1 ⟨rfl, hb1⟩; have HB1 := az hb1; clear hb1)
  | (go_at_call 18; go_must (refine (impl_endsOk.calls k A3 c3 l3 (l0.length : Int) true _ (Kd.C_below HR3.out HB1.out) HC3.out HE.out).mono ?_); rintro e w2 ⟨rfl, ⟨nd, rfl⟩⟩; have HB2 := az (pw_below_drewN HB1.out nd); clear HB1)
  | (go_at_call 19; go_must (refine (newFiller_calls k A0 c0 l0 A1 c1 l1 a2 ws bs _ (Kd.C_below HR.out HB2.out) HC.out (Kd.C_below HR1.out HB2.out) HC1.out HWS.out HBS.out).mono ?_); rintro e w3 ⟨gb, A4, c4, A5, c5, rfl, hfl, hb3⟩; have HFL := az hfl; have HB3 := az (below_then HB2.out HB2.out.size hb3); clear hfl hb3))
 go_loopg [10, 31] l3.length (fun gg s10 s31 wr => ∃ (i : Nat) (fr : Int), s31 = .int .i64 i ∧ s10 = .int .i64 fr ∧ i ≤ l3.length ∧ l3.length - i ≤ gg ∧ Aside0 (fitsIL k l0 ws bs a2 (l3.drop i) fr = some r) ∧ Aside0 (Below w3.heap.size w3 wr))
 case atStart => exact ⟨0, 0, rfl, rfl, Nat.zero_le _, by omega, HF0, ⟨Below.refl _ _⟩⟩
 case round =>
  clear HF0
  obtain ⟨i, fr, rfl, rfl, hi, hg, HF, HB⟩ := hrel
  by_cases hlt : i < l3.length
  ·
   have hltz : (i : Int) < (l3.length : Int) := by omega
   have hi0 : (0 : Int) ≤ (i : Int) := by omega
   have hl9 : l3.length ≤ 9223372036854775807 := HMX.out
   obtain ⟨ad, hA, hx⟩ := Kd.at_int (Kd.C_below HR3.out (below_then HB3.out HB3.out.size HB.out)) (i : Int) hi0 hltz
   subst hA
   have hxx : rd l3 (i : Int) = l3.getD i 0 := by simp [rd]
   rw [hxx, Int.toNat_natCast] at hx
   have hq := HF.out
   rw [List.drop_eq_getElem_cons hlt, fitsIL] at hq
   obtain ⟨e, he⟩ : ∃ e, l3[i] = e := ⟨_, rfl⟩
   have he2 : l3.getD i 0 = e := by rw [List.getD_eq_getElem?_getD, List.getElem?_eq_getElem hlt, Option.getD_some]; exact he
   rw [he2] at hx
   rw [he] at hq
   clear hxx he he2 HF
   by_cases hbd : 1 ≤ e ∧ e ≤ (bs.length : Int) ∧ 0 ≤ fr ∧ fr ≤ (bs.length : Int)
   case neg => rw [if_neg hbd] at hq; cases hq
   case pos =>
   rw [if_pos hbd] at hq
   obtain ⟨h1, h2, h3, h4⟩ := hbd
   obtain ⟨m, hm⟩ : ∃ m : Nat, e - 1 = (m : Int) := ⟨(e - 1).toNat, by omega⟩
   obtain ⟨f, rfl⟩ : ∃ f : Nat, fr = f := ⟨fr.toNat, by omega⟩
   rw [hm, Int.toNat_natCast, Int.toNat_natCast] at hq
   have hm0 : (0 : Int) ≤ (m : Int) := by omega
   have hmz : (m : Int) < (bs.length : Int) := by omega
   have HFR := az (HFL.out.below HB.out)
   obtain ⟨ad5, hA5, hx5⟩ := Kd.at_int HFR.out.2.2.2.2.2.1 (m : Int) hm0 hmz
   subst hA5
   have hxx : rd bs (m : Int) = bs.getD m 0 := by simp [rd]
   rw [hxx, Int.toNat_natCast] at hx5
   obtain ⟨y, hy⟩ : ∃ y, bs.getD m 0 = y := ⟨_, rfl⟩
   rw [hy] at hx5 hq
   clear hxx hy
   have hw1 : IntKind.i64.wrap (e - 1) = (m : Int) := by rw [i64_w]; unfold wrap64; omega
   have hw2 : wrap64 (e - 1) = (m : Int) := by unfold wrap64; omega
   have HFB := az (show f ≤ bs.length by omega)
   have HMB := az (show m < bs.length by omega)
   have HLT := az hlt
   obtain ⟨q0, q1, q2, q3, q4, q5, _⟩ := FlJ.of (p := ad.add i) (q := ad5.add m) ⟨HFR.out, Below.refl _ _, hx, hx5⟩
   clear hx hx5 h1 h2 h3 h4 hm
   by_cases hy0 : y = 0
   ·
    rw [if_pos hy0] at hq
    obtain rfl := Option.some.inj hq
    have b0 : (y == 0) = true := beq_iff_eq.mpr hy0
    clear hy0 hq
    go_wp2
    go_ret
    exact ⟨rfl, below_then HB3.out HB3.out.size HB.out⟩
   ·
    rw [if_neg hy0] at hq
    have b0 : (y == 0) = false := beq_eq_false_iff_ne.mpr hy0
    replace hq := Option.bind_eq_some_iff.mp hq
    obtain ⟨x, hix, hq⟩ := hq
    have HIX := az hix
    clear hix hy0
    by_cases hxb : -1 ≤ x ∧ x ≤ 1000
    case neg => rw [if_neg hxb] at hq; cases hq
    case pos =>
    rw [if_pos hxb] at hq
    have HXB := az hxb
    clear hxb
    by_cases hmm : (f : Int) + x + 1 < e
    ·
     rw [if_pos hmm] at hq
     obtain rfl := Option.some.inj hq
     have dM : decide ((f : Int) + x + 1 < e) = true := decide_eq_true hmm
     clear hmm hq
     go_wp2_with (first | (go_at_call 20; go_must (refine (mustI_calls k gb A0 c0 l0 A4 c4 ws (some ad5) c5 bs a2 f x _ (HFR.out.below (by repeat (first | exact Below.refl _ _ | apply pw_below_drewN | apply below_drew1))) HFB.out hn HIX.out HXB.out.1 HXB.out.2).mono ?_); rintro e6 w6 ⟨rfl, ⟨nd6, rfl⟩⟩))
     go_ret
     exact ⟨rfl, below_then HB3.out HB3.out.size (by repeat (first | exact HB.out | apply pw_below_drewN | apply below_drew1))⟩
    ·
     rw [if_neg hmm] at hq
     have dM : decide ((f : Int) + x + 1 < e) = false := decide_eq_false hmm
     replace hq := Option.bind_eq_some_iff.mp hq
     obtain ⟨y1, hy1, hq⟩ := hq
     have HLW := az hy1
     clear hy1 hmm
     by_cases hxw : y1 ≤ a2
     ·
      rw [if_pos hxw] at hq
      have dX : decide (y1 ≤ a2) = true := decide_eq_true hxw
      have HQ := az hq
      clear hxw hq
      go_wp2_with (first | (go_at_call 20; go_must (refine (mustI_calls k gb A0 c0 l0 A4 c4 ws (some ad5) c5 bs a2 f x _ (HFR.out.below (by repeat (first | exact Below.refl _ _ | apply pw_below_drewN | apply below_drew1))) HFB.out hn HIX.out HXB.out.1 HXB.out.2).mono ?_); rintro e6 w6 ⟨rfl, ⟨nd6, rfl⟩⟩) | (go_at_call 21; go_must (refine (fitsI_calls k gb A0 c0 l0 A4 c4 ws (some ad5) c5 bs a2 (f : Int) e y1 _ (HFR.out.below (by repeat (first | exact Below.refl _ _ | apply pw_below_drewN | apply below_drew1))) HLW.out).mono ?_); rw [dX]; rintro e7 w7 ⟨rfl, hb7⟩; have HB7 := az (below_then (w := wr) (B := wr.heap.size) (by repeat (first | exact Below.refl _ _ | apply pw_below_drewN | apply below_drew1)) (by first | exact Nat.le_refl _ | simp) hb7); clear hb7))
      go_roundg (l3.length - (i + 1))
      case measure => have := HLT.out; omega
      case rel => exact ⟨i + 1, _, by go_num, rfl, HLT.out, Nat.le_refl _, HQ, ⟨below_then HB.out HB.out.size HB7.out⟩⟩
     ·
      rw [if_neg hxw] at hq
      obtain rfl := Option.some.inj hq
      have dX : decide (y1 ≤ a2) = false := decide_eq_false hxw
      clear hxw hq
      go_wp2_with (first | (go_at_call 20; go_must (refine (mustI_calls k gb A0 c0 l0 A4 c4 ws (some ad5) c5 bs a2 f x _ (HFR.out.below (by repeat (first | exact Below.refl _ _ | apply pw_below_drewN | apply below_drew1))) HFB.out hn HIX.out HXB.out.1 HXB.out.2).mono ?_); rintro e6 w6 ⟨rfl, ⟨nd6, rfl⟩⟩) | (go_at_call 21; go_must (refine (fitsI_calls k gb A0 c0 l0 A4 c4 ws (some ad5) c5 bs a2 (f : Int) e y1 _ (HFR.out.below (by repeat (first | exact Below.refl _ _ | apply pw_below_drewN | apply below_drew1))) HLW.out).mono ?_); rw [dX]; rintro e7 w7 ⟨rfl, hb7⟩; have HB7 := az (below_then (w := wr) (B := wr.heap.size) (by repeat (first | exact Below.refl _ _ | apply pw_below_drewN | apply below_drew1)) (by first | exact Nat.le_refl _ | simp) hb7); clear hb7))
      go_ret
      exact ⟨rfl, below_then HB3.out HB3.out.size (below_then HB.out HB.out.size HB7.out)⟩
  ·
   have hltz : ¬ (i : Int) < (l3.length : Int) := by omega
   obtain rfl : i = l3.length := by omega
   have hq := HF.out
   rw [List.drop_length, fitsIL] at hq
   obtain rfl := Option.some.inj hq
   clear hq HF
   go_wp2
   go_ret
   exact ⟨rfl, below_then HB3.out HB3.out.size HB.out⟩
def laws_eqIntS.l0 : Nat → List Int → List Int → Int → Option (Bool)
 | 0, _, _, _ => none
 | k + 1, x0, x1, x5 => if x5 < (x0.length : Int) then (if 0 ≤ x5 then (if x5 < (x1.length : Int) then (if (rd x0 x5) = (rd x1 x5) then (laws_eqIntS.l0 k x0 x1 (wrap64 (x5 + 1))) else (some false)) else (none)) else (none)) else (some true)
def laws_eqIntS.f (k : Nat) (l0 : List Int) (l1 : List Int) : Option (Bool) := if (l0.length : Int) = (l1.length : Int) then (laws_eqIntS.l0 k l0 l1 0) else (some false)
theorem laws_eqIntS.mono_l : ∀ k, (∀ y0 y1 y2, LeO (laws_eqIntS.l0 k y0 y1 y2) (laws_eqIntS.l0 (k + 1) y0 y1 y2))
 | 0 => fun _ _ _ r h => by simp [laws_eqIntS.l0] at h
 | k + 1 => by
  have ih0 := laws_eqIntS.mono_l k
  ·
   intro y0 y1 y2; unfold laws_eqIntS.l0
   repeat' first
   | (with_reducible exact ih0 _ _ _)
   | (with_reducible exact LeO.refl _)
   | (with_reducible exact LeO.none _)
   | (with_reducible refine LeO.ite ?_ ?_)
   | (with_reducible refine LeO.bind ?_ (fun _ => ?_))
   | exact ih0 _ _ _
   | exact LeO.none _
   | refine LeO.ite ?_ ?_
   | refine LeO.bind ?_ (fun _ => ?_)
theorem laws_eqIntS.mono : ∀ a0 a1 k, LeO (laws_eqIntS.f k a0 a1) (laws_eqIntS.f (k + 1) a0 a1) := by
 intro a0 a1 k; have ih0 := laws_eqIntS.mono_l k; unfold laws_eqIntS.f
 repeat' first
   | (with_reducible exact ih0 _ _ _)
   | (with_reducible exact LeO.refl _)
   | (with_reducible exact LeO.none _)
   | (with_reducible refine LeO.ite ?_ ?_)
   | (with_reducible refine LeO.bind ?_ (fun _ => ?_))
   | exact ih0 _ _ _
   | exact LeO.none _
   | refine LeO.ite ?_ ?_
   | refine LeO.bind ?_ (fun _ => ?_)
theorem laws_eqIntS.calls (k : Nat) (A0 : Option Addr) (c0 : Nat) (l0 : List Int) (A1 : Option Addr) (c1 : Nat) (l1 : List Int) (r : Bool) (w : World) (hr0 : Kd.C (Kd.int .i64) w A0 l0.length l0) (hc0 : l0.length ≤ c0) (hr1 : Kd.C (Kd.int .i64) w A1 l1.length l1) (hc1 : l1.length ≤ c1) (h : laws_eqIntS.f k l0 l1 = some r) :
  Calls Try.prog 9 #[.slice A0 l0.length c0, .slice A1 l1.length c1] w fun e w' => e = .returned (.bool r) ∧ Drawn0 w w' := by
 have HR0 := az hr0; have HC0 := az hc0; clear hr0 hc0; have HR1 := az hr1; have HC1 := az hc1; clear hr1 hc1; have H : (if (l0.length : Int) = (l1.length : Int) then (laws_eqIntS.l0 k l0 l1 0) else (some false)) = some r := h; clear h; by_cases c3 : (l0.length : Int) = (l1.length : Int)
 ·
  rw [if_pos c3] at H; have c3b0 : ((l0.length : Int) == (l1.length : Int)) = true := beq_iff_eq.mpr c3; have c3b1 : ((l0.length : Int) != (l1.length : Int)) = false := bne_eq_false_iff_eq.mpr c3; have c3b2 : (l0.length == l1.length) = true := by first | simpa using c3 | (simp at c3 ⊢; omega)
  clear c3; have H' := az H; clear H; go_enter Try.func9, Try.ntmps9; go_wp2; repeat (go_quiet (fail); try go_wp2)
  go_loopg [5] k (fun kq v5 w' => ∃ (x5_1 : Int), v5 = .int .i64 x5_1 ∧ Aside0 (laws_eqIntS.l0 kq l0 l1 x5_1 = some r) ∧ Aside0 (kq ≤ k) ∧ Drawn0 w w')
  case atStart => exact ⟨(0), (by first | rfl | (simp; done) | (simp [*]; done)), H', ⟨Nat.le_refl _⟩, by repeat (first | exact Drawn0.refl _ | apply Drawn0.step)⟩
  case round =>
   clear H'; (try clear c1); (try clear p2); (try clear c3); (try clear c3b0); (try clear c3b1); (try clear c3b2); obtain ⟨x5_1, rfl, HA, HK1, ⟨m1, rfl⟩⟩ := hrel
   cases gk with
   | zero => exact absurd HA.out (by simp [laws_eqIntS.l0])
   | succ k1 =>
    have H := HA.out; clear HA; simp only [laws_eqIntS.l0] at H; by_cases c4 : x5_1 < (l0.length : Int)
    ·
     rw [if_pos c4] at H; have c4b0 : decide (x5_1 < (l0.length : Int)) = true := decide_eq_true c4; clear c4; by_cases c5 : 0 ≤ x5_1
     ·
      rw [if_pos c5] at H; have c5b0 : decide (0 ≤ x5_1) = true := decide_eq_true c5; clear c5; by_cases c6 : x5_1 < (l1.length : Int)
      ·
       rw [if_pos c6] at H; have c6b0 : decide (x5_1 < (l1.length : Int)) = true := decide_eq_true c6; clear c6; by_cases c7 : (rd l0 x5_1) = (rd l1 x5_1)
       ·
        rw [if_pos c7] at H; have c7b0 : ((rd l0 x5_1) == (rd l1 x5_1)) = true := beq_iff_eq.mpr c7; have c7b1 : ((rd l0 x5_1) != (rd l1 x5_1)) = false := bne_eq_false_iff_eq.mpr c7; clear c7; have H' := az H; clear H; have p375 : 0 ≤ (x5_1 : Int) := of_decide_eq_true (by assumption); have q375 : x5_1 < (l0.length : Int) := of_decide_eq_true (by assumption); obtain ⟨ad375, e375, hx375_0⟩ := Kd.at_int HR0.out x5_1 p375 q375
        cases e375
        replace p375 := eq_true p375; replace q375 := eq_true q375; have p376 : 0 ≤ (x5_1 : Int) := of_decide_eq_true (by assumption); have q376 : x5_1 < (l1.length : Int) := of_decide_eq_true (by assumption); obtain ⟨ad376, e376, hx376_0⟩ := Kd.at_int HR1.out x5_1 p376 q376
        cases e376
        replace p376 := eq_true p376; replace q376 := eq_true q376; go_wp2; repeat (go_quiet (fail); try go_wp2)
        go_roundg k1
        case measure => have := HK1.out; omega
        case rel => exact ⟨(wrap64 (x5_1 + 1)), (by first | rfl | (simp; done) | (simp [*]; done)), H', ⟨by have := HK1.out; omega⟩, by repeat (first | exact Drawn0.refl _ | apply Drawn0.step)⟩
       ·
        rw [if_neg c7] at H; have c7b0 : ((rd l0 x5_1) == (rd l1 x5_1)) = false := beq_eq_false_iff_ne.mpr c7; have c7b1 : ((rd l0 x5_1) != (rd l1 x5_1)) = true := bne_iff_ne.mpr c7; obtain rfl := Option.some.inj H; have p375 : 0 ≤ (x5_1 : Int) := of_decide_eq_true (by assumption); have q375 : x5_1 < (l0.length : Int) := of_decide_eq_true (by assumption); obtain ⟨ad375, e375, hx375_0⟩ := Kd.at_int HR0.out x5_1 p375 q375
        cases e375
        replace p375 := eq_true p375; replace q375 := eq_true q375; have p376 : 0 ≤ (x5_1 : Int) := of_decide_eq_true (by assumption); have q376 : x5_1 < (l1.length : Int) := of_decide_eq_true (by assumption); obtain ⟨ad376, e376, hx376_0⟩ := Kd.at_int HR1.out x5_1 p376 q376
        cases e376
        replace p376 := eq_true p376; replace q376 := eq_true q376; go_wp2; repeat (go_quiet (fail); try go_wp2)
        go_ret; exact ⟨by first | rfl | (simp; done) | (simp [*]; done), by repeat (first | exact Drawn0.refl _ | apply Drawn0.step)⟩
      ·
       rw [if_neg c6] at H; exact absurd H (by simp)
     ·
      rw [if_neg c5] at H; exact absurd H (by simp)
    ·
     rw [if_neg c4] at H; have c4b0 : decide (x5_1 < (l0.length : Int)) = false := decide_eq_false c4; clear c4; obtain rfl := Option.some.inj H; go_wp2; repeat (go_quiet (fail); try go_wp2)
     go_ret; exact ⟨by first | rfl | (simp; done) | (simp [*]; done), by repeat (first | exact Drawn0.refl _ | apply Drawn0.step)⟩
 ·
  rw [if_neg c3] at H; have c3b0 : ((l0.length : Int) == (l1.length : Int)) = false := beq_eq_false_iff_ne.mpr c3; have c3b1 : ((l0.length : Int) != (l1.length : Int)) = true := bne_iff_ne.mpr c3; have c3b2 : (l0.length == l1.length) = false := by first | simpa using c3 | (simp at c3 ⊢; omega)
  obtain rfl := Option.some.inj H; go_enter Try.func9, Try.ntmps9; go_wp2; repeat (go_quiet (fail); try go_wp2)
  go_ret; exact ⟨by first | rfl | (simp; done) | (simp [*]; done), by repeat (first | exact Drawn0.refl _ | apply Drawn0.step)⟩
def laws_eqSpan.f (a0_0 : Int) (a0_1 : Int) (a0_2 : Int) (a0_3 : Int) (a1_0 : Int) (a1_1 : Int) (a1_2 : Int) (a1_3 : Int) : Option (Bool) := if a0_0 = a1_0 then (if a0_1 = a1_1 then (if a0_2 = a1_2 then (if a0_3 = a1_3 then (some true) else (some false)) else (some false)) else (some false)) else (some false)
theorem laws_eqSpan.calls (a0_0 : Int) (a0_1 : Int) (a0_2 : Int) (a0_3 : Int) (a1_0 : Int) (a1_1 : Int) (a1_2 : Int) (a1_3 : Int) (r : Bool) (w : World) (h : laws_eqSpan.f a0_0 a0_1 a0_2 a0_3 a1_0 a1_1 a1_2 a1_3 = some r) :
  Calls Try.prog 22 #[.agg #[.int .i64 a0_0, .int .i64 a0_1, .int .i64 a0_2, .int .i64 a0_3], .agg #[.int .i64 a1_0, .int .i64 a1_1, .int .i64 a1_2, .int .i64 a1_3]] w fun e w' => e = .returned (.bool r) ∧ Below w.heap.size w w' := by
 have hu41 := Try.underlying41; have HB := az (Below.refl w.heap.size w); have H : (if a0_0 = a1_0 then (if a0_1 = a1_1 then (if a0_2 = a1_2 then (if a0_3 = a1_3 then (some true) else (some false)) else (some false)) else (some false)) else (some false)) = some r := h; clear h; by_cases c3 : a0_0 = a1_0
 ·
  rw [if_pos c3] at H; have c3b0 : (a0_0 == a1_0) = true := beq_iff_eq.mpr c3; have c3b1 : (a0_0 != a1_0) = false := bne_eq_false_iff_eq.mpr c3; clear c3; by_cases c4 : a0_1 = a1_1
  ·
   rw [if_pos c4] at H; have c4b0 : (a0_1 == a1_1) = true := beq_iff_eq.mpr c4; have c4b1 : (a0_1 != a1_1) = false := bne_eq_false_iff_eq.mpr c4; clear c4; by_cases c5 : a0_2 = a1_2
   ·
    rw [if_pos c5] at H; have c5b0 : (a0_2 == a1_2) = true := beq_iff_eq.mpr c5; have c5b1 : (a0_2 != a1_2) = false := bne_eq_false_iff_eq.mpr c5; clear c5; by_cases c6 : a0_3 = a1_3
    ·
     rw [if_pos c6] at H; have c6b0 : (a0_3 == a1_3) = true := beq_iff_eq.mpr c6; have c6b1 : (a0_3 != a1_3) = false := bne_eq_false_iff_eq.mpr c6; clear c6; obtain rfl := Option.some.inj H; go_enter Try.func22, Try.ntmps22; go_wp2_with (first | ((with_reducible refine gate_dst (N := 2) rfl ?_); refine box_event ?hg (N := 2) ?hd (cs := #[.int .i64 a0_0, .int .i64 a0_1, .int .i64 a0_2, .int .i64 a0_3]) (t := 41) ?hr ?_; (case hd => rfl); (case hg => rfl); (case hr => first | (go_simp; done) | (go_simp; rfl)); intro gb377 hg w7 hbox hb; have n0_ := az (below_step (by repeat (first | (with_reducible first | exact HB.out | apply below_alloc | apply pw_below_drewN | apply below_drew1) | exact HB.out)) hb); have n1_ := az (hbox); have n2_ := az ((by rw [hg]; exact (below_size (by repeat (first | (with_reducible first | exact HB.out | apply below_alloc | apply pw_below_drewN | apply below_drew1) | exact HB.out))) : w.heap.size ≤ gb377)); have n3_ := az ((by rw [hg]; exact (below_size (by repeat (first | (with_reducible first | exact HB.out | apply below_alloc | apply pw_below_drewN | apply below_drew1) | exact HB.out))) : w.heap.size ≤ gb377)); clear HB; have HB := n0_; have BK377 := n1_; have GW377 := n2_; have GE377 := n3_; clear n0_ n1_ n2_ n3_; clear hb hbox hg) | ((with_reducible refine gate_dst (N := 3) rfl ?_); refine box_event ?hg (N := 3) ?hd (cs := #[.int .i64 a1_0, .int .i64 a1_1, .int .i64 a1_2, .int .i64 a1_3]) (t := 41) ?hr ?_; (case hd => rfl); (case hg => rfl); (case hr => first | (go_simp; done) | (go_simp; rfl)); intro gb378 hg w8 hbox hb; have n0_ := az (blk_below (g := gb377) (o := .cells #[.int .i64 a0_0, .int .i64 a0_1, .int .i64 a0_2, .int .i64 a0_3] 41 (0, 0)) (by (with_reducible repeat (first | refine blk_drewN ?_ _ | refine blk_drew ?_ | refine blk_alloc ?_ _)); exact BK377.out) hb); have n1_ := az (below_step (by repeat (first | (with_reducible first | exact HB.out | apply below_alloc | apply pw_below_drewN | apply below_drew1 | refine below_set ?_ GE377.out) | exact HB.out)) hb); have n2_ := az (hbox); have n3_ := az ((by rw [hg]; exact (below_size (by repeat (first | (with_reducible first | exact HB.out | apply below_alloc | apply pw_below_drewN | apply below_drew1 | refine below_set ?_ GE377.out) | exact HB.out))) : w.heap.size ≤ gb378)); have n4_ := az ((by rw [hg]; exact (below_size (by repeat (first | (with_reducible first | exact HB.out | apply below_alloc | apply pw_below_drewN | apply below_drew1 | refine below_set ?_ GE377.out) | exact HB.out))) : w.heap.size ≤ gb378)); have n5_ := az ((by rw [hg]; exact Nat.ne_of_lt (blk_lt (g := gb377) (o := .cells #[.int .i64 a0_0, .int .i64 a0_1, .int .i64 a0_2, .int .i64 a0_3] 41 (0, 0)) (by (with_reducible repeat (first | refine blk_drewN ?_ _ | refine blk_drew ?_ | refine blk_alloc ?_ _)); exact BK377.out)) : gb377 ≠ gb378)); have n6_ := az ((by rw [hg]; exact Nat.ne_of_gt (blk_lt (g := gb377) (o := .cells #[.int .i64 a0_0, .int .i64 a0_1, .int .i64 a0_2, .int .i64 a0_3] 41 (0, 0)) (by (with_reducible repeat (first | refine blk_drewN ?_ _ | refine blk_drew ?_ | refine blk_alloc ?_ _)); exact BK377.out)) : gb378 ≠ gb377)); clear BK377; clear HB; have BK377 := n0_; have HB := n1_; have BK378 := n2_; have GW378 := n3_; have GE378 := n4_; have NB377_378 := n5_; have NB378_377 := n6_; clear n0_ n1_ n2_ n3_ n4_ n5_ n6_; clear hb hbox hg; have hnb9 := NB377_378.out; have hnc9 := NB378_377.out; have hcz10_0 : w8.cell? ⟨gb377, 0, none⟩ = some (.int .i64 a0_0) := (blk_cell BK377.out 0).trans rfl; have hcz10_1 : w8.cell? ⟨gb377, 1, none⟩ = some (.int .i64 a0_1) := (blk_cell BK377.out 1).trans rfl; have hcz10_2 : w8.cell? ⟨gb377, 2, none⟩ = some (.int .i64 a0_2) := (blk_cell BK377.out 2).trans rfl; have hcz10_3 : w8.cell? ⟨gb377, 3, none⟩ = some (.int .i64 a0_3) := (blk_cell BK377.out 3).trans rfl; have hfz10_0 := blk_frozen BK377.out 0; have hfz10_1 := blk_frozen BK377.out 1; have hfz10_2 := blk_frozen BK377.out 2; have hfz10_3 := blk_frozen BK377.out 3; have hcz11_0 : w8.cell? ⟨gb378, 0, none⟩ = some (.int .i64 a1_0) := (blk_cell BK378.out 0).trans rfl; have hcz11_1 : w8.cell? ⟨gb378, 1, none⟩ = some (.int .i64 a1_1) := (blk_cell BK378.out 1).trans rfl; have hcz11_2 : w8.cell? ⟨gb378, 2, none⟩ = some (.int .i64 a1_2) := (blk_cell BK378.out 2).trans rfl; have hcz11_3 : w8.cell? ⟨gb378, 3, none⟩ = some (.int .i64 a1_3) := (blk_cell BK378.out 3).trans rfl; have hfz11_0 := blk_frozen BK378.out 0; have hfz11_1 := blk_frozen BK378.out 1; have hfz11_2 := blk_frozen BK378.out 2; have hfz11_3 := blk_frozen BK378.out 3))
     go_ret; exact ⟨by first | rfl | (simp [errW_none, errW_some] <;> rfl) | (simp [*, errW_none, errW_some] <;> rfl), by repeat (first | (with_reducible first | exact HB.out | apply below_alloc | apply pw_below_drewN | apply below_drew1 | refine below_set ?_ GE377.out | refine below_set ?_ GE378.out) | exact HB.out)⟩
    ·
     rw [if_neg c6] at H; have c6b0 : (a0_3 == a1_3) = false := beq_eq_false_iff_ne.mpr c6; have c6b1 : (a0_3 != a1_3) = true := bne_iff_ne.mpr c6; obtain rfl := Option.some.inj H; go_enter Try.func22, Try.ntmps22; go_wp2_with (first | ((with_reducible refine gate_dst (N := 2) rfl ?_); refine box_event ?hg (N := 2) ?hd (cs := #[.int .i64 a0_0, .int .i64 a0_1, .int .i64 a0_2, .int .i64 a0_3]) (t := 41) ?hr ?_; (case hd => rfl); (case hg => rfl); (case hr => first | (go_simp; done) | (go_simp; rfl)); intro gb377 hg w12 hbox hb; have n0_ := az (below_step (by repeat (first | (with_reducible first | exact HB.out | apply below_alloc | apply pw_below_drewN | apply below_drew1) | exact HB.out)) hb); have n1_ := az (hbox); have n2_ := az ((by rw [hg]; exact (below_size (by repeat (first | (with_reducible first | exact HB.out | apply below_alloc | apply pw_below_drewN | apply below_drew1) | exact HB.out))) : w.heap.size ≤ gb377)); have n3_ := az ((by rw [hg]; exact (below_size (by repeat (first | (with_reducible first | exact HB.out | apply below_alloc | apply pw_below_drewN | apply below_drew1) | exact HB.out))) : w.heap.size ≤ gb377)); clear HB; have HB := n0_; have BK377 := n1_; have GW377 := n2_; have GE377 := n3_; clear n0_ n1_ n2_ n3_; clear hb hbox hg) | ((with_reducible refine gate_dst (N := 3) rfl ?_); refine box_event ?hg (N := 3) ?hd (cs := #[.int .i64 a1_0, .int .i64 a1_1, .int .i64 a1_2, .int .i64 a1_3]) (t := 41) ?hr ?_; (case hd => rfl); (case hg => rfl); (case hr => first | (go_simp; done) | (go_simp; rfl)); intro gb378 hg w13 hbox hb; have n0_ := az (blk_below (g := gb377) (o := .cells #[.int .i64 a0_0, .int .i64 a0_1, .int .i64 a0_2, .int .i64 a0_3] 41 (0, 0)) (by (with_reducible repeat (first | refine blk_drewN ?_ _ | refine blk_drew ?_ | refine blk_alloc ?_ _)); exact BK377.out) hb); have n1_ := az (below_step (by repeat (first | (with_reducible first | exact HB.out | apply below_alloc | apply pw_below_drewN | apply below_drew1 | refine below_set ?_ GE377.out) | exact HB.out)) hb); have n2_ := az (hbox); have n3_ := az ((by rw [hg]; exact (below_size (by repeat (first | (with_reducible first | exact HB.out | apply below_alloc | apply pw_below_drewN | apply below_drew1 | refine below_set ?_ GE377.out) | exact HB.out))) : w.heap.size ≤ gb378)); have n4_ := az ((by rw [hg]; exact (below_size (by repeat (first | (with_reducible first | exact HB.out | apply below_alloc | apply pw_below_drewN | apply below_drew1 | refine below_set ?_ GE377.out) | exact HB.out))) : w.heap.size ≤ gb378)); have n5_ := az ((by rw [hg]; exact Nat.ne_of_lt (blk_lt (g := gb377) (o := .cells #[.int .i64 a0_0, .int .i64 a0_1, .int .i64 a0_2, .int .i64 a0_3] 41 (0, 0)) (by (with_reducible repeat (first | refine blk_drewN ?_ _ | refine blk_drew ?_ | refine blk_alloc ?_ _)); exact BK377.out)) : gb377 ≠ gb378)); have n6_ := az ((by rw [hg]; exact Nat.ne_of_gt (blk_lt (g := gb377) (o := .cells #[.int .i64 a0_0, .int .i64 a0_1, .int .i64 a0_2, .int .i64 a0_3] 41 (0, 0)) (by (with_reducible repeat (first | refine blk_drewN ?_ _ | refine blk_drew ?_ | refine blk_alloc ?_ _)); exact BK377.out)) : gb378 ≠ gb377)); clear BK377; clear HB; have BK377 := n0_; have HB := n1_; have BK378 := n2_; have GW378 := n3_; have GE378 := n4_; have NB377_378 := n5_; have NB378_377 := n6_; clear n0_ n1_ n2_ n3_ n4_ n5_ n6_; clear hb hbox hg; have hnb14 := NB377_378.out; have hnc14 := NB378_377.out; have hcz15_0 : w13.cell? ⟨gb377, 0, none⟩ = some (.int .i64 a0_0) := (blk_cell BK377.out 0).trans rfl; have hcz15_1 : w13.cell? ⟨gb377, 1, none⟩ = some (.int .i64 a0_1) := (blk_cell BK377.out 1).trans rfl; have hcz15_2 : w13.cell? ⟨gb377, 2, none⟩ = some (.int .i64 a0_2) := (blk_cell BK377.out 2).trans rfl; have hcz15_3 : w13.cell? ⟨gb377, 3, none⟩ = some (.int .i64 a0_3) := (blk_cell BK377.out 3).trans rfl; have hfz15_0 := blk_frozen BK377.out 0; have hfz15_1 := blk_frozen BK377.out 1; have hfz15_2 := blk_frozen BK377.out 2; have hfz15_3 := blk_frozen BK377.out 3; have hcz16_0 : w13.cell? ⟨gb378, 0, none⟩ = some (.int .i64 a1_0) := (blk_cell BK378.out 0).trans rfl; have hcz16_1 : w13.cell? ⟨gb378, 1, none⟩ = some (.int .i64 a1_1) := (blk_cell BK378.out 1).trans rfl; have hcz16_2 : w13.cell? ⟨gb378, 2, none⟩ = some (.int .i64 a1_2) := (blk_cell BK378.out 2).trans rfl; have hcz16_3 : w13.cell? ⟨gb378, 3, none⟩ = some (.int .i64 a1_3) := (blk_cell BK378.out 3).trans rfl; have hfz16_0 := blk_frozen BK378.out 0; have hfz16_1 := blk_frozen BK378.out 1; have hfz16_2 := blk_frozen BK378.out 2; have hfz16_3 := blk_frozen BK378.out 3))
     go_ret; exact ⟨by first | rfl | (simp [errW_none, errW_some] <;> rfl) | (simp [*, errW_none, errW_some] <;> rfl), by repeat (first | (with_reducible first | exact HB.out | apply below_alloc | apply pw_below_drewN | apply below_drew1 | refine below_set ?_ GE377.out | refine below_set ?_ GE378.out) | exact HB.out)⟩
   ·
    rw [if_neg c5] at H; have c5b0 : (a0_2 == a1_2) = false := beq_eq_false_iff_ne.mpr c5; have c5b1 : (a0_2 != a1_2) = true := bne_iff_ne.mpr c5; obtain rfl := Option.some.inj H; go_enter Try.func22, Try.ntmps22; go_wp2_with (first | ((with_reducible refine gate_dst (N := 2) rfl ?_); refine box_event ?hg (N := 2) ?hd (cs := #[.int .i64 a0_0, .int .i64 a0_1, .int .i64 a0_2, .int .i64 a0_3]) (t := 41) ?hr ?_; (case hd => rfl); (case hg => rfl); (case hr => first | (go_simp; done) | (go_simp; rfl)); intro gb377 hg w17 hbox hb; have n0_ := az (below_step (by repeat (first | (with_reducible first | exact HB.out | apply below_alloc | apply pw_below_drewN | apply below_drew1) | exact HB.out)) hb); have n1_ := az (hbox); have n2_ := az ((by rw [hg]; exact (below_size (by repeat (first | (with_reducible first | exact HB.out | apply below_alloc | apply pw_below_drewN | apply below_drew1) | exact HB.out))) : w.heap.size ≤ gb377)); have n3_ := az ((by rw [hg]; exact (below_size (by repeat (first | (with_reducible first | exact HB.out | apply below_alloc | apply pw_below_drewN | apply below_drew1) | exact HB.out))) : w.heap.size ≤ gb377)); clear HB; have HB := n0_; have BK377 := n1_; have GW377 := n2_; have GE377 := n3_; clear n0_ n1_ n2_ n3_; clear hb hbox hg) | ((with_reducible refine gate_dst (N := 3) rfl ?_); refine box_event ?hg (N := 3) ?hd (cs := #[.int .i64 a1_0, .int .i64 a1_1, .int .i64 a1_2, .int .i64 a1_3]) (t := 41) ?hr ?_; (case hd => rfl); (case hg => rfl); (case hr => first | (go_simp; done) | (go_simp; rfl)); intro gb378 hg w18 hbox hb; have n0_ := az (blk_below (g := gb377) (o := .cells #[.int .i64 a0_0, .int .i64 a0_1, .int .i64 a0_2, .int .i64 a0_3] 41 (0, 0)) (by (with_reducible repeat (first | refine blk_drewN ?_ _ | refine blk_drew ?_ | refine blk_alloc ?_ _)); exact BK377.out) hb); have n1_ := az (below_step (by repeat (first | (with_reducible first | exact HB.out | apply below_alloc | apply pw_below_drewN | apply below_drew1 | refine below_set ?_ GE377.out) | exact HB.out)) hb); have n2_ := az (hbox); have n3_ := az ((by rw [hg]; exact (below_size (by repeat (first | (with_reducible first | exact HB.out | apply below_alloc | apply pw_below_drewN | apply below_drew1 | refine below_set ?_ GE377.out) | exact HB.out))) : w.heap.size ≤ gb378)); have n4_ := az ((by rw [hg]; exact (below_size (by repeat (first | (with_reducible first | exact HB.out | apply below_alloc | apply pw_below_drewN | apply below_drew1 | refine below_set ?_ GE377.out) | exact HB.out))) : w.heap.size ≤ gb378)); have n5_ := az ((by rw [hg]; exact Nat.ne_of_lt (blk_lt (g := gb377) (o := .cells #[.int .i64 a0_0, .int .i64 a0_1, .int .i64 a0_2, .int .i64 a0_3] 41 (0, 0)) (by (with_reducible repeat (first | refine blk_drewN ?_ _ | refine blk_drew ?_ | refine blk_alloc ?_ _)); exact BK377.out)) : gb377 ≠ gb378)); have n6_ := az ((by rw [hg]; exact Nat.ne_of_gt (blk_lt (g := gb377) (o := .cells #[.int .i64 a0_0, .int .i64 a0_1, .int .i64 a0_2, .int .i64 a0_3] 41 (0, 0)) (by (with_reducible repeat (first | refine blk_drewN ?_ _ | refine blk_drew ?_ | refine blk_alloc ?_ _)); exact BK377.out)) : gb378 ≠ gb377)); clear BK377; clear HB; have BK377 := n0_; have HB := n1_; have BK378 := n2_; have GW378 := n3_; have GE378 := n4_; have NB377_378 := n5_; have NB378_377 := n6_; clear n0_ n1_ n2_ n3_ n4_ n5_ n6_; clear hb hbox hg; have hnb19 := NB377_378.out; have hnc19 := NB378_377.out; have hcz20_0 : w18.cell? ⟨gb377, 0, none⟩ = some (.int .i64 a0_0) := (blk_cell BK377.out 0).trans rfl; have hcz20_1 : w18.cell? ⟨gb377, 1, none⟩ = some (.int .i64 a0_1) := (blk_cell BK377.out 1).trans rfl; have hcz20_2 : w18.cell? ⟨gb377, 2, none⟩ = some (.int .i64 a0_2) := (blk_cell BK377.out 2).trans rfl; have hcz20_3 : w18.cell? ⟨gb377, 3, none⟩ = some (.int .i64 a0_3) := (blk_cell BK377.out 3).trans rfl; have hfz20_0 := blk_frozen BK377.out 0; have hfz20_1 := blk_frozen BK377.out 1; have hfz20_2 := blk_frozen BK377.out 2; have hfz20_3 := blk_frozen BK377.out 3; have hcz21_0 : w18.cell? ⟨gb378, 0, none⟩ = some (.int .i64 a1_0) := (blk_cell BK378.out 0).trans rfl; have hcz21_1 : w18.cell? ⟨gb378, 1, none⟩ = some (.int .i64 a1_1) := (blk_cell BK378.out 1).trans rfl; have hcz21_2 : w18.cell? ⟨gb378, 2, none⟩ = some (.int .i64 a1_2) := (blk_cell BK378.out 2).trans rfl; have hcz21_3 : w18.cell? ⟨gb378, 3, none⟩ = some (.int .i64 a1_3) := (blk_cell BK378.out 3).trans rfl; have hfz21_0 := blk_frozen BK378.out 0; have hfz21_1 := blk_frozen BK378.out 1; have hfz21_2 := blk_frozen BK378.out 2; have hfz21_3 := blk_frozen BK378.out 3))
    go_ret; exact ⟨by first | rfl | (simp [errW_none, errW_some] <;> rfl) | (simp [*, errW_none, errW_some] <;> rfl), by repeat (first | (with_reducible first | exact HB.out | apply below_alloc | apply pw_below_drewN | apply below_drew1 | refine below_set ?_ GE377.out | refine below_set ?_ GE378.out) | exact HB.out)⟩
  ·
   rw [if_neg c4] at H; have c4b0 : (a0_1 == a1_1) = false := beq_eq_false_iff_ne.mpr c4; have c4b1 : (a0_1 != a1_1) = true := bne_iff_ne.mpr c4; obtain rfl := Option.some.inj H; go_enter Try.func22, Try.ntmps22; go_wp2_with (first | ((with_reducible refine gate_dst (N := 2) rfl ?_); refine box_event ?hg (N := 2) ?hd (cs := #[.int .i64 a0_0, .int .i64 a0_1, .int .i64 a0_2, .int .i64 a0_3]) (t := 41) ?hr ?_; (case hd => rfl); (case hg => rfl); (case hr => first | (go_simp; done) | (go_simp; rfl)); intro gb377 hg w22 hbox hb; have n0_ := az (below_step (by repeat (first | (with_reducible first | exact HB.out | apply below_alloc | apply pw_below_drewN | apply below_drew1) | exact HB.out)) hb); have n1_ := az (hbox); have n2_ := az ((by rw [hg]; exact (below_size (by repeat (first | (with_reducible first | exact HB.out | apply below_alloc | apply pw_below_drewN | apply below_drew1) | exact HB.out))) : w.heap.size ≤ gb377)); have n3_ := az ((by rw [hg]; exact (below_size (by repeat (first | (with_reducible first | exact HB.out | apply below_alloc | apply pw_below_drewN | apply below_drew1) | exact HB.out))) : w.heap.size ≤ gb377)); clear HB; have HB := n0_; have BK377 := n1_; have GW377 := n2_; have GE377 := n3_; clear n0_ n1_ n2_ n3_; clear hb hbox hg) | ((with_reducible refine gate_dst (N := 3) rfl ?_); refine box_event ?hg (N := 3) ?hd (cs := #[.int .i64 a1_0, .int .i64 a1_1, .int .i64 a1_2, .int .i64 a1_3]) (t := 41) ?hr ?_; (case hd => rfl); (case hg => rfl); (case hr => first | (go_simp; done) | (go_simp; rfl)); intro gb378 hg w23 hbox hb; have n0_ := az (blk_below (g := gb377) (o := .cells #[.int .i64 a0_0, .int .i64 a0_1, .int .i64 a0_2, .int .i64 a0_3] 41 (0, 0)) (by (with_reducible repeat (first | refine blk_drewN ?_ _ | refine blk_drew ?_ | refine blk_alloc ?_ _)); exact BK377.out) hb); have n1_ := az (below_step (by repeat (first | (with_reducible first | exact HB.out | apply below_alloc | apply pw_below_drewN | apply below_drew1 | refine below_set ?_ GE377.out) | exact HB.out)) hb); have n2_ := az (hbox); have n3_ := az ((by rw [hg]; exact (below_size (by repeat (first | (with_reducible first | exact HB.out | apply below_alloc | apply pw_below_drewN | apply below_drew1 | refine below_set ?_ GE377.out) | exact HB.out))) : w.heap.size ≤ gb378)); have n4_ := az ((by rw [hg]; exact (below_size (by repeat (first | (with_reducible first | exact HB.out | apply below_alloc | apply pw_below_drewN | apply below_drew1 | refine below_set ?_ GE377.out) | exact HB.out))) : w.heap.size ≤ gb378)); have n5_ := az ((by rw [hg]; exact Nat.ne_of_lt (blk_lt (g := gb377) (o := .cells #[.int .i64 a0_0, .int .i64 a0_1, .int .i64 a0_2, .int .i64 a0_3] 41 (0, 0)) (by (with_reducible repeat (first | refine blk_drewN ?_ _ | refine blk_drew ?_ | refine blk_alloc ?_ _)); exact BK377.out)) : gb377 ≠ gb378)); have n6_ := az ((by rw [hg]; exact Nat.ne_of_gt (blk_lt (g := gb377) (o := .cells #[.int .i64 a0_0, .int .i64 a0_1, .int .i64 a0_2, .int .i64 a0_3] 41 (0, 0)) (by (with_reducible repeat (first | refine blk_drewN ?_ _ | refine blk_drew ?_ | refine blk_alloc ?_ _)); exact BK377.out)) : gb378 ≠ gb377)); clear BK377; clear HB; have BK377 := n0_; have HB := n1_; have BK378 := n2_; have GW378 := n3_; have GE378 := n4_; have NB377_378 := n5_; have NB378_377 := n6_; clear n0_ n1_ n2_ n3_ n4_ n5_ n6_; clear hb hbox hg; have hnb24 := NB377_378.out; have hnc24 := NB378_377.out; have hcz25_0 : w23.cell? ⟨gb377, 0, none⟩ = some (.int .i64 a0_0) := (blk_cell BK377.out 0).trans rfl; have hcz25_1 : w23.cell? ⟨gb377, 1, none⟩ = some (.int .i64 a0_1) := (blk_cell BK377.out 1).trans rfl; have hcz25_2 : w23.cell? ⟨gb377, 2, none⟩ = some (.int .i64 a0_2) := (blk_cell BK377.out 2).trans rfl; have hcz25_3 : w23.cell? ⟨gb377, 3, none⟩ = some (.int .i64 a0_3) := (blk_cell BK377.out 3).trans rfl; have hfz25_0 := blk_frozen BK377.out 0; have hfz25_1 := blk_frozen BK377.out 1; have hfz25_2 := blk_frozen BK377.out 2; have hfz25_3 := blk_frozen BK377.out 3; have hcz26_0 : w23.cell? ⟨gb378, 0, none⟩ = some (.int .i64 a1_0) := (blk_cell BK378.out 0).trans rfl; have hcz26_1 : w23.cell? ⟨gb378, 1, none⟩ = some (.int .i64 a1_1) := (blk_cell BK378.out 1).trans rfl; have hcz26_2 : w23.cell? ⟨gb378, 2, none⟩ = some (.int .i64 a1_2) := (blk_cell BK378.out 2).trans rfl; have hcz26_3 : w23.cell? ⟨gb378, 3, none⟩ = some (.int .i64 a1_3) := (blk_cell BK378.out 3).trans rfl; have hfz26_0 := blk_frozen BK378.out 0; have hfz26_1 := blk_frozen BK378.out 1; have hfz26_2 := blk_frozen BK378.out 2; have hfz26_3 := blk_frozen BK378.out 3))
   go_ret; exact ⟨by first | rfl | (simp [errW_none, errW_some] <;> rfl) | (simp [*, errW_none, errW_some] <;> rfl), by repeat (first | (with_reducible first | exact HB.out | apply below_alloc | apply pw_below_drewN | apply below_drew1 | refine below_set ?_ GE377.out | refine below_set ?_ GE378.out) | exact HB.out)⟩
 ·
  rw [if_neg c3] at H; have c3b0 : (a0_0 == a1_0) = false := beq_eq_false_iff_ne.mpr c3; have c3b1 : (a0_0 != a1_0) = true := bne_iff_ne.mpr c3; obtain rfl := Option.some.inj H; go_enter Try.func22, Try.ntmps22; go_wp2_with (first | ((with_reducible refine gate_dst (N := 2) rfl ?_); refine box_event ?hg (N := 2) ?hd (cs := #[.int .i64 a0_0, .int .i64 a0_1, .int .i64 a0_2, .int .i64 a0_3]) (t := 41) ?hr ?_; (case hd => rfl); (case hg => rfl); (case hr => first | (go_simp; done) | (go_simp; rfl)); intro gb377 hg w27 hbox hb; have n0_ := az (below_step (by repeat (first | (with_reducible first | exact HB.out | apply below_alloc | apply pw_below_drewN | apply below_drew1) | exact HB.out)) hb); have n1_ := az (hbox); have n2_ := az ((by rw [hg]; exact (below_size (by repeat (first | (with_reducible first | exact HB.out | apply below_alloc | apply pw_below_drewN | apply below_drew1) | exact HB.out))) : w.heap.size ≤ gb377)); have n3_ := az ((by rw [hg]; exact (below_size (by repeat (first | (with_reducible first | exact HB.out | apply below_alloc | apply pw_below_drewN | apply below_drew1) | exact HB.out))) : w.heap.size ≤ gb377)); clear HB; have HB := n0_; have BK377 := n1_; have GW377 := n2_; have GE377 := n3_; clear n0_ n1_ n2_ n3_; clear hb hbox hg) | ((with_reducible refine gate_dst (N := 3) rfl ?_); refine box_event ?hg (N := 3) ?hd (cs := #[.int .i64 a1_0, .int .i64 a1_1, .int .i64 a1_2, .int .i64 a1_3]) (t := 41) ?hr ?_; (case hd => rfl); (case hg => rfl); (case hr => first | (go_simp; done) | (go_simp; rfl)); intro gb378 hg w28 hbox hb; have n0_ := az (blk_below (g := gb377) (o := .cells #[.int .i64 a0_0, .int .i64 a0_1, .int .i64 a0_2, .int .i64 a0_3] 41 (0, 0)) (by (with_reducible repeat (first | refine blk_drewN ?_ _ | refine blk_drew ?_ | refine blk_alloc ?_ _)); exact BK377.out) hb); have n1_ := az (below_step (by repeat (first | (with_reducible first | exact HB.out | apply below_alloc | apply pw_below_drewN | apply below_drew1 | refine below_set ?_ GE377.out) | exact HB.out)) hb); have n2_ := az (hbox); have n3_ := az ((by rw [hg]; exact (below_size (by repeat (first | (with_reducible first | exact HB.out | apply below_alloc | apply pw_below_drewN | apply below_drew1 | refine below_set ?_ GE377.out) | exact HB.out))) : w.heap.size ≤ gb378)); have n4_ := az ((by rw [hg]; exact (below_size (by repeat (first | (with_reducible first | exact HB.out | apply below_alloc | apply pw_below_drewN | apply below_drew1 | refine below_set ?_ GE377.out) | exact HB.out))) : w.heap.size ≤ gb378)); have n5_ := az ((by rw [hg]; exact Nat.ne_of_lt (blk_lt (g := gb377) (o := .cells #[.int .i64 a0_0, .int .i64 a0_1, .int .i64 a0_2, .int .i64 a0_3] 41 (0, 0)) (by (with_reducible repeat (first | refine blk_drewN ?_ _ | refine blk_drew ?_ | refine blk_alloc ?_ _)); exact BK377.out)) : gb377 ≠ gb378)); have n6_ := az ((by rw [hg]; exact Nat.ne_of_gt (blk_lt (g := gb377) (o := .cells #[.int .i64 a0_0, .int .i64 a0_1, .int .i64 a0_2, .int .i64 a0_3] 41 (0, 0)) (by (with_reducible repeat (first | refine blk_drewN ?_ _ | refine blk_drew ?_ | refine blk_alloc ?_ _)); exact BK377.out)) : gb378 ≠ gb377)); clear BK377; clear HB; have BK377 := n0_; have HB := n1_; have BK378 := n2_; have GW378 := n3_; have GE378 := n4_; have NB377_378 := n5_; have NB378_377 := n6_; clear n0_ n1_ n2_ n3_ n4_ n5_ n6_; clear hb hbox hg; have hnb29 := NB377_378.out; have hnc29 := NB378_377.out; have hcz30_0 : w28.cell? ⟨gb377, 0, none⟩ = some (.int .i64 a0_0) := (blk_cell BK377.out 0).trans rfl; have hcz30_1 : w28.cell? ⟨gb377, 1, none⟩ = some (.int .i64 a0_1) := (blk_cell BK377.out 1).trans rfl; have hcz30_2 : w28.cell? ⟨gb377, 2, none⟩ = some (.int .i64 a0_2) := (blk_cell BK377.out 2).trans rfl; have hcz30_3 : w28.cell? ⟨gb377, 3, none⟩ = some (.int .i64 a0_3) := (blk_cell BK377.out 3).trans rfl; have hfz30_0 := blk_frozen BK377.out 0; have hfz30_1 := blk_frozen BK377.out 1; have hfz30_2 := blk_frozen BK377.out 2; have hfz30_3 := blk_frozen BK377.out 3; have hcz31_0 : w28.cell? ⟨gb378, 0, none⟩ = some (.int .i64 a1_0) := (blk_cell BK378.out 0).trans rfl; have hcz31_1 : w28.cell? ⟨gb378, 1, none⟩ = some (.int .i64 a1_1) := (blk_cell BK378.out 1).trans rfl; have hcz31_2 : w28.cell? ⟨gb378, 2, none⟩ = some (.int .i64 a1_2) := (blk_cell BK378.out 2).trans rfl; have hcz31_3 : w28.cell? ⟨gb378, 3, none⟩ = some (.int .i64 a1_3) := (blk_cell BK378.out 3).trans rfl; have hfz31_0 := blk_frozen BK378.out 0; have hfz31_1 := blk_frozen BK378.out 1; have hfz31_2 := blk_frozen BK378.out 2; have hfz31_3 := blk_frozen BK378.out 3))
  go_ret; exact ⟨by first | rfl | (simp [errW_none, errW_some] <;> rfl) | (simp [*, errW_none, errW_some] <;> rfl), by repeat (first | (with_reducible first | exact HB.out | apply below_alloc | apply pw_below_drewN | apply below_drew1 | refine below_set ?_ GE377.out | refine below_set ?_ GE378.out) | exact HB.out)⟩
end Go.Proofs.Ytmcdcogedcbndaa.S
