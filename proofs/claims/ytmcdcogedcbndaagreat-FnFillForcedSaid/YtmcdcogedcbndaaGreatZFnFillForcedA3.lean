/- Of drawn letters, spans, a width and a way: a line that is too wide is one cluster; one that ends within a word ends with a cluster, and the word has no room on it; the lines are the reference's. No condition beyond the statement's own. (text 4 of 7 of this claim: functions of the program and of the reference as plain Lean functions, what a call of each comes to, and what follows.) -/
import Derived.Test.YtmcdcogedcbndaaGreatZFnFillForcedA0
import Derived.Test.YtmcdcogedcbndaaGreatZFnFillForcedA2
import Derived.Test.YtmcdcogedcbndaaGreatZFnFillForcedA1
set_option maxHeartbeats 16000000
set_option maxRecDepth 100000
set_option linter.unusedVariables false
set_option linter.unusedSimpArgs false
namespace Go.Proofs.YtmcdcogedcbndaaGreat.S
open Go.RowKit Go.Proofs.YtmcdcogedcbndaaGreatW.PrintWords Go.Proofs.YtmcdcogedcbndaaGreatW.PrintLast
set_option linter.unusedVariables false
set_option linter.unusedSimpArgs false
mutual
def spec_RuneWide.j0 : Nat → Int → Int → Bool → Option (Int)
 | 0, _, _, _ => none
 | k + 1, x0, x3, x6 => if x6 = true then (some 0) else ((spec_l1Has.f k (([105, 106, 108, 102, 116] : List Int)) x0).bind fun t146 => (if t146 = true then (some 6) else (if x0 = 109 then (spec_RuneWide.j1 k x0 x3 true) else (spec_RuneWide.j1 k x0 x3 (x0 == 119)))))
def spec_RuneWide.j1 : Nat → Int → Int → Bool → Option (Int)
 | 0, _, _, _ => none
 | k + 1, x0, x3, x29 => if x29 = true then (some 16) else ((spec_l1In.f x0 19968 40959).bind fun t147 => (if t147 = true then (some 20) else (if x3 = 2 then (spec_RuneWide.j2 k x3 true) else (spec_RuneWide.j2 k x3 (x3 == 3)))))
def spec_RuneWide.j2 : Nat → Int → Bool → Option (Int)
 | 0, _, _ => none
 | k + 1, x3, x39 => if x39 = true then (some 12) else (if x3 = 11 then (some 40) else (if x3 = 12 then (some 6) else (if x3 = 8 then (some 6) else (some 10))))
end
def spec_RuneWide.f (k : Nat) (a0 : Int) : Option (Int) := (spec_RuneBidi.f k a0).bind fun t142 => (if t142 = 9 then (spec_RuneWide.j0 k a0 t142 true) else (if t142 = 10 then (spec_RuneWide.j0 k a0 t142 true) else (if t142 ≥ 14 then (spec_RuneWide.j0 k a0 t142 true) else (if a0 = 10 then (spec_RuneWide.j0 k a0 t142 true) else (spec_RuneWide.j0 k a0 t142 (a0 == 13))))))
theorem spec_RuneWide.mono_l : ∀ k, (∀ y0 y1 y2, LeO (spec_RuneWide.j0 k y0 y1 y2) (spec_RuneWide.j0 (k + 1) y0 y1 y2)) ∧ (∀ y0 y1 y2, LeO (spec_RuneWide.j1 k y0 y1 y2) (spec_RuneWide.j1 (k + 1) y0 y1 y2)) ∧ (∀ y0 y1, LeO (spec_RuneWide.j2 k y0 y1) (spec_RuneWide.j2 (k + 1) y0 y1))
 | 0 => ⟨fun _ _ _ r h => by simp [spec_RuneWide.j0] at h, fun _ _ _ r h => by simp [spec_RuneWide.j1] at h, fun _ _ r h => by simp [spec_RuneWide.j2] at h⟩
 | k + 1 => by
  obtain ⟨ih0, ih1, ih2⟩ := spec_RuneWide.mono_l k; refine ⟨?_, ?_, ?_⟩
  ·
   intro y0 y1 y2; unfold spec_RuneWide.j0
   repeat' first
   | (with_reducible exact ih0 _ _ _)
   | (with_reducible exact ih1 _ _ _)
   | (with_reducible exact ih2 _ _)
   | (with_reducible exact spec_RuneBidi.mono _ _)
   | (with_reducible exact spec_l1Has.mono _ _ _)
   | (with_reducible exact LeO.refl _)
   | (with_reducible exact LeO.none _)
   | (with_reducible refine LeO.ite ?_ ?_)
   | (with_reducible refine LeO.bind ?_ (fun _ => ?_))
   | exact ih0 _ _ _
   | exact ih1 _ _ _
   | exact ih2 _ _
   | exact spec_RuneBidi.mono _ _
   | exact spec_l1Has.mono _ _ _
   | exact LeO.none _
   | refine LeO.ite ?_ ?_
   | refine LeO.bind ?_ (fun _ => ?_)
  ·
   intro y0 y1 y2; unfold spec_RuneWide.j1
   repeat' first
   | (with_reducible exact ih0 _ _ _)
   | (with_reducible exact ih1 _ _ _)
   | (with_reducible exact ih2 _ _)
   | (with_reducible exact spec_RuneBidi.mono _ _)
   | (with_reducible exact spec_l1Has.mono _ _ _)
   | (with_reducible exact LeO.refl _)
   | (with_reducible exact LeO.none _)
   | (with_reducible refine LeO.ite ?_ ?_)
   | (with_reducible refine LeO.bind ?_ (fun _ => ?_))
   | exact ih0 _ _ _
   | exact ih1 _ _ _
   | exact ih2 _ _
   | exact spec_RuneBidi.mono _ _
   | exact spec_l1Has.mono _ _ _
   | exact LeO.none _
   | refine LeO.ite ?_ ?_
   | refine LeO.bind ?_ (fun _ => ?_)
  ·
   intro y0 y1; unfold spec_RuneWide.j2
   repeat' first
   | (with_reducible exact ih0 _ _ _)
   | (with_reducible exact ih1 _ _ _)
   | (with_reducible exact ih2 _ _)
   | (with_reducible exact spec_RuneBidi.mono _ _)
   | (with_reducible exact spec_l1Has.mono _ _ _)
   | (with_reducible exact LeO.refl _)
   | (with_reducible exact LeO.none _)
   | (with_reducible refine LeO.ite ?_ ?_)
   | (with_reducible refine LeO.bind ?_ (fun _ => ?_))
   | exact ih0 _ _ _
   | exact ih1 _ _ _
   | exact ih2 _ _
   | exact spec_RuneBidi.mono _ _
   | exact spec_l1Has.mono _ _ _
   | exact LeO.none _
   | refine LeO.ite ?_ ?_
   | refine LeO.bind ?_ (fun _ => ?_)
theorem spec_RuneWide.mono : ∀ a0 k, LeO (spec_RuneWide.f k a0) (spec_RuneWide.f (k + 1) a0) := by
 intro a0 k; obtain ⟨ih0, ih1, ih2⟩ := spec_RuneWide.mono_l k; unfold spec_RuneWide.f
 repeat' first
   | (with_reducible exact ih0 _ _ _)
   | (with_reducible exact ih1 _ _ _)
   | (with_reducible exact ih2 _ _)
   | (with_reducible exact spec_RuneBidi.mono _ _)
   | (with_reducible exact spec_l1Has.mono _ _ _)
   | (with_reducible exact LeO.refl _)
   | (with_reducible exact LeO.none _)
   | (with_reducible refine LeO.ite ?_ ?_)
   | (with_reducible refine LeO.bind ?_ (fun _ => ?_))
   | exact ih0 _ _ _
   | exact ih1 _ _ _
   | exact ih2 _ _
   | exact spec_RuneBidi.mono _ _
   | exact spec_l1Has.mono _ _ _
   | exact LeO.none _
   | refine LeO.ite ?_ ?_
   | refine LeO.bind ?_ (fun _ => ?_)
theorem spec_RuneWide.calls (k : Nat) (a0 : Int) (r : Int) (w : World) (h : spec_RuneWide.f k a0 = some r) :
  Calls Tryz.prog 136 #[.int .i64 a0] w fun e w' => e = .returned (.int .i64 r) ∧ Below w.heap.size w w' := by
 have HB := az (Below.refl w.heap.size w); have H : ((spec_RuneBidi.f k a0).bind fun t142 => (if t142 = 9 then (spec_RuneWide.j0 k a0 t142 true) else (if t142 = 10 then (spec_RuneWide.j0 k a0 t142 true) else (if t142 ≥ 14 then (spec_RuneWide.j0 k a0 t142 true) else (if a0 = 10 then (spec_RuneWide.j0 k a0 t142 true) else (spec_RuneWide.j0 k a0 t142 (a0 == 13))))))) = some r := h; clear h; replace H := Option.bind_eq_some_iff.mp H; obtain ⟨t142, A20, H⟩ := H; replace H : (if t142 = 9 then (spec_RuneWide.j0 k a0 t142 true) else (if t142 = 10 then (spec_RuneWide.j0 k a0 t142 true) else (if t142 ≥ 14 then (spec_RuneWide.j0 k a0 t142 true) else (if a0 = 10 then (spec_RuneWide.j0 k a0 t142 true) else (spec_RuneWide.j0 k a0 t142 (a0 == 13)))))) = some r := H; have A2 := az A20; clear A20; have HC3 := az H; clear H; go_enter Tryz.func136, Tryz.ntmps136; go_upto_region 2 with (first | ((with_reducible refine gate_callee (f := 137) rfl ?_); refine goesL_ (some 5) rfl rfl Tryz.func137 (by kernel_rfl) rfl #[.int .i64 a0] rfl zC ?_; (with_reducible refine (spec_RuneBidi.calls k a0 t142 _ A2.out).mono ?_); rintro e w4 ⟨rfl, hb⟩; refine ⟨_, rfl, ?_⟩; have n0_ := az (below_step (zA HB.out) hb); clear HB; have HB := n0_; clear n0_; (try clear hb); (try clear hb2); (try clear hk); (try clear hi)))
 (try simp only [Act.put, List.setIfInBounds_toArray, List.set_cons_zero, List.set_cons_succ]); go_cut [6] (fun v6 wc => ∃ (kq : Nat) (x6_2 : Bool), v6 = .bool x6_2 ∧ Aside0 (spec_RuneWide.j0 kq a0 t142 x6_2 = some r) ∧ Aside0 (kq ≤ k) ∧ Aside0 (Below w.heap.size w wc))
 case first =>
  have H := HC3.out; clear HC3; by_cases c5 : t142 = 9
  ·
   rw [if_pos c5] at H; have c5b0 : (t142 == 9) = true := beq_iff_eq.mpr c5; have c5b1 : (t142 != 9) = false := bne_eq_false_iff_eq.mpr c5; clear c5; (first | rw [c5b0] | (simp only [i64_w, i32_w]; rw [c5b0]) | skip); have H' := az H; clear H; go_wp2; go_meet
   case rel => exact ⟨_, (true), zB, H', ⟨zI⟩, ⟨zA HB.out⟩⟩
  ·
   rw [if_neg c5] at H; have c5b0 : (t142 == 9) = false := beq_eq_false_iff_ne.mpr c5; have c5b1 : (t142 != 9) = true := bne_iff_ne.mpr c5; (first | rw [c5b0] | (simp only [i64_w, i32_w]; rw [c5b0]) | skip); by_cases c6 : t142 = 10
   ·
    rw [if_pos c6] at H; have c6b0 : (t142 == 10) = true := beq_iff_eq.mpr c6; have c6b1 : (t142 != 10) = false := bne_eq_false_iff_eq.mpr c6; clear c6; have H' := az H; clear H; go_wp2; go_meet
    case rel => exact ⟨_, (true), zB, H', ⟨zI⟩, ⟨zA HB.out⟩⟩
   ·
    rw [if_neg c6] at H; have c6b0 : (t142 == 10) = false := beq_eq_false_iff_ne.mpr c6; have c6b1 : (t142 != 10) = true := bne_iff_ne.mpr c6; by_cases c7 : t142 ≥ 14
    ·
     rw [if_pos c7] at H; have c7b0 : decide (14 ≤ t142) = true := decide_eq_true c7; clear c7; have H' := az H; clear H; go_wp2; go_meet
     case rel => exact ⟨_, (true), zB, H', ⟨zI⟩, ⟨zA HB.out⟩⟩
    ·
     rw [if_neg c7] at H; have c7b0 : decide (14 ≤ t142) = false := decide_eq_false c7; clear c7; by_cases c8 : a0 = 10
     ·
      rw [if_pos c8] at H; have c8b0 : (a0 == 10) = true := beq_iff_eq.mpr c8; have c8b1 : (a0 != 10) = false := bne_eq_false_iff_eq.mpr c8; clear c8; have H' := az H; clear H; go_wp2; go_meet
      case rel => exact ⟨_, (true), zB, H', ⟨zI⟩, ⟨zA HB.out⟩⟩
     ·
      rw [if_neg c8] at H; have c8b0 : (a0 == 10) = false := beq_eq_false_iff_ne.mpr c8; have c8b1 : (a0 != 10) = true := bne_iff_ne.mpr c8; have H' := az H; clear H; go_wp2; go_meet
      case rel => exact ⟨_, ((a0 == 13)), zB, H', ⟨zI⟩, ⟨zA HB.out⟩⟩
 case rest =>
  clear HC3; (try clear c1); (try clear p2); (try clear c5); (try clear c5b0); (try clear c5b1); (try clear c6); (try clear c6b0); (try clear c6b1); (try clear c7); (try clear c7b0); (try clear c8); (try clear c8b0); (try clear c8b1); obtain ⟨kq, x6_2, rfl, HA, HJ2, HB⟩ := hcut
  cases kq with
  | zero => exact absurd HA.out (by simp [spec_RuneWide.j0])
  | succ kj2 =>
   have H := HA.out; clear HA; simp only [spec_RuneWide.j0] at H; by_cases c9 : x6_2 = true
   ·
    subst c9; have H1 : (some 0) = some r := by rw [if_pos rfl] at H; exact H
    clear H; have H := H1; clear H1; obtain rfl := Option.some.inj H; go_wp2; go_ret; exact ⟨zG, zA HB.out⟩
   ·
    replace c9 := Bool.eq_false_iff.mpr c9; subst c9; have H1 : ((spec_l1Has.f kj2 (([105, 106, 108, 102, 116] : List Int)) a0).bind fun t146 => (if t146 = true then (some 6) else (if a0 = 109 then (spec_RuneWide.j1 kj2 a0 t142 true) else (spec_RuneWide.j1 kj2 a0 t142 (a0 == 119))))) = some r := by rw [if_neg (show ¬ (false = true) by decide)] at H; exact H
    clear H; have H := H1; clear H1; obtain ⟨y143, hy143⟩ : ∃ y_ : List Int, y_ = (([105, 106, 108, 102, 116] : List Int)) := ⟨_, rfl⟩; replace H : ((spec_l1Has.f kj2 y143 a0).bind fun t146 => (if t146 = true then (some 6) else (if a0 = 109 then (spec_RuneWide.j1 kj2 a0 t142 true) else (spec_RuneWide.j1 kj2 a0 t142 (a0 == 119))))) = some r := by first | (rw [hy143]; with_reducible exact H) | (have H2_ := (Option.bind_some _ _).symm.trans H; rw [hy143]; with_reducible exact H2_) | (have H2_ := (Option.bind_some _ _).symm.trans H; with_reducible exact H2_) | with_reducible exact H | (rw [hy143]; exact H) | exact H
    have Ny143 := az hy143; clear hy143; replace H := Option.bind_eq_some_iff.mp H; obtain ⟨t146, A100, H⟩ := H; replace H : (if t146 = true then (some 6) else (if a0 = 109 then (spec_RuneWide.j1 kj2 a0 t142 true) else (spec_RuneWide.j1 kj2 a0 t142 (a0 == 119)))) = some r := H; have A10 := az A100; clear A100; by_cases c11 : t146 = true
    ·
     subst c11; have H1 : (some 6) = some r := by rw [if_pos rfl] at H; exact H
     clear H; have H := H1; clear H1; obtain rfl := Option.some.inj H; go_wp2_with (first | ((with_reducible refine gate_dst (N := 26) rfl ?_); refine Kd.R_lit (Kd.int .i64) _ 3 ?hg (N := 26) ?hd (xs := ([105, 106, 108, 102, 116] : List Int)) (inner := [.int .i64 105, .int .i64 106, .int .i64 108, .int .i64 102, .int .i64 116]) (ok := fun _ => True) (okp := fun _ => True) ?hr ?hp (fun _ hk => hk) trivial (Below.refl _ _) (Nat.le_refl _) (by simp) ?_; (case hd => rfl); (case hg => rfl); (case hr => first | (go_simp; done) | (go_simp; rfl)); (case hp => exact (Reps.one (show Kd.M (Kd.int .i64) _ _ _ 105 [.int .i64 105] from rfl) (Reps.one (show Kd.M (Kd.int .i64) _ _ _ 106 [.int .i64 106] from rfl) (Reps.one (show Kd.M (Kd.int .i64) _ _ _ 108 [.int .i64 108] from rfl) (Reps.one (show Kd.M (Kd.int .i64) _ _ _ 102 [.int .i64 102] from rfl) (Reps.one (show Kd.M (Kd.int .i64) _ _ _ 116 [.int .i64 116] from rfl) (Reps.none _ _))))))); intro v144 w12 ho13 hb hg_ hnew_; clear hg_ hnew_; (first | rw [← Ny143.out] at ho13 | (simp only [Int.reduceToNat] at ho13; rw [← Ny143.out] at ho13)); have n0_ := az (Kd.R_lower ho13 (below_size (zA HB.out))); have n1_ := az (below_step (zA HB.out) hb); clear HB; have HO145 := n0_; have HB := n1_; clear n0_ n1_; clear hb ho13; obtain ⟨Ao14, co14, eo14⟩ := Kd.R_slice HO145.out; subst eo14) | ((with_reducible refine gate_callee (f := 143) rfl ?_); refine goesL_ (some 28) rfl rfl Tryz.func143 (by kernel_rfl) rfl #[.slice Ao14 y143.length co14, .int .i64 a0] rfl zC ?_; (with_reducible refine (spec_l1Has.calls kj2 _ _ y143 a0 true _ ?side1 ?side2 A10.out).mono ?_); (case side1 => exact (zR HO145.out)); (case side2 => exact (Kd.R_reads' HO145.out).2.1); rintro e w' ⟨rfl, ⟨nd, rfl⟩⟩; refine ⟨_, rfl, ?_⟩)); go_ret; exact ⟨zG, zA HB.out⟩
    ·
     replace c11 := Bool.eq_false_iff.mpr c11; subst c11; have H1 : (if a0 = 109 then (spec_RuneWide.j1 kj2 a0 t142 true) else (spec_RuneWide.j1 kj2 a0 t142 (a0 == 119))) = some r := by rw [if_neg (show ¬ (false = true) by decide)] at H; exact H
     clear H; have H := H1; clear H1; have HC15 := az H; clear H; go_upto_region 6 with (first | ((with_reducible refine gate_dst (N := 26) rfl ?_); refine Kd.R_lit (Kd.int .i64) _ 3 ?hg (N := 26) ?hd (xs := ([105, 106, 108, 102, 116] : List Int)) (inner := [.int .i64 105, .int .i64 106, .int .i64 108, .int .i64 102, .int .i64 116]) (ok := fun _ => True) (okp := fun _ => True) ?hr ?hp (fun _ hk => hk) trivial (Below.refl _ _) (Nat.le_refl _) (by simp) ?_; (case hd => rfl); (case hg => rfl); (case hr => first | (go_simp; done) | (go_simp; rfl)); (case hp => exact (Reps.one (show Kd.M (Kd.int .i64) _ _ _ 105 [.int .i64 105] from rfl) (Reps.one (show Kd.M (Kd.int .i64) _ _ _ 106 [.int .i64 106] from rfl) (Reps.one (show Kd.M (Kd.int .i64) _ _ _ 108 [.int .i64 108] from rfl) (Reps.one (show Kd.M (Kd.int .i64) _ _ _ 102 [.int .i64 102] from rfl) (Reps.one (show Kd.M (Kd.int .i64) _ _ _ 116 [.int .i64 116] from rfl) (Reps.none _ _))))))); intro v144 w16 ho17 hb hg_ hnew_; clear hg_ hnew_; (first | rw [← Ny143.out] at ho17 | (simp only [Int.reduceToNat] at ho17; rw [← Ny143.out] at ho17)); have n0_ := az (Kd.R_lower ho17 (below_size (zA HB.out))); have n1_ := az (below_step (zA HB.out) hb); clear HB; have HO145 := n0_; have HB := n1_; clear n0_ n1_; clear hb ho17; obtain ⟨Ao18, co18, eo18⟩ := Kd.R_slice HO145.out; subst eo18) | ((with_reducible refine gate_callee (f := 143) rfl ?_); refine goesL_ (some 28) rfl rfl Tryz.func143 (by kernel_rfl) rfl #[.slice Ao18 y143.length co18, .int .i64 a0] rfl zC ?_; (with_reducible refine (spec_l1Has.calls kj2 _ _ y143 a0 false _ ?side1 ?side2 A10.out).mono ?_); (case side1 => exact (zR HO145.out)); (case side2 => exact (Kd.R_reads' HO145.out).2.1); rintro e w' ⟨rfl, ⟨nd, rfl⟩⟩; refine ⟨_, rfl, ?_⟩))
     (try simp only [Act.put, List.setIfInBounds_toArray, List.set_cons_zero, List.set_cons_succ]); go_cut [29] (fun v29 wc => ∃ (kq : Nat) (x29_14 : Bool), v29 = .bool x29_14 ∧ Aside0 (spec_RuneWide.j1 kq a0 t142 x29_14 = some r) ∧ Aside0 (kq ≤ kj2) ∧ Aside0 (Below w.heap.size w wc))
     case first =>
      have H := HC15.out; clear HC15; by_cases c19 : a0 = 109
      ·
       rw [if_pos c19] at H; have c19b0 : (a0 == 109) = true := beq_iff_eq.mpr c19; have c19b1 : (a0 != 109) = false := bne_eq_false_iff_eq.mpr c19; clear c19; (first | rw [c19b0] | (simp only [i64_w, i32_w]; rw [c19b0]) | skip); have H' := az H; clear H; go_wp2; go_meet
       case rel => exact ⟨_, (true), zB, H', ⟨zJ HJ2.out⟩, ⟨zA HB.out⟩⟩
      ·
       rw [if_neg c19] at H; have c19b0 : (a0 == 109) = false := beq_eq_false_iff_ne.mpr c19; have c19b1 : (a0 != 109) = true := bne_iff_ne.mpr c19; (first | rw [c19b0] | (simp only [i64_w, i32_w]; rw [c19b0]) | skip); have H' := az H; clear H; go_wp2; go_meet
       case rel => exact ⟨_, ((a0 == 119)), zB, H', ⟨zJ HJ2.out⟩, ⟨zA HB.out⟩⟩
     case rest =>
      clear HC15; (try clear c1); (try clear p2); (try clear c5); (try clear c5b0); (try clear c5b1); (try clear c6); (try clear c6b0); (try clear c6b1); (try clear c7); (try clear c7b0); (try clear c8); (try clear c8b0); (try clear c8b1); (try clear c9); (try clear c11); (try clear c13); (try clear c14); (try clear c19); (try clear c19b0); (try clear c19b1); (try clear p2); obtain ⟨kq, x29_14, rfl, HA, HJ14, HB⟩ := hcut
      cases kq with
      | zero => exact absurd HA.out (by simp [spec_RuneWide.j1])
      | succ kj14 =>
       have H := HA.out; clear HA; simp only [spec_RuneWide.j1] at H; by_cases c20 : x29_14 = true
       ·
        subst c20; have H1 : (some 16) = some r := by rw [if_pos rfl] at H; exact H
        clear H; have H := H1; clear H1; obtain rfl := Option.some.inj H; go_wp2; go_ret; exact ⟨zG, zA HB.out⟩
       ·
        replace c20 := Bool.eq_false_iff.mpr c20; subst c20; have H1 : ((spec_l1In.f a0 19968 40959).bind fun t147 => (if t147 = true then (some 20) else (if t142 = 2 then (spec_RuneWide.j2 kj14 t142 true) else (spec_RuneWide.j2 kj14 t142 (t142 == 3))))) = some r := by rw [if_neg (show ¬ (false = true) by decide)] at H; exact H
        clear H; have H := H1; clear H1; replace H := Option.bind_eq_some_iff.mp H; obtain ⟨t147, A210, H⟩ := H; replace H : (if t147 = true then (some 20) else (if t142 = 2 then (spec_RuneWide.j2 kj14 t142 true) else (spec_RuneWide.j2 kj14 t142 (t142 == 3)))) = some r := H; have A21 := az A210; clear A210; by_cases c22 : t147 = true
        ·
         subst c22; have H1 : (some 20) = some r := by rw [if_pos rfl] at H; exact H
         clear H; have H := H1; clear H1; obtain rfl := Option.some.inj H; go_wp2_with (first | ((with_reducible refine gate_callee (f := 36) rfl ?_); refine goesL_ (some 38) rfl rfl Tryz.func36 (by kernel_rfl) rfl #[.int .i64 a0, .int .i64 19968, .int .i64 40959] rfl zC ?_; (with_reducible refine (spec_l1In.calls a0 19968 40959 true _ A21.out).mono ?_); rintro e w' ⟨rfl, ⟨nd, rfl⟩⟩; refine ⟨_, rfl, ?_⟩)); go_ret; exact ⟨zG, zA HB.out⟩
        ·
         replace c22 := Bool.eq_false_iff.mpr c22; subst c22; have H1 : (if t142 = 2 then (spec_RuneWide.j2 kj14 t142 true) else (spec_RuneWide.j2 kj14 t142 (t142 == 3))) = some r := by rw [if_neg (show ¬ (false = true) by decide)] at H; exact H
         clear H; have H := H1; clear H1; have HC23 := az H; clear H; go_upto_region 10 with (first | ((with_reducible refine gate_callee (f := 36) rfl ?_); refine goesL_ (some 38) rfl rfl Tryz.func36 (by kernel_rfl) rfl #[.int .i64 a0, .int .i64 19968, .int .i64 40959] rfl zC ?_; (with_reducible refine (spec_l1In.calls a0 19968 40959 false _ A21.out).mono ?_); rintro e w' ⟨rfl, ⟨nd, rfl⟩⟩; refine ⟨_, rfl, ?_⟩))
         (try simp only [Act.put, List.setIfInBounds_toArray, List.set_cons_zero, List.set_cons_succ]); go_cut [39] (fun v39 wc => ∃ (kq : Nat) (x39_22 : Bool), v39 = .bool x39_22 ∧ Aside0 (spec_RuneWide.j2 kq t142 x39_22 = some r) ∧ Aside0 (kq ≤ kj14) ∧ Aside0 (Below w.heap.size w wc))
         case first =>
          have H := HC23.out; clear HC23; by_cases c24 : t142 = 2
          ·
           rw [if_pos c24] at H; have c24b0 : (t142 == 2) = true := beq_iff_eq.mpr c24; have c24b1 : (t142 != 2) = false := bne_eq_false_iff_eq.mpr c24; clear c24; (first | rw [c24b0] | (simp only [i64_w, i32_w]; rw [c24b0]) | skip); have H' := az H; clear H; go_wp2; go_meet
           case rel => exact ⟨_, (true), zB, H', ⟨zO HJ2.out HJ14.out⟩, ⟨zA HB.out⟩⟩
          ·
           rw [if_neg c24] at H; have c24b0 : (t142 == 2) = false := beq_eq_false_iff_ne.mpr c24; have c24b1 : (t142 != 2) = true := bne_iff_ne.mpr c24; (first | rw [c24b0] | (simp only [i64_w, i32_w]; rw [c24b0]) | skip); have H' := az H; clear H; go_wp2; go_meet
           case rel => exact ⟨_, ((t142 == 3)), zB, H', ⟨zO HJ2.out HJ14.out⟩, ⟨zA HB.out⟩⟩
         case rest =>
          clear HC23; (try clear c1); (try clear c2); (try clear p2); (try clear c3); (try clear c5); (try clear c5b0); (try clear c5b1); (try clear c6); (try clear c6b0); (try clear c6b1); (try clear c7); (try clear c7b0); (try clear c8); (try clear c8b0); (try clear c8b1); (try clear c9); (try clear c11); (try clear c13); (try clear c14); (try clear c19); (try clear c19b0); (try clear c19b1); (try clear c20); (try clear c22); (try clear c24); (try clear c24b0); (try clear c24b1); (try clear p2); obtain ⟨kq, x39_22, rfl, HA, HJ22, HB⟩ := hcut
          cases kq with
          | zero => exact absurd HA.out (by simp [spec_RuneWide.j2])
          | succ kj22 =>
           have H := HA.out; clear HA; simp only [spec_RuneWide.j2] at H; by_cases c25 : x39_22 = true
           ·
            subst c25; have H1 : (some 12) = some r := by rw [if_pos rfl] at H; exact H
            clear H; have H := H1; clear H1; obtain rfl := Option.some.inj H; go_wp2; go_ret; exact ⟨zG, zA HB.out⟩
           ·
            replace c25 := Bool.eq_false_iff.mpr c25; subst c25; have H1 : (if t142 = 11 then (some 40) else (if t142 = 12 then (some 6) else (if t142 = 8 then (some 6) else (some 10)))) = some r := by rw [if_neg (show ¬ (false = true) by decide)] at H; exact H
            clear H; have H := H1; clear H1; by_cases c26 : t142 = 11
            ·
             rw [if_pos c26] at H; have c26b0 : (t142 == 11) = true := beq_iff_eq.mpr c26; have c26b1 : (t142 != 11) = false := bne_eq_false_iff_eq.mpr c26; clear c26; obtain rfl := Option.some.inj H; go_wp2; go_ret; exact ⟨zG, zA HB.out⟩
            ·
             rw [if_neg c26] at H; have c26b0 : (t142 == 11) = false := beq_eq_false_iff_ne.mpr c26; have c26b1 : (t142 != 11) = true := bne_iff_ne.mpr c26; by_cases c27 : t142 = 12
             ·
              rw [if_pos c27] at H; have c27b0 : (t142 == 12) = true := beq_iff_eq.mpr c27; have c27b1 : (t142 != 12) = false := bne_eq_false_iff_eq.mpr c27; clear c27; obtain rfl := Option.some.inj H; go_wp2; go_ret; exact ⟨zG, zA HB.out⟩
             ·
              rw [if_neg c27] at H; have c27b0 : (t142 == 12) = false := beq_eq_false_iff_ne.mpr c27; have c27b1 : (t142 != 12) = true := bne_iff_ne.mpr c27; by_cases c28 : t142 = 8
              ·
               rw [if_pos c28] at H; have c28b0 : (t142 == 8) = true := beq_iff_eq.mpr c28; have c28b1 : (t142 != 8) = false := bne_eq_false_iff_eq.mpr c28; clear c28; obtain rfl := Option.some.inj H; go_wp2; go_ret; exact ⟨zG, zA HB.out⟩
              ·
               rw [if_neg c28] at H; have c28b0 : (t142 == 8) = false := beq_eq_false_iff_ne.mpr c28; have c28b1 : (t142 != 8) = true := bne_iff_ne.mpr c28; obtain rfl := Option.some.inj H; go_wp2; go_ret; exact ⟨zG, zA HB.out⟩
end Go.Proofs.YtmcdcogedcbndaaGreat.S
/- What a search by halves in an ascending row of reaches finds: the first reach that holds the number. -/
namespace Go.Proofs.YtmcdcogedcbndaaGreat.Pure
open Go.RowKit Go.Proofs.YtmcdcogedcbndaaGreat.S Go.Proofs.YtmcdcogedcbndaaGreatW.PrintWords Go.Proofs.YtmcdcogedcbndaaGreatW.PrintLast
theorem cmpR_neg {x : S120} {r : Int} (h : x.f0 ≤ x.f1) : cmpR x r < 0 ↔ x.f1 < r := by
 unfold cmpR; split
 · omega
 ·
  split
  · omega
  · split <;> omega
theorem cmpR_zero {x : S120} {r : Int} (h : x.f0 ≤ x.f1) : cmpR x r = 0 ↔ x.f0 ≤ r ∧ r ≤ x.f1 := by
 unfold cmpR; split
 · omega
 ·
  split
  · omega
  · split <;> omega
def inR (r : Int) (x : S120) : Bool := decide (x.f0 ≤ r) && decide (r ≤ x.f1)
theorem inR_iff {r : Int} {x : S120} : inR r x = true ↔ x.f0 ≤ r ∧ r ≤ x.f1 := by simp [inR]
theorem inR_not {r : Int} {x : S120} (h : ¬ (x.f0 ≤ r ∧ r ≤ x.f1)) : inR r x = false := by
 cases e : inR r x
 · rfl
 · exact absurd (inR_iff.1 e) h
def ascR : List S120 → Bool
 | [] => true
 | x :: l => decide (x.f0 ≤ x.f1) && l.all (fun y => decide (x.f1 < y.f0)) && ascR l
theorem ascR_le : ∀ {l : List S120}, ascR l = true → ∀ t, t < l.length → (l.getD t z120).f0 ≤ (l.getD t z120).f1
 | x :: l, h, 0, _ => by simp [ascR] at h; simpa using h.1.1
 | x :: l, h, t + 1, ht => by simp [ascR] at h; simpa using ascR_le (l := l) h.2 t (by simpa using ht)
theorem ascR_lt : ∀ {l : List S120}, ascR l = true → ∀ s t, s < t → t < l.length → (l.getD s z120).f1 < (l.getD t z120).f0
 | x :: l, h, 0, t + 1, _, ht => by
  simp [ascR] at h
  have ht' : t < l.length := by simpa using ht
  simpa [List.getD_eq_getElem?_getD, ht'] using h.1.2 (l[t]) (List.getElem_mem ht')
 | x :: l, h, s + 1, t + 1, hst, ht => by simp [ascR] at h; simpa using ascR_lt (l := l) h.2 s t (by omega) (by simpa using ht)
theorem bsR_bounds {l : List S120} {r : Int} (ha : ascR l = true) : ∀ (k lo hi : Nat), hi - lo ≤ k → lo ≤ hi → hi ≤ l.length →
  (∀ t, t < lo → (l.getD t z120).f1 < r) → (∀ t, hi ≤ t → t < l.length → r ≤ (l.getD t z120).f1) →
  bsR l r k lo hi ≤ l.length ∧ (∀ t, t < bsR l r k lo hi → (l.getD t z120).f1 < r) ∧ (∀ t, bsR l r k lo hi ≤ t → t < l.length → r ≤ (l.getD t z120).f1)
 | 0, lo, hi, hk, hlh, hn, h1, h2 => by
  obtain rfl : lo = hi := by omega
  exact ⟨hn, h1, h2⟩
 | k + 1, lo, hi, hk, hlh, hn, h1, h2 => by
  rw [bsR]
  by_cases hlt : lo < hi
  ·
   rw [if_pos hlt]
   have hm : (lo + hi) / 2 < l.length := by omega
   have hle := ascR_le ha _ hm
   by_cases hc : cmpR (l.getD ((lo + hi) / 2) z120) r < 0
   ·
    rw [if_pos hc]
    refine bsR_bounds ha k _ hi (by omega) (by omega) hn (fun t ht => ?_) h2
    have hc' := (cmpR_neg hle).1 hc
    by_cases e : t = (lo + hi) / 2
    · rw [e]; exact hc'
    ·
     have := ascR_lt ha t ((lo + hi) / 2) (by omega) hm
     omega
   ·
    rw [if_neg hc]
    refine bsR_bounds ha k lo _ (by omega) (by omega) (by omega) h1 (fun t ht htn => ?_)
    have hc' : r ≤ (l.getD ((lo + hi) / 2) z120).f1 := by
     have := (cmpR_neg (r := r) hle).2
     omega
    by_cases e : t = (lo + hi) / 2
    · rw [e]; exact hc'
    ·
     have a := ascR_lt ha ((lo + hi) / 2) t (by omega) htn
     have b := ascR_le ha t htn
     omega
  ·
   rw [if_neg hlt]
   obtain rfl : lo = hi := by omega
   exact ⟨hn, h1, h2⟩
theorem find?_at {l : List S120} {p : S120 → Bool} {i : Nat} (hi : i < l.length) (hp : p (l.getD i z120) = true) (hb : ∀ t, t < i → p (l.getD t z120) = false) : l.find? p = some (l.getD i z120) := by
 induction l generalizing i with
 | nil => simp at hi
 | cons x l ih =>
  cases i with
  | zero => simp at hp ⊢; simp [hp]
  | succ i =>
   have h0 : p x = false := by simpa using hb 0 (by omega)
   rw [List.find?_cons, h0]
   simpa using ih (i := i) (by simpa using hi) (by simpa using hp) (fun t ht => by simpa using hb (t + 1) (by omega))
theorem find?_none' {l : List S120} {p : S120 → Bool} (hb : ∀ t, t < l.length → p (l.getD t z120) = false) : l.find? p = none := by
 rw [List.find?_eq_none]
 intro x hx
 obtain ⟨t, ht, rfl⟩ := List.getElem_of_mem hx
 have := hb t ht
 simpa [List.getD_eq_getElem?_getD, ht] using this
theorem findV_eq {l : List S120} (ha : ascR l = true) (r o : Int) : findV l r o = match l.find? (inR r) with | some x => x.f2 | none => o := by
 obtain ⟨hn, h1, h2⟩ := bsR_bounds (r := r) ha l.length 0 l.length (by omega) (by omega) (Nat.le_refl _) (fun t ht => absurd ht (Nat.not_lt_zero _)) (fun t h h' => by omega)
 unfold findV
 generalize bsR l r l.length 0 l.length = i at hn h1 h2
 by_cases hc : i < l.length ∧ cmpR (l.getD i z120) r = 0
 ·
  rw [if_pos hc]
  have hz := (cmpR_zero (ascR_le ha i hc.1)).1 hc.2
  rw [find?_at hc.1 (inR_iff.2 hz) (fun t ht => inR_not (by have := h1 t ht; omega))]
 ·
  rw [if_neg hc]
  rw [find?_none' (fun t ht => ?_)]
  by_cases hlt : t < i
  · have := h1 t hlt; exact inR_not (by omega)
  ·
   have hi : i < l.length := by omega
   have hz : ¬ ((l.getD i z120).f0 ≤ r ∧ r ≤ (l.getD i z120).f1) := fun hh => hc ⟨hi, (cmpR_zero (ascR_le ha i hi)).2 hh⟩
   have hr := h2 i (Nat.le_refl _) hi
   by_cases e : t = i
   · rw [e]; exact inR_not hz
   ·
    have := ascR_lt ha i t (by omega) ht
    exact inR_not (by omega)
end Go.Proofs.YtmcdcogedcbndaaGreat.Pure
/- The direction of a letter, by both texts. -/
namespace Go.Proofs.YtmcdcogedcbndaaGreat.Pure
open Go.RowKit Go.Proofs.YtmcdcogedcbndaaGreat.S Go.Proofs.YtmcdcogedcbndaaGreatW.PrintWords Go.Proofs.YtmcdcogedcbndaaGreatW.PrintLast
theorem l1In_b (a b c : Int) : spec_l1In.f a b c = some (decide (b ≤ a) && decide (a ≤ c)) := by
 unfold spec_l1In.f
 by_cases h : b ≤ a <;> simp [h]
def moveV (a : Int) : Int := if a = 8234 then 14 else if a = 8235 then 15 else if a = 8236 then 16 else if a = 8237 then 17 else if a = 8238 then 18 else if a = 8294 then 19 else if a = 8295 then 20 else if a = 8296 then 21 else if a = 8297 then 22 else 13
def bidiV (a : Int) : Int := if 97 ≤ a ∧ a ≤ 122 then 1 else if 65 ≤ a ∧ a ≤ 90 then 1 else if 19968 ≤ a ∧ a ≤ 40959 then 1 else if 1488 ≤ a ∧ a ≤ 1514 then 2 else if 1569 ≤ a ∧ a ≤ 1610 then 3 else if 48 ≤ a ∧ a ≤ 57 then 4 else if 1632 ≤ a ∧ a ≤ 1641 then 7
 else if a = 43 then 5 else if a = 45 then 5 else if 35 ≤ a ∧ a ≤ 37 then 6 else if a = 44 then 8 else if a = 46 then 8 else if a = 47 then 8 else if a = 58 then 8 else if 768 ≤ a ∧ a ≤ 879 then 9
 else if a = 8203 then 10 else if a = 8205 then 10 else if a = 173 then 10 else if a = 9 then 11 else if a = 32 then 12 else moveV a
theorem moves_p (k : Nat) (a : Int) : spec_l1Moves.f (k + 10) a = some (moveV a) := by
 by_cases h1 : a = 8234
 · subst h1; simp [spec_l1Moves.f, spec_l1Moves.l0, rd, wrap64, moveV]
 by_cases h2 : a = 8235
 · subst h2; simp [spec_l1Moves.f, spec_l1Moves.l0, rd, wrap64, moveV]
 by_cases h3 : a = 8236
 · subst h3; simp [spec_l1Moves.f, spec_l1Moves.l0, rd, wrap64, moveV]
 by_cases h4 : a = 8237
 · subst h4; simp [spec_l1Moves.f, spec_l1Moves.l0, rd, wrap64, moveV]
 by_cases h5 : a = 8238
 · subst h5; simp [spec_l1Moves.f, spec_l1Moves.l0, rd, wrap64, moveV]
 by_cases h6 : a = 8294
 · subst h6; simp [spec_l1Moves.f, spec_l1Moves.l0, rd, wrap64, moveV]
 by_cases h7 : a = 8295
 · subst h7; simp [spec_l1Moves.f, spec_l1Moves.l0, rd, wrap64, moveV]
 by_cases h8 : a = 8296
 · subst h8; simp [spec_l1Moves.f, spec_l1Moves.l0, rd, wrap64, moveV]
 by_cases h9 : a = 8297
 · subst h9; simp [spec_l1Moves.f, spec_l1Moves.l0, rd, wrap64, moveV]
 have e : moveV a = 13 := by simp [moveV, h1, h2, h3, h4, h5, h6, h7, h8, h9]
 simp [spec_l1Moves.f, spec_l1Moves.l0, rd, wrap64, e, Ne.symm h1, Ne.symm h2, Ne.symm h3, Ne.symm h4, Ne.symm h5, Ne.symm h6, Ne.symm h7, Ne.symm h8, Ne.symm h9]
theorem signs_p (k : Nat) (a : Int) : spec_l1Signs.f (k + 13) a = some (if a = 43 then 5 else if a = 45 then 5 else if 35 ≤ a ∧ a ≤ 37 then 6 else if a = 44 then 8 else if a = 46 then 8 else if a = 47 then 8 else if a = 58 then 8 else if 768 ≤ a ∧ a ≤ 879 then 9
 else if a = 8203 then 10 else if a = 8205 then 10 else if a = 173 then 10 else if a = 9 then 11 else if a = 32 then 12 else moveV a) := by
 simp only [spec_l1Signs.f, spec_l1Signs.j0, spec_l1Signs.j1, spec_l1Signs.j2, l1In_b, Option.bind_some, moves_p]
 grind (splits := 40)
theorem spec_bidi_p (k : Nat) (a : Int) : spec_RuneBidi.f (k + 14) a = some (bidiV a) := by
 simp only [spec_RuneBidi.f, spec_RuneBidi.j0, l1In_b, Option.bind_some, signs_p, bidiV]
 grind (splits := 40)
theorem spec_bidi_k {k : Nat} (h : 14 ≤ k) (a : Int) : spec_RuneBidi.f k a = some (bidiV a) := by
 obtain ⟨k, rfl⟩ : ∃ m, k = m + 14 := ⟨k - 14, by omega⟩
 exact spec_bidi_p k a
theorem find_if {α : Type} (p : α → Bool) (x : α) (l : List α) : (x :: l).find? p = if p x = true then some x else l.find? p := by
 cases h : p x <;> simp [h]
theorem bidi_chain (a : Int) : (if 9 ≤ a ∧ a ≤ 9 then (11 : Int) else if 32 ≤ a ∧ a ≤ 32 then (12 : Int) else if 35 ≤ a ∧ a ≤ 37 then (6 : Int) else if 43 ≤ a ∧ a ≤ 43 then (5 : Int) else if 44 ≤ a ∧ a ≤ 44 then (8 : Int) else if 45 ≤ a ∧ a ≤ 45 then (5 : Int) else if 46 ≤ a ∧ a ≤ 47 then (8 : Int) else if 48 ≤ a ∧ a ≤ 57 then (4 : Int) else if 58 ≤ a ∧ a ≤ 58 then (8 : Int) else if 65 ≤ a ∧ a ≤ 90 then (1 : Int) else if 97 ≤ a ∧ a ≤ 122 then (1 : Int) else if 173 ≤ a ∧ a ≤ 173 then (10 : Int) else if 768 ≤ a ∧ a ≤ 879 then (9 : Int) else if 1488 ≤ a ∧ a ≤ 1514 then (2 : Int) else if 1569 ≤ a ∧ a ≤ 1610 then (3 : Int) else if 1632 ≤ a ∧ a ≤ 1641 then (7 : Int) else if 8203 ≤ a ∧ a ≤ 8203 then (10 : Int) else if 8205 ≤ a ∧ a ≤ 8205 then (10 : Int) else if 8234 ≤ a ∧ a ≤ 8234 then (14 : Int) else if 8235 ≤ a ∧ a ≤ 8235 then (15 : Int) else if 8236 ≤ a ∧ a ≤ 8236 then (16 : Int) else if 8237 ≤ a ∧ a ≤ 8237 then (17 : Int) else if 8238 ≤ a ∧ a ≤ 8238 then (18 : Int) else if 8294 ≤ a ∧ a ≤ 8294 then (19 : Int) else if 8295 ≤ a ∧ a ≤ 8295 then (20 : Int) else if 8296 ≤ a ∧ a ≤ 8296 then (21 : Int) else if 8297 ≤ a ∧ a ≤ 8297 then (22 : Int) else if 19968 ≤ a ∧ a ≤ 40959 then (1 : Int) else 13) = bidiV a := by
 unfold bidiV moveV
 by_cases h0 : a < 9
 · (repeat (first | rw [if_pos (by omega)] | rw [if_neg (by omega)])) <;> try rfl
 by_cases h1 : a < 10
 · (repeat (first | rw [if_pos (by omega)] | rw [if_neg (by omega)])) <;> try rfl
 clear h0
 by_cases h2 : a < 32
 · (repeat (first | rw [if_pos (by omega)] | rw [if_neg (by omega)])) <;> try rfl
 clear h1
 by_cases h3 : a < 33
 · (repeat (first | rw [if_pos (by omega)] | rw [if_neg (by omega)])) <;> try rfl
 clear h2
 by_cases h4 : a < 35
 · (repeat (first | rw [if_pos (by omega)] | rw [if_neg (by omega)])) <;> try rfl
 clear h3
 by_cases h5 : a < 38
 · (repeat (first | rw [if_pos (by omega)] | rw [if_neg (by omega)])) <;> try rfl
 clear h4
 by_cases h6 : a < 43
 · (repeat (first | rw [if_pos (by omega)] | rw [if_neg (by omega)])) <;> try rfl
 clear h5
 by_cases h7 : a < 44
 · (repeat (first | rw [if_pos (by omega)] | rw [if_neg (by omega)])) <;> try rfl
 clear h6
 by_cases h8 : a < 45
 · (repeat (first | rw [if_pos (by omega)] | rw [if_neg (by omega)])) <;> try rfl
 clear h7
 by_cases h9 : a < 46
 · (repeat (first | rw [if_pos (by omega)] | rw [if_neg (by omega)])) <;> try rfl
 clear h8
 by_cases h90 : a < 47
 · (repeat (first | rw [if_pos (by omega)] | rw [if_neg (by omega)])) <;> try rfl
 clear h9
 by_cases h10 : a < 48
 · (repeat (first | rw [if_pos (by omega)] | rw [if_neg (by omega)])) <;> try rfl
 clear h90
 by_cases h11 : a < 58
 · (repeat (first | rw [if_pos (by omega)] | rw [if_neg (by omega)])) <;> try rfl
 clear h10
 by_cases h12 : a < 59
 · (repeat (first | rw [if_pos (by omega)] | rw [if_neg (by omega)])) <;> try rfl
 clear h11
 by_cases h13 : a < 65
 · (repeat (first | rw [if_pos (by omega)] | rw [if_neg (by omega)])) <;> try rfl
 clear h12
 by_cases h14 : a < 91
 · (repeat (first | rw [if_pos (by omega)] | rw [if_neg (by omega)])) <;> try rfl
 clear h13
 by_cases h15 : a < 97
 · (repeat (first | rw [if_pos (by omega)] | rw [if_neg (by omega)])) <;> try rfl
 clear h14
 by_cases h16 : a < 123
 · (repeat (first | rw [if_pos (by omega)] | rw [if_neg (by omega)])) <;> try rfl
 clear h15
 by_cases h17 : a < 173
 · (repeat (first | rw [if_pos (by omega)] | rw [if_neg (by omega)])) <;> try rfl
 clear h16
 by_cases h18 : a < 174
 · (repeat (first | rw [if_pos (by omega)] | rw [if_neg (by omega)])) <;> try rfl
 clear h17
 by_cases h19 : a < 768
 · (repeat (first | rw [if_pos (by omega)] | rw [if_neg (by omega)])) <;> try rfl
 clear h18
 by_cases h20 : a < 880
 · (repeat (first | rw [if_pos (by omega)] | rw [if_neg (by omega)])) <;> try rfl
 clear h19
 by_cases h21 : a < 1488
 · (repeat (first | rw [if_pos (by omega)] | rw [if_neg (by omega)])) <;> try rfl
 clear h20
 by_cases h22 : a < 1515
 · (repeat (first | rw [if_pos (by omega)] | rw [if_neg (by omega)])) <;> try rfl
 clear h21
 by_cases h23 : a < 1569
 · (repeat (first | rw [if_pos (by omega)] | rw [if_neg (by omega)])) <;> try rfl
 clear h22
 by_cases h24 : a < 1611
 · (repeat (first | rw [if_pos (by omega)] | rw [if_neg (by omega)])) <;> try rfl
 clear h23
 by_cases h25 : a < 1632
 · (repeat (first | rw [if_pos (by omega)] | rw [if_neg (by omega)])) <;> try rfl
 clear h24
 by_cases h26 : a < 1642
 · (repeat (first | rw [if_pos (by omega)] | rw [if_neg (by omega)])) <;> try rfl
 clear h25
 by_cases h27 : a < 8203
 · (repeat (first | rw [if_pos (by omega)] | rw [if_neg (by omega)])) <;> try rfl
 clear h26
 by_cases h28 : a < 8204
 · (repeat (first | rw [if_pos (by omega)] | rw [if_neg (by omega)])) <;> try rfl
 clear h27
 by_cases h29 : a < 8205
 · (repeat (first | rw [if_pos (by omega)] | rw [if_neg (by omega)])) <;> try rfl
 clear h28
 by_cases h30 : a < 8206
 · (repeat (first | rw [if_pos (by omega)] | rw [if_neg (by omega)])) <;> try rfl
 clear h29
 by_cases h31 : a < 8234
 · (repeat (first | rw [if_pos (by omega)] | rw [if_neg (by omega)])) <;> try rfl
 clear h30
 by_cases h32 : a < 8235
 · (repeat (first | rw [if_pos (by omega)] | rw [if_neg (by omega)])) <;> try rfl
 clear h31
 by_cases h33 : a < 8236
 · (repeat (first | rw [if_pos (by omega)] | rw [if_neg (by omega)])) <;> try rfl
 clear h32
 by_cases h34 : a < 8237
 · (repeat (first | rw [if_pos (by omega)] | rw [if_neg (by omega)])) <;> try rfl
 clear h33
 by_cases h35 : a < 8238
 · (repeat (first | rw [if_pos (by omega)] | rw [if_neg (by omega)])) <;> try rfl
 clear h34
 by_cases h36 : a < 8239
 · (repeat (first | rw [if_pos (by omega)] | rw [if_neg (by omega)])) <;> try rfl
 clear h35
 by_cases h37 : a < 8294
 · (repeat (first | rw [if_pos (by omega)] | rw [if_neg (by omega)])) <;> try rfl
 clear h36
 by_cases h38 : a < 8295
 · (repeat (first | rw [if_pos (by omega)] | rw [if_neg (by omega)])) <;> try rfl
 clear h37
 by_cases h39 : a < 8296
 · (repeat (first | rw [if_pos (by omega)] | rw [if_neg (by omega)])) <;> try rfl
 clear h38
 by_cases h40 : a < 8297
 · (repeat (first | rw [if_pos (by omega)] | rw [if_neg (by omega)])) <;> try rfl
 clear h39
 by_cases h41 : a < 8298
 · (repeat (first | rw [if_pos (by omega)] | rw [if_neg (by omega)])) <;> try rfl
 clear h40
 by_cases h42 : a < 19968
 · (repeat (first | rw [if_pos (by omega)] | rw [if_neg (by omega)])) <;> try rfl
 clear h41
 by_cases h43 : a < 40960
 · (repeat (first | rw [if_pos (by omega)] | rw [if_neg (by omega)])) <;> try rfl
 clear h42
 (repeat (first | rw [if_pos (by omega)] | rw [if_neg (by omega)])) <;> try rfl
theorem impl_bidi_p (a : Int) : impl_RuneBidi.f a = some (bidiV a) := by
 unfold impl_RuneBidi.f impl_bidiReaches.f impl_find.f
 rw [Option.bind_some, if_pos (by decide), findV_eq (by decide), ← bidi_chain]
 simp only [Option.bind_some, find_if, List.find?_nil, inR_iff]
 congr 1
 by_cases h : 9 ≤ a ∧ a ≤ 9
 · simp only [if_pos h]
 simp only [if_neg h]; clear h
 by_cases h : 32 ≤ a ∧ a ≤ 32
 · simp only [if_pos h]
 simp only [if_neg h]; clear h
 by_cases h : 35 ≤ a ∧ a ≤ 37
 · simp only [if_pos h]
 simp only [if_neg h]; clear h
 by_cases h : 43 ≤ a ∧ a ≤ 43
 · simp only [if_pos h]
 simp only [if_neg h]; clear h
 by_cases h : 44 ≤ a ∧ a ≤ 44
 · simp only [if_pos h]
 simp only [if_neg h]; clear h
 by_cases h : 45 ≤ a ∧ a ≤ 45
 · simp only [if_pos h]
 simp only [if_neg h]; clear h
 by_cases h : 46 ≤ a ∧ a ≤ 47
 · simp only [if_pos h]
 simp only [if_neg h]; clear h
 by_cases h : 48 ≤ a ∧ a ≤ 57
 · simp only [if_pos h]
 simp only [if_neg h]; clear h
 by_cases h : 58 ≤ a ∧ a ≤ 58
 · simp only [if_pos h]
 simp only [if_neg h]; clear h
 by_cases h : 65 ≤ a ∧ a ≤ 90
 · simp only [if_pos h]
 simp only [if_neg h]; clear h
 by_cases h : 97 ≤ a ∧ a ≤ 122
 · simp only [if_pos h]
 simp only [if_neg h]; clear h
 by_cases h : 173 ≤ a ∧ a ≤ 173
 · simp only [if_pos h]
 simp only [if_neg h]; clear h
 by_cases h : 768 ≤ a ∧ a ≤ 879
 · simp only [if_pos h]
 simp only [if_neg h]; clear h
 by_cases h : 1488 ≤ a ∧ a ≤ 1514
 · simp only [if_pos h]
 simp only [if_neg h]; clear h
 by_cases h : 1569 ≤ a ∧ a ≤ 1610
 · simp only [if_pos h]
 simp only [if_neg h]; clear h
 by_cases h : 1632 ≤ a ∧ a ≤ 1641
 · simp only [if_pos h]
 simp only [if_neg h]; clear h
 by_cases h : 8203 ≤ a ∧ a ≤ 8203
 · simp only [if_pos h]
 simp only [if_neg h]; clear h
 by_cases h : 8205 ≤ a ∧ a ≤ 8205
 · simp only [if_pos h]
 simp only [if_neg h]; clear h
 by_cases h : 8234 ≤ a ∧ a ≤ 8234
 · simp only [if_pos h]
 simp only [if_neg h]; clear h
 by_cases h : 8235 ≤ a ∧ a ≤ 8235
 · simp only [if_pos h]
 simp only [if_neg h]; clear h
 by_cases h : 8236 ≤ a ∧ a ≤ 8236
 · simp only [if_pos h]
 simp only [if_neg h]; clear h
 by_cases h : 8237 ≤ a ∧ a ≤ 8237
 · simp only [if_pos h]
 simp only [if_neg h]; clear h
 by_cases h : 8238 ≤ a ∧ a ≤ 8238
 · simp only [if_pos h]
 simp only [if_neg h]; clear h
 by_cases h : 8294 ≤ a ∧ a ≤ 8294
 · simp only [if_pos h]
 simp only [if_neg h]; clear h
 by_cases h : 8295 ≤ a ∧ a ≤ 8295
 · simp only [if_pos h]
 simp only [if_neg h]; clear h
 by_cases h : 8296 ≤ a ∧ a ≤ 8296
 · simp only [if_pos h]
 simp only [if_neg h]; clear h
 by_cases h : 8297 ≤ a ∧ a ≤ 8297
 · simp only [if_pos h]
 simp only [if_neg h]; clear h
 by_cases h : 19968 ≤ a ∧ a ≤ 40959
 · simp only [if_pos h]
 simp only [if_neg h]
end Go.Proofs.YtmcdcogedcbndaaGreat.Pure
namespace Go.Proofs.YtmcdcogedcbndaaGreat.S
open Go.RowKit Go.Proofs.YtmcdcogedcbndaaGreatW.PrintWords Go.Proofs.YtmcdcogedcbndaaGreatW.PrintLast
set_option linter.unusedVariables false
set_option linter.unusedSimpArgs false
def spec_l7Ends.l0 : Nat → List Int → Int → Int → Option (Bool)
 | 0, _, _, _ => none
 | k + 1, x0, x1, x5 => if x5 < (x0.length : Int) then (if x5 > 0 then (if 0 ≤ (wrap64 (x5 - 1)) then (if (wrap64 (x5 - 1)) < (x0.length : Int) then (if 0 ≤ x5 then (if (rd x0 (wrap64 (x5 - 1))) ≥ (rd x0 x5) then (some false) else ((spec_l1In.f (rd x0 x5) 1 x1).bind fun t476 => (if t476 = true then (spec_l7Ends.l0 k x0 x1 (wrap64 (x5 + 1))) else (some false)))) else (none)) else (none)) else (none)) else (if 0 ≤ x5 then ((spec_l1In.f (rd x0 x5) 1 x1).bind fun t478 => (if t478 = true then (spec_l7Ends.l0 k x0 x1 (wrap64 (x5 + 1))) else (some false))) else (none))) else (if x1 = 0 then (some ((x0.length : Int) == 0)) else (if (x0.length : Int) > 0 then (if 0 ≤ (wrap64 ((x0.length : Int) - 1)) then (if (wrap64 ((x0.length : Int) - 1)) < (x0.length : Int) then (some ((rd x0 (wrap64 ((x0.length : Int) - 1))) == x1)) else (none)) else (none)) else (some false)))
def spec_l7Ends.f (k : Nat) (l0 : List Int) (a1 : Int) : Option (Bool) := spec_l7Ends.l0 k l0 a1 0
theorem spec_l7Ends.mono_l : ∀ k, (∀ y0 y1 y2, LeO (spec_l7Ends.l0 k y0 y1 y2) (spec_l7Ends.l0 (k + 1) y0 y1 y2))
 | 0 => fun _ _ _ r h => by simp [spec_l7Ends.l0] at h
 | k + 1 => by
  have ih0 := spec_l7Ends.mono_l k
  ·
   intro y0 y1 y2; unfold spec_l7Ends.l0
   repeat' first
   | (with_reducible exact ih0 _ _ _)
   | (with_reducible exact LeO.refl _)
   | (with_reducible exact LeO.none _)
   | (with_reducible refine LeO.ite ?_ ?_)
   | (with_reducible refine LeO.bind ?_ (fun _ => ?_))
   | exact ih0 _ _ _
   | exact LeO.none _
   | refine LeO.ite ?_ ?_
   | refine LeO.bind ?_ (fun _ => ?_)
theorem spec_l7Ends.mono : ∀ a0 a1 k, LeO (spec_l7Ends.f k a0 a1) (spec_l7Ends.f (k + 1) a0 a1) := by
 intro a0 a1 k; have ih0 := spec_l7Ends.mono_l k; unfold spec_l7Ends.f
 repeat' first
   | (with_reducible exact ih0 _ _ _)
   | (with_reducible exact LeO.refl _)
   | (with_reducible exact LeO.none _)
   | (with_reducible refine LeO.ite ?_ ?_)
   | (with_reducible refine LeO.bind ?_ (fun _ => ?_))
   | exact ih0 _ _ _
   | exact LeO.none _
   | refine LeO.ite ?_ ?_
   | refine LeO.bind ?_ (fun _ => ?_)
theorem spec_l7Ends.calls (k : Nat) (A0 : Option Addr) (c0 : Nat) (l0 : List Int) (a1 : Int) (r : Bool) (w : World) (hr0 : Kd.C (Kd.int .i64) w A0 l0.length l0) (hc0 : l0.length ≤ c0) (h : spec_l7Ends.f k l0 a1 = some r) :
  Calls Tryz.prog 62 #[.slice A0 l0.length c0, .int .i64 a1] w fun e w' => e = .returned (.bool r) ∧ Drawn0 w w' := by
 have HR0 := az hr0; have HC0 := az hc0; clear hr0 hc0; have H : (spec_l7Ends.l0 k l0 a1 0) = some r := h; clear h; have H' := az H; clear H; go_enter Tryz.func62, Tryz.ntmps62; go_wp2; repeat (go_quiet (fail); try go_wp2)
 go_loopg [5] k (fun kq v5 w' => ∃ (x5_1 : Int), v5 = .int .i64 x5_1 ∧ Aside0 (spec_l7Ends.l0 kq l0 a1 x5_1 = some r) ∧ Aside0 (kq ≤ k) ∧ Drawn0 w w')
 case atStart => exact ⟨(0), zB, H', ⟨Nat.le_refl _⟩, zD⟩
 case round =>
  clear H'; (try clear p2); obtain ⟨x5_1, rfl, HA, HK1, ⟨m1, rfl⟩⟩ := hrel
  cases gk with
  | zero => exact absurd HA.out (by simp [spec_l7Ends.l0])
  | succ k1 =>
   have H := HA.out; clear HA; simp only [spec_l7Ends.l0] at H; by_cases c3 : x5_1 < (l0.length : Int)
   ·
    rw [if_pos c3] at H; have c3b0 : decide (x5_1 < (l0.length : Int)) = true := decide_eq_true c3; clear c3; by_cases c4 : x5_1 > 0
    ·
     rw [if_pos c4] at H; have c4b0 : decide (0 < x5_1) = true := decide_eq_true c4; clear c4; obtain ⟨ji5, hji5⟩ : ∃ j_ : Int, (wrap64 (x5_1 - 1)) = j_ := ⟨_, rfl⟩; replace H : (if 0 ≤ (ji5) then (if (ji5) < (l0.length : Int) then (if 0 ≤ x5_1 then (if (rd l0 (ji5)) ≥ (rd l0 x5_1) then (some false) else ((spec_l1In.f (rd l0 x5_1) 1 a1).bind fun t476 => (if t476 = true then (spec_l7Ends.l0 k1 l0 a1 (wrap64 (x5_1 + 1))) else (some false)))) else (none)) else (none)) else (none)) = some r := by first | (rw [hji5] at H; exact H) | (simp only [hji5] at H ⊢; exact H)
     have hji5w : (IntKind.i64.wrap (x5_1 - 1)) = ji5 := (i64_w _).trans hji5; by_cases c6 : 0 ≤ (ji5)
     ·
      rw [if_pos c6] at H; have c6b0 : decide (0 ≤ (ji5)) = true := decide_eq_true c6; clear c6; by_cases c7 : (ji5) < (l0.length : Int)
      ·
       rw [if_pos c7] at H; have c7b0 : decide ((ji5) < (l0.length : Int)) = true := decide_eq_true c7; clear c7; by_cases c8 : 0 ≤ x5_1
       ·
        rw [if_pos c8] at H; have c8b0 : decide (0 ≤ x5_1) = true := decide_eq_true c8; clear c8; by_cases c9 : (rd l0 (ji5)) ≥ (rd l0 x5_1)
        ·
         rw [if_pos c9] at H; have c9b0 : decide ((rd l0 x5_1) ≤ (rd l0 (ji5))) = true := decide_eq_true c9; clear c9; obtain rfl := Option.some.inj H; have p473 : 0 ≤ ((ji5) : Int) := of_decide_eq_true (by assumption); have q473 : (ji5) < (l0.length : Int) := of_decide_eq_true (by assumption); obtain ⟨ad473, e473, hx473_0⟩ := Kd.at_int HR0.out (ji5) p473 q473
         cases e473
         replace p473 := eq_true p473; replace q473 := eq_true q473; have p474 : 0 ≤ (x5_1 : Int) := of_decide_eq_true (by assumption); have q474 : x5_1 < (l0.length : Int) := of_decide_eq_true (by assumption); obtain ⟨ad474, e474, hx474_0⟩ := Kd.at_int HR0.out x5_1 p474 q474; obtain rfl : ad473 = ad474 := (by injection e474); replace p474 := eq_true p474; replace q474 := eq_true q474; go_wp2; repeat (go_quiet (fail); try go_wp2)
         go_ret; exact ⟨by first | rfl | (simp; done) | (simp only [← hji5] <;> (first | rfl | simp)) | (simp [*]; done), zD⟩
        ·
         rw [if_neg c9] at H; have c9b0 : decide ((rd l0 x5_1) ≤ (rd l0 (ji5))) = false := decide_eq_false c9; clear c9; replace H := Option.bind_eq_some_iff.mp H; obtain ⟨t476, A100, H⟩ := H; replace H : (if t476 = true then (spec_l7Ends.l0 k1 l0 a1 (wrap64 (x5_1 + 1))) else (some false)) = some r := H; have A10 := az A100; clear A100; by_cases c11 : t476 = true
         ·
          subst c11; have H1 : (spec_l7Ends.l0 k1 l0 a1 (wrap64 (x5_1 + 1))) = some r := by rw [if_pos rfl] at H; exact H
          clear H; have H := H1; clear H1; have H' := az H; clear H; have p473 : 0 ≤ ((ji5) : Int) := of_decide_eq_true (by assumption); have q473 : (ji5) < (l0.length : Int) := of_decide_eq_true (by assumption); obtain ⟨ad473, e473, hx473_0⟩ := Kd.at_int HR0.out (ji5) p473 q473
          cases e473
          replace p473 := eq_true p473; replace q473 := eq_true q473; have p474 : 0 ≤ (x5_1 : Int) := of_decide_eq_true (by assumption); have q474 : x5_1 < (l0.length : Int) := of_decide_eq_true (by assumption); obtain ⟨ad474, e474, hx474_0⟩ := Kd.at_int HR0.out x5_1 p474 q474; obtain rfl : ad473 = ad474 := (by injection e474); replace p474 := eq_true p474; replace q474 := eq_true q474; have p475 : 0 ≤ (x5_1 : Int) := of_decide_eq_true (by assumption); have q475 : x5_1 < (l0.length : Int) := of_decide_eq_true (by assumption); obtain ⟨ad475, e475, hx475_0⟩ := Kd.at_int HR0.out x5_1 p475 q475; obtain rfl : ad473 = ad475 := (by injection e475); replace p475 := eq_true p475; replace q475 := eq_true q475; go_wp2_with (first | (go_at_call 36; (with_reducible refine (spec_l1In.calls (rd l0 x5_1) 1 a1 true _ A10.out).mono ?_); rintro e w' ⟨rfl, ⟨nd, rfl⟩⟩; (try first | exact ⟨rfl, _, World.drewN_drewN _ _ _⟩ | exact ⟨rfl, _, Eq.trans (World.drewN_drewN _ _ _) (congrArg (World.drewN _) (Nat.add_assoc _ _ _))⟩))); repeat (go_quiet (first | (go_at_call 36; (with_reducible refine (spec_l1In.calls (rd l0 x5_1) 1 a1 true _ A10.out).mono ?_); rintro e w' ⟨rfl, ⟨nd, rfl⟩⟩; (try first | exact ⟨rfl, _, World.drewN_drewN _ _ _⟩ | exact ⟨rfl, _, Eq.trans (World.drewN_drewN _ _ _) (congrArg (World.drewN _) (Nat.add_assoc _ _ _))⟩))); try go_wp2_with (first | (go_at_call 36; (with_reducible refine (spec_l1In.calls (rd l0 x5_1) 1 a1 true _ A10.out).mono ?_); rintro e w' ⟨rfl, ⟨nd, rfl⟩⟩; (try first | exact ⟨rfl, _, World.drewN_drewN _ _ _⟩ | exact ⟨rfl, _, Eq.trans (World.drewN_drewN _ _ _) (congrArg (World.drewN _) (Nat.add_assoc _ _ _))⟩))))
          go_roundg k1
          case measure => have := HK1.out; omega
          case rel => exact ⟨(wrap64 (x5_1 + 1)), zB, H', ⟨zE HK1.out⟩, zD⟩
         ·
          replace c11 := Bool.eq_false_iff.mpr c11; subst c11; have H1 : (some false) = some r := by rw [if_neg (show ¬ (false = true) by decide)] at H; exact H
          clear H; have H := H1; clear H1; obtain rfl := Option.some.inj H; have p473 : 0 ≤ ((ji5) : Int) := of_decide_eq_true (by assumption); have q473 : (ji5) < (l0.length : Int) := of_decide_eq_true (by assumption); obtain ⟨ad473, e473, hx473_0⟩ := Kd.at_int HR0.out (ji5) p473 q473
          cases e473
          replace p473 := eq_true p473; replace q473 := eq_true q473; have p474 : 0 ≤ (x5_1 : Int) := of_decide_eq_true (by assumption); have q474 : x5_1 < (l0.length : Int) := of_decide_eq_true (by assumption); obtain ⟨ad474, e474, hx474_0⟩ := Kd.at_int HR0.out x5_1 p474 q474; obtain rfl : ad473 = ad474 := (by injection e474); replace p474 := eq_true p474; replace q474 := eq_true q474; have p475 : 0 ≤ (x5_1 : Int) := of_decide_eq_true (by assumption); have q475 : x5_1 < (l0.length : Int) := of_decide_eq_true (by assumption); obtain ⟨ad475, e475, hx475_0⟩ := Kd.at_int HR0.out x5_1 p475 q475; obtain rfl : ad473 = ad475 := (by injection e475); replace p475 := eq_true p475; replace q475 := eq_true q475; go_wp2_with (first | (go_at_call 36; (with_reducible refine (spec_l1In.calls (rd l0 x5_1) 1 a1 false _ A10.out).mono ?_); rintro e w' ⟨rfl, ⟨nd, rfl⟩⟩; (try first | exact ⟨rfl, _, World.drewN_drewN _ _ _⟩ | exact ⟨rfl, _, Eq.trans (World.drewN_drewN _ _ _) (congrArg (World.drewN _) (Nat.add_assoc _ _ _))⟩))); repeat (go_quiet (first | (go_at_call 36; (with_reducible refine (spec_l1In.calls (rd l0 x5_1) 1 a1 false _ A10.out).mono ?_); rintro e w' ⟨rfl, ⟨nd, rfl⟩⟩; (try first | exact ⟨rfl, _, World.drewN_drewN _ _ _⟩ | exact ⟨rfl, _, Eq.trans (World.drewN_drewN _ _ _) (congrArg (World.drewN _) (Nat.add_assoc _ _ _))⟩))); try go_wp2_with (first | (go_at_call 36; (with_reducible refine (spec_l1In.calls (rd l0 x5_1) 1 a1 false _ A10.out).mono ?_); rintro e w' ⟨rfl, ⟨nd, rfl⟩⟩; (try first | exact ⟨rfl, _, World.drewN_drewN _ _ _⟩ | exact ⟨rfl, _, Eq.trans (World.drewN_drewN _ _ _) (congrArg (World.drewN _) (Nat.add_assoc _ _ _))⟩))))
          go_ret; exact ⟨by first | rfl | (simp; done) | (simp only [← hji5] <;> (first | rfl | simp)) | (simp [*]; done), zD⟩
       ·
        rw [if_neg c8] at H; exact absurd H (by simp)
      ·
       rw [if_neg c7] at H; exact absurd H (by simp)
     ·
      rw [if_neg c6] at H; exact absurd H (by simp)
    ·
     rw [if_neg c4] at H; have c4b0 : decide (0 < x5_1) = false := decide_eq_false c4; clear c4; by_cases c12 : 0 ≤ x5_1
     ·
      rw [if_pos c12] at H; have c12b0 : decide (0 ≤ x5_1) = true := decide_eq_true c12; clear c12; replace H := Option.bind_eq_some_iff.mp H; obtain ⟨t478, A130, H⟩ := H; replace H : (if t478 = true then (spec_l7Ends.l0 k1 l0 a1 (wrap64 (x5_1 + 1))) else (some false)) = some r := H; have A13 := az A130; clear A130; by_cases c14 : t478 = true
      ·
       subst c14; have H1 : (spec_l7Ends.l0 k1 l0 a1 (wrap64 (x5_1 + 1))) = some r := by rw [if_pos rfl] at H; exact H
       clear H; have H := H1; clear H1; have H' := az H; clear H; have p477 : 0 ≤ (x5_1 : Int) := of_decide_eq_true (by assumption); have q477 : x5_1 < (l0.length : Int) := of_decide_eq_true (by assumption); obtain ⟨ad477, e477, hx477_0⟩ := Kd.at_int HR0.out x5_1 p477 q477
       cases e477
       replace p477 := eq_true p477; replace q477 := eq_true q477; go_wp2_with (first | (go_at_call 36; (with_reducible refine (spec_l1In.calls (rd l0 x5_1) 1 a1 true _ A13.out).mono ?_); rintro e w' ⟨rfl, ⟨nd, rfl⟩⟩; (try first | exact ⟨rfl, _, World.drewN_drewN _ _ _⟩ | exact ⟨rfl, _, Eq.trans (World.drewN_drewN _ _ _) (congrArg (World.drewN _) (Nat.add_assoc _ _ _))⟩))); repeat (go_quiet (first | (go_at_call 36; (with_reducible refine (spec_l1In.calls (rd l0 x5_1) 1 a1 true _ A13.out).mono ?_); rintro e w' ⟨rfl, ⟨nd, rfl⟩⟩; (try first | exact ⟨rfl, _, World.drewN_drewN _ _ _⟩ | exact ⟨rfl, _, Eq.trans (World.drewN_drewN _ _ _) (congrArg (World.drewN _) (Nat.add_assoc _ _ _))⟩))); try go_wp2_with (first | (go_at_call 36; (with_reducible refine (spec_l1In.calls (rd l0 x5_1) 1 a1 true _ A13.out).mono ?_); rintro e w' ⟨rfl, ⟨nd, rfl⟩⟩; (try first | exact ⟨rfl, _, World.drewN_drewN _ _ _⟩ | exact ⟨rfl, _, Eq.trans (World.drewN_drewN _ _ _) (congrArg (World.drewN _) (Nat.add_assoc _ _ _))⟩))))
       go_roundg k1
       case measure => have := HK1.out; omega
       case rel => exact ⟨(wrap64 (x5_1 + 1)), zB, H', ⟨zE HK1.out⟩, zD⟩
      ·
       replace c14 := Bool.eq_false_iff.mpr c14; subst c14; have H1 : (some false) = some r := by rw [if_neg (show ¬ (false = true) by decide)] at H; exact H
       clear H; have H := H1; clear H1; obtain rfl := Option.some.inj H; have p477 : 0 ≤ (x5_1 : Int) := of_decide_eq_true (by assumption); have q477 : x5_1 < (l0.length : Int) := of_decide_eq_true (by assumption); obtain ⟨ad477, e477, hx477_0⟩ := Kd.at_int HR0.out x5_1 p477 q477
       cases e477
       replace p477 := eq_true p477; replace q477 := eq_true q477; go_wp2_with (first | (go_at_call 36; (with_reducible refine (spec_l1In.calls (rd l0 x5_1) 1 a1 false _ A13.out).mono ?_); rintro e w' ⟨rfl, ⟨nd, rfl⟩⟩; (try first | exact ⟨rfl, _, World.drewN_drewN _ _ _⟩ | exact ⟨rfl, _, Eq.trans (World.drewN_drewN _ _ _) (congrArg (World.drewN _) (Nat.add_assoc _ _ _))⟩))); repeat (go_quiet (first | (go_at_call 36; (with_reducible refine (spec_l1In.calls (rd l0 x5_1) 1 a1 false _ A13.out).mono ?_); rintro e w' ⟨rfl, ⟨nd, rfl⟩⟩; (try first | exact ⟨rfl, _, World.drewN_drewN _ _ _⟩ | exact ⟨rfl, _, Eq.trans (World.drewN_drewN _ _ _) (congrArg (World.drewN _) (Nat.add_assoc _ _ _))⟩))); try go_wp2_with (first | (go_at_call 36; (with_reducible refine (spec_l1In.calls (rd l0 x5_1) 1 a1 false _ A13.out).mono ?_); rintro e w' ⟨rfl, ⟨nd, rfl⟩⟩; (try first | exact ⟨rfl, _, World.drewN_drewN _ _ _⟩ | exact ⟨rfl, _, Eq.trans (World.drewN_drewN _ _ _) (congrArg (World.drewN _) (Nat.add_assoc _ _ _))⟩))))
       go_ret; exact ⟨zB, zD⟩
     ·
      rw [if_neg c12] at H; exact absurd H (by simp)
   ·
    rw [if_neg c3] at H; have c3b0 : decide (x5_1 < (l0.length : Int)) = false := decide_eq_false c3; clear c3; by_cases c15 : a1 = 0
    ·
     rw [if_pos c15] at H; have c15b0 : (a1 == 0) = true := beq_iff_eq.mpr c15; have c15b1 : (a1 != 0) = false := bne_eq_false_iff_eq.mpr c15; clear c15; obtain rfl := Option.some.inj H; go_wp2; repeat (go_quiet (fail); try go_wp2)
     go_ret; exact ⟨zB, zD⟩
    ·
     rw [if_neg c15] at H; have c15b0 : (a1 == 0) = false := beq_eq_false_iff_ne.mpr c15; have c15b1 : (a1 != 0) = true := bne_iff_ne.mpr c15; by_cases c16 : (l0.length : Int) > 0
     ·
      rw [if_pos c16] at H; have c16b0 : decide (0 < (l0.length : Int)) = true := decide_eq_true c16; have c16b1 : decide (0 < l0.length) = true := decide_eq_true (by omega); clear c16; obtain ⟨ji17, hji17⟩ : ∃ j_ : Int, (wrap64 ((l0.length : Int) - 1)) = j_ := ⟨_, rfl⟩; replace H : (if 0 ≤ (ji17) then (if (ji17) < (l0.length : Int) then (some ((rd l0 (ji17)) == a1)) else (none)) else (none)) = some r := by first | (rw [hji17] at H; exact H) | (simp only [hji17] at H ⊢; exact H)
      have hji17w : (IntKind.i64.wrap ((l0.length : Int) - 1)) = ji17 := (i64_w _).trans hji17; by_cases c18 : 0 ≤ (ji17)
      ·
       rw [if_pos c18] at H; have c18b0 : decide (0 ≤ (ji17)) = true := decide_eq_true c18; clear c18; by_cases c19 : (ji17) < (l0.length : Int)
       ·
        rw [if_pos c19] at H; have c19b0 : decide ((ji17) < (l0.length : Int)) = true := decide_eq_true c19; clear c19; obtain rfl := Option.some.inj H; have p479 : 0 ≤ ((ji17) : Int) := of_decide_eq_true (by assumption); have q479 : (ji17) < (l0.length : Int) := of_decide_eq_true (by assumption); obtain ⟨ad479, e479, hx479_0⟩ := Kd.at_int HR0.out (ji17) p479 q479
        cases e479
        replace p479 := eq_true p479; replace q479 := eq_true q479; go_wp2; repeat (go_quiet (fail); try go_wp2)
        go_ret; exact ⟨by first | rfl | (simp; done) | (simp only [← hji17] <;> (first | rfl | simp)) | (simp [*]; done), zD⟩
       ·
        rw [if_neg c19] at H; exact absurd H (by simp)
      ·
       rw [if_neg c18] at H; exact absurd H (by simp)
     ·
      rw [if_neg c16] at H; have c16b0 : decide (0 < (l0.length : Int)) = false := decide_eq_false c16; have c16b1 : decide (0 < l0.length) = false := decide_eq_false (by omega); clear c16; obtain rfl := Option.some.inj H; go_wp2; repeat (go_quiet (fail); try go_wp2)
      go_ret; exact ⟨zB, zD⟩
def laws_toIntS.l0 : Nat → List Int → List Int → Int → Option (List Int)
 | 0, _, _, _ => none
 | k + 1, x0, x3, x4 => if x4 < (x0.length : Int) then (if 0 ≤ x4 then (if x4 < (x3.length : Int) then (laws_toIntS.l0 k x0 (x3.set (x4 : Int).toNat (rd x0 x4)) (wrap64 (x4 + 1))) else (none)) else (none)) else (some x3)
def laws_toIntS.f (k : Nat) (l0 : List Int) : Option (List Int) := if 0 ≤ (l0.length : Int) then (if ((l0.length : Int) : Int).toNat ≤ 35184372088832 then (laws_toIntS.l0 k l0 (List.replicate ((l0.length : Int) : Int).toNat 0) 0) else (none)) else (none)
theorem laws_toIntS.mono_l : ∀ k, (∀ y0 y1 y2, LeO (laws_toIntS.l0 k y0 y1 y2) (laws_toIntS.l0 (k + 1) y0 y1 y2))
 | 0 => fun _ _ _ r h => by simp [laws_toIntS.l0] at h
 | k + 1 => by
  have ih0 := laws_toIntS.mono_l k
  ·
   intro y0 y1 y2; unfold laws_toIntS.l0
   repeat' first
   | (with_reducible exact ih0 _ _ _)
   | (with_reducible exact LeO.refl _)
   | (with_reducible exact LeO.none _)
   | (with_reducible refine LeO.ite ?_ ?_)
   | (with_reducible refine LeO.bind ?_ (fun _ => ?_))
   | exact ih0 _ _ _
   | exact LeO.none _
   | refine LeO.ite ?_ ?_
   | refine LeO.bind ?_ (fun _ => ?_)
theorem laws_toIntS.mono : ∀ a0 k, LeO (laws_toIntS.f k a0) (laws_toIntS.f (k + 1) a0) := by
 intro a0 k; have ih0 := laws_toIntS.mono_l k; unfold laws_toIntS.f
 repeat' first
   | (with_reducible exact ih0 _ _ _)
   | (with_reducible exact LeO.refl _)
   | (with_reducible exact LeO.none _)
   | (with_reducible refine LeO.ite ?_ ?_)
   | (with_reducible refine LeO.bind ?_ (fun _ => ?_))
   | exact ih0 _ _ _
   | exact LeO.none _
   | refine LeO.ite ?_ ?_
   | refine LeO.bind ?_ (fun _ => ?_)
theorem laws_toIntS.calls (k : Nat) (A0 : Option Addr) (c0 : Nat) (l0 : List Int) (r : List Int) (w : World) (hr0 : Kd.C (Kd.int .i64) w A0 l0.length l0) (hc0 : l0.length ≤ c0) (h : laws_toIntS.f k l0 = some r) :
  Calls Tryz.prog 13 #[.slice A0 l0.length c0] w fun e w' => ∃ v0_ : Value, e = .returned (v0_) ∧ Kd.R (Kd.int .i64) 3 w' w.heap.size (fun _ => True) v0_ r ∧ Below w.heap.size w w' := by
 have HR0 := az hr0; have HC0 := az hc0; clear hr0 hc0; have HB := az (Below.refl w.heap.size w); have H : (if 0 ≤ (l0.length : Int) then (if ((l0.length : Int) : Int).toNat ≤ 35184372088832 then (laws_toIntS.l0 k l0 (List.replicate ((l0.length : Int) : Int).toNat 0) 0) else (none)) else (none)) = some r := h; clear h; by_cases c2 : 0 ≤ (l0.length : Int)
 ·
  rw [if_pos c2] at H; have c2b0 := eq_true c2; have c2b1 : decide (0 ≤ (l0.length : Int)) = true := decide_eq_true c2; clear c2; by_cases c3 : ((l0.length : Int) : Int).toNat ≤ 35184372088832
  ·
   rw [if_pos c3] at H; have c3b0 := eq_true c3; have c3b1 : decide (((l0.length : Int) : Int).toNat ≤ 35184372088832) = true := decide_eq_true c3; clear c3; obtain ⟨y247, hy247⟩ : ∃ y_ : List Int, y_ = (List.replicate ((l0.length : Int) : Int).toNat 0) := ⟨_, rfl⟩; replace H : (laws_toIntS.l0 k l0 y247 0) = some r := by first | (rw [hy247]; with_reducible exact H) | (have H2_ := (Option.bind_some _ _).symm.trans H; rw [hy247]; with_reducible exact H2_) | (have H2_ := (Option.bind_some _ _).symm.trans H; with_reducible exact H2_) | with_reducible exact H | (rw [hy247]; exact H) | exact H
   have Ny247 := az hy247; clear hy247; have H' := az H; clear H; go_enter Tryz.func13, Tryz.ntmps13; go_wp2_with (first | ((with_reducible refine gate_dst (N := 7) rfl ?_); refine Kd.R_make (Kd.int .i64) _ 3 rfl (N := 7) rfl 22 _ _ rfl (l0.length : Int) rfl rfl Tryz.underlying22 (.int .i64 0) 8 info3 rfl (by decide) (by omega) 0 (ok := fun _ => True) (okp := fun _ => True) rfl (fun _ hk => hk) trivial (of_decide_eq_true (by assumption)) (Nat.le_trans (Nat.mul_le_mul_right _ (of_decide_eq_true (by assumption) : (l0.length : Int).toNat ≤ 35184372088832)) (by omega)) (Below.refl _ _) (Nat.le_refl _) ?_; intro v248 w4 ho5 hb hg_ hnew_; clear hg_ hnew_; (first | rw [← Ny247.out] at ho5 | (simp only [Int.reduceToNat] at ho5; rw [← Ny247.out] at ho5)); have n0_ := az (Kd.R_lower ho5 (below_size (zA HB.out))); have n1_ := az (below_step (zA HB.out) hb); clear HB; have HO249 := n0_; have HB := n1_; clear n0_ n1_; clear hb ho5)); go_loopg [4] k (fun kq v4 w' => ∃ (x3_1 : List Int) (x4_1 : Int), v4 = .int .i64 x4_1 ∧ Aside0 (laws_toIntS.l0 kq l0 x3_1 x4_1 = some r) ∧ Aside0 (kq ≤ k) ∧ Aside0 (Kd.R (Kd.int .i64) 3 w' w.heap.size (fun _ => True) v248 x3_1) ∧ Aside0 (Below w.heap.size w w'))
   case atStart => exact ⟨(y247), (0), zB, H', ⟨Nat.le_refl _⟩, ⟨zF HO249.out⟩, ⟨zA HB.out⟩⟩
   case round =>
    clear H'; (try clear c1); (try clear c2); (try clear c2b0); (try clear c2b1); (try clear p2); (try clear c3); (try clear c3b0); (try clear c3b1); obtain ⟨x3_1, x4_1, rfl, HA, HK1, HO_3, HB⟩ := hrel
    cases gk with
    | zero => exact absurd HA.out (by simp [laws_toIntS.l0])
    | succ k1 =>
     have H := HA.out; clear HA; simp only [laws_toIntS.l0] at H; by_cases c6 : x4_1 < (l0.length : Int)
     ·
      rw [if_pos c6] at H; have c6b0 : decide (x4_1 < (l0.length : Int)) = true := decide_eq_true c6; clear c6; by_cases c7 : 0 ≤ x4_1
      ·
       rw [if_pos c7] at H; have c7b0 : decide (0 ≤ x4_1) = true := decide_eq_true c7; clear c7; by_cases c8 : x4_1 < (x3_1.length : Int)
       ·
        rw [if_pos c8] at H; have c8b0 : decide (x4_1 < (x3_1.length : Int)) = true := decide_eq_true c8; clear c8; obtain ⟨y251, hy251⟩ : ∃ y_ : List Int, y_ = (x3_1.set (x4_1 : Int).toNat (rd l0 x4_1)) := ⟨_, rfl⟩; replace H : (laws_toIntS.l0 k1 l0 y251 (wrap64 (x4_1 + 1))) = some r := by first | (rw [hy251]; with_reducible exact H) | (have H2_ := (Option.bind_some _ _).symm.trans H; rw [hy251]; with_reducible exact H2_) | (have H2_ := (Option.bind_some _ _).symm.trans H; with_reducible exact H2_) | with_reducible exact H | (rw [hy251]; exact H) | exact H
        have Ny251 := az hy251; clear hy251; have H' := az H; clear H; have p250 : 0 ≤ (x4_1 : Int) := of_decide_eq_true (by assumption); have q250 : x4_1 < (l0.length : Int) := of_decide_eq_true (by assumption); obtain ⟨ad250, e250, hx250_0⟩ := Kd.at_int HR0.out x4_1 p250 q250
        cases e250
        replace hx250_0 := (HB.out.cell (World.block_lt_of_cell? w _ hx250_0)).trans hx250_0; replace p250 := eq_true p250; replace q250 := eq_true q250; have p9 : 0 ≤ (x4_1 : Int) := of_decide_eq_true (by assumption); have q9 : (x4_1 : Int) < ((x3_1.length : Int) : Int) := of_decide_eq_true (by assumption); obtain ⟨go9, co9, eo9, gb9, gl9, cl9, HG9⟩ := Kd.R_form HO_3.out (by omega); (first | cases eo9 | (injection eo9 with ea_ en_ ec_; (first | subst ea_ | (injection ea_ with ea_; subst ea_)); subst ec_; clear en_)); have GB9 := az gb9; have GG9 := az HG9; clear gb9 gl9 HG9; obtain ⟨hx9_0, hf9_0⟩ := Kd.R_celln 0 HO_3.out (x4_1 : Int) p9 q9; replace p9 := eq_true p9; replace q9 := eq_true q9; have HP10 := Kd.R_putg HO_3.out (x4_1 : Int) (rd l0 x4_1); go_wp2_with (first | ((with_reducible refine gate_store (t := 3) (p := 20) rfl ?_); refine store_event (t := 3) (p := 20) (v := ?vo_w11) (w1 := (wr.setCell ⟨go9, (x4_1 : Int).toNat, none⟩ (.int .i64 (rd l0 x4_1)))) ?hg ?ho ?hn ?hr ?_; (case ho => rfl); (case hg => rfl); (case hn => rfl); (case hr => first | (go_simp; done) | (go_simp; rfl)); intro w11 hw; have hg : wr.grownBy w11 (some go9) := (by rw [hw]; exact HP10.2); have hp_ : Kd.R (Kd.int .i64) 3 w11 w.heap.size (fun _ => True) (.slice (some ⟨go9, 0, none⟩) x3_1.length co9) y251 := (by rw [hw, Ny251.out]; exact HP10.1); clear HP10; have n0_ := az (hp_); have n1_ := az ((by rw [hw]; exact below_set (HB.out) GB9.out : Below w.heap.size w w11)); clear HO_3; clear HB; have HO_3 := n0_; have HB := n1_; clear n0_ n1_; clear hg hw hp_)); go_roundg k1
        case measure => have := HK1.out; omega
        case rel => exact ⟨(y251), (wrap64 (x4_1 + 1)), zB, H', ⟨zE HK1.out⟩, ⟨zF HO_3.out⟩, ⟨zA HB.out⟩⟩
       ·
        rw [if_neg c8] at H; exact absurd H (by simp)
      ·
       rw [if_neg c7] at H; exact absurd H (by simp)
     ·
      rw [if_neg c6] at H; have c6b0 : decide (x4_1 < (l0.length : Int)) = false := decide_eq_false c6; clear c6; obtain rfl := Option.some.inj H; go_wp2; go_ret; exact ⟨_, zG, zF HO_3.out, zA HB.out⟩
  ·
   rw [if_neg c3] at H; exact absurd H (by simp)
 ·
  rw [if_neg c2] at H; exact absurd H (by simp)
def laws_eqIntS.l0 : Nat → List Int → List Int → Int → Option (Bool)
 | 0, _, _, _ => none
 | k + 1, x0, x1, x5 => if x5 < (x0.length : Int) then (if 0 ≤ x5 then (if x5 < (x1.length : Int) then (if (rd x0 x5) = (rd x1 x5) then (laws_eqIntS.l0 k x0 x1 (wrap64 (x5 + 1))) else (some false)) else (none)) else (none)) else (some true)
def laws_eqIntS.f (k : Nat) (l0 : List Int) (l1 : List Int) : Option (Bool) := if (l0.length : Int) = (l1.length : Int) then (laws_eqIntS.l0 k l0 l1 0) else (some false)
theorem laws_eqIntS.mono_l : ∀ k, (∀ y0 y1 y2, LeO (laws_eqIntS.l0 k y0 y1 y2) (laws_eqIntS.l0 (k + 1) y0 y1 y2))
 | 0 => fun _ _ _ r h => by simp [laws_eqIntS.l0] at h
 | k + 1 => by
  have ih0 := laws_eqIntS.mono_l k
  ·
   intro y0 y1 y2; unfold laws_eqIntS.l0
   repeat' first
   | (with_reducible exact ih0 _ _ _)
   | (with_reducible exact LeO.refl _)
   | (with_reducible exact LeO.none _)
   | (with_reducible refine LeO.ite ?_ ?_)
   | (with_reducible refine LeO.bind ?_ (fun _ => ?_))
   | exact ih0 _ _ _
   | exact LeO.none _
   | refine LeO.ite ?_ ?_
   | refine LeO.bind ?_ (fun _ => ?_)
theorem laws_eqIntS.mono : ∀ a0 a1 k, LeO (laws_eqIntS.f k a0 a1) (laws_eqIntS.f (k + 1) a0 a1) := by
 intro a0 a1 k; have ih0 := laws_eqIntS.mono_l k; unfold laws_eqIntS.f
 repeat' first
   | (with_reducible exact ih0 _ _ _)
   | (with_reducible exact LeO.refl _)
   | (with_reducible exact LeO.none _)
   | (with_reducible refine LeO.ite ?_ ?_)
   | (with_reducible refine LeO.bind ?_ (fun _ => ?_))
   | exact ih0 _ _ _
   | exact LeO.none _
   | refine LeO.ite ?_ ?_
   | refine LeO.bind ?_ (fun _ => ?_)
theorem laws_eqIntS.calls (k : Nat) (A0 : Option Addr) (c0 : Nat) (l0 : List Int) (A1 : Option Addr) (c1 : Nat) (l1 : List Int) (r : Bool) (w : World) (hr0 : Kd.C (Kd.int .i64) w A0 l0.length l0) (hc0 : l0.length ≤ c0) (hr1 : Kd.C (Kd.int .i64) w A1 l1.length l1) (hc1 : l1.length ≤ c1) (h : laws_eqIntS.f k l0 l1 = some r) :
  Calls Tryz.prog 16 #[.slice A0 l0.length c0, .slice A1 l1.length c1] w fun e w' => e = .returned (.bool r) ∧ Drawn0 w w' := by
 have HR0 := az hr0; have HC0 := az hc0; clear hr0 hc0; have HR1 := az hr1; have HC1 := az hc1; clear hr1 hc1; have H : (if (l0.length : Int) = (l1.length : Int) then (laws_eqIntS.l0 k l0 l1 0) else (some false)) = some r := h; clear h; by_cases c3 : (l0.length : Int) = (l1.length : Int)
 ·
  rw [if_pos c3] at H; have c3b0 : ((l0.length : Int) == (l1.length : Int)) = true := beq_iff_eq.mpr c3; have c3b1 : ((l0.length : Int) != (l1.length : Int)) = false := bne_eq_false_iff_eq.mpr c3; have c3b2 : (l0.length == l1.length) = true := by first | simpa using c3 | (simp at c3 ⊢; omega)
  clear c3; have H' := az H; clear H; go_enter Tryz.func16, Tryz.ntmps16; go_wp2; repeat (go_quiet (fail); try go_wp2)
  go_loopg [5] k (fun kq v5 w' => ∃ (x5_1 : Int), v5 = .int .i64 x5_1 ∧ Aside0 (laws_eqIntS.l0 kq l0 l1 x5_1 = some r) ∧ Aside0 (kq ≤ k) ∧ Drawn0 w w')
  case atStart => exact ⟨(0), zB, H', ⟨Nat.le_refl _⟩, zD⟩
  case round =>
   clear H'; (try clear c1); (try clear p2); (try clear c3); (try clear c3b0); (try clear c3b1); (try clear c3b2); obtain ⟨x5_1, rfl, HA, HK1, ⟨m1, rfl⟩⟩ := hrel
   cases gk with
   | zero => exact absurd HA.out (by simp [laws_eqIntS.l0])
   | succ k1 =>
    have H := HA.out; clear HA; simp only [laws_eqIntS.l0] at H; by_cases c4 : x5_1 < (l0.length : Int)
    ·
     rw [if_pos c4] at H; have c4b0 : decide (x5_1 < (l0.length : Int)) = true := decide_eq_true c4; clear c4; by_cases c5 : 0 ≤ x5_1
     ·
      rw [if_pos c5] at H; have c5b0 : decide (0 ≤ x5_1) = true := decide_eq_true c5; clear c5; by_cases c6 : x5_1 < (l1.length : Int)
      ·
       rw [if_pos c6] at H; have c6b0 : decide (x5_1 < (l1.length : Int)) = true := decide_eq_true c6; clear c6; by_cases c7 : (rd l0 x5_1) = (rd l1 x5_1)
       ·
        rw [if_pos c7] at H; have c7b0 : ((rd l0 x5_1) == (rd l1 x5_1)) = true := beq_iff_eq.mpr c7; have c7b1 : ((rd l0 x5_1) != (rd l1 x5_1)) = false := bne_eq_false_iff_eq.mpr c7; clear c7; have H' := az H; clear H; have p358 : 0 ≤ (x5_1 : Int) := of_decide_eq_true (by assumption); have q358 : x5_1 < (l0.length : Int) := of_decide_eq_true (by assumption); obtain ⟨ad358, e358, hx358_0⟩ := Kd.at_int HR0.out x5_1 p358 q358
        cases e358
        replace p358 := eq_true p358; replace q358 := eq_true q358; have p359 : 0 ≤ (x5_1 : Int) := of_decide_eq_true (by assumption); have q359 : x5_1 < (l1.length : Int) := of_decide_eq_true (by assumption); obtain ⟨ad359, e359, hx359_0⟩ := Kd.at_int HR1.out x5_1 p359 q359
        cases e359
        replace p359 := eq_true p359; replace q359 := eq_true q359; go_wp2; repeat (go_quiet (fail); try go_wp2)
        go_roundg k1
        case measure => have := HK1.out; omega
        case rel => exact ⟨(wrap64 (x5_1 + 1)), zB, H', ⟨zE HK1.out⟩, zD⟩
       ·
        rw [if_neg c7] at H; have c7b0 : ((rd l0 x5_1) == (rd l1 x5_1)) = false := beq_eq_false_iff_ne.mpr c7; have c7b1 : ((rd l0 x5_1) != (rd l1 x5_1)) = true := bne_iff_ne.mpr c7; obtain rfl := Option.some.inj H; have p358 : 0 ≤ (x5_1 : Int) := of_decide_eq_true (by assumption); have q358 : x5_1 < (l0.length : Int) := of_decide_eq_true (by assumption); obtain ⟨ad358, e358, hx358_0⟩ := Kd.at_int HR0.out x5_1 p358 q358
        cases e358
        replace p358 := eq_true p358; replace q358 := eq_true q358; have p359 : 0 ≤ (x5_1 : Int) := of_decide_eq_true (by assumption); have q359 : x5_1 < (l1.length : Int) := of_decide_eq_true (by assumption); obtain ⟨ad359, e359, hx359_0⟩ := Kd.at_int HR1.out x5_1 p359 q359
        cases e359
        replace p359 := eq_true p359; replace q359 := eq_true q359; go_wp2; repeat (go_quiet (fail); try go_wp2)
        go_ret; exact ⟨zB, zD⟩
      ·
       rw [if_neg c6] at H; exact absurd H (by simp)
     ·
      rw [if_neg c5] at H; exact absurd H (by simp)
    ·
     rw [if_neg c4] at H; have c4b0 : decide (x5_1 < (l0.length : Int)) = false := decide_eq_false c4; clear c4; obtain rfl := Option.some.inj H; go_wp2; repeat (go_quiet (fail); try go_wp2)
     go_ret; exact ⟨zB, zD⟩
 ·
  rw [if_neg c3] at H; have c3b0 : ((l0.length : Int) == (l1.length : Int)) = false := beq_eq_false_iff_ne.mpr c3; have c3b1 : ((l0.length : Int) != (l1.length : Int)) = true := bne_iff_ne.mpr c3; have c3b2 : (l0.length == l1.length) = false := by first | simpa using c3 | (simp at c3 ⊢; omega)
  obtain rfl := Option.some.inj H; go_enter Tryz.func16, Tryz.ntmps16; go_wp2; repeat (go_quiet (fail); try go_wp2)
  go_ret; exact ⟨zB, zD⟩
end Go.Proofs.YtmcdcogedcbndaaGreat.S
/- What the laws' own helpers answer: a copy, equality. -/
namespace Go.Proofs.YtmcdcogedcbndaaGreat.Pure
open Go.RowKit Go.Proofs.YtmcdcogedcbndaaGreat.S Go.Proofs.YtmcdcogedcbndaaGreatW.PrintWords Go.Proofs.YtmcdcogedcbndaaGreatW.PrintLast
theorem w64 {x : Int} (h0 : -9223372036854775808 ≤ x) (h1 : x ≤ 9223372036854775807) : wrap64 x = x := by
 unfold wrap64; omega
theorem rd_nat (l : List Int) (i : Nat) : rd l (i : Int) = l.getD i 0 := by simp [rd]
theorem rd_get {l : List Int} {i : Nat} (h : i < l.length) : rd l (i : Int) = l[i] := by simp [rd, List.getD_eq_getElem?_getD, h]
end Go.Proofs.YtmcdcogedcbndaaGreat.Pure
/- Spans that are ok, and ends of lines, by both texts. -/
namespace Go.Proofs.YtmcdcogedcbndaaGreat.Pure
open Go.RowKit Go.Proofs.YtmcdcogedcbndaaGreat.S Go.Proofs.YtmcdcogedcbndaaGreatW.PrintWords Go.Proofs.YtmcdcogedcbndaaGreatW.PrintLast
abbrev Sp := S50
theorem l1In_f (a b c : Int) : spec_l1In.f a b c = some (decide (b ≤ a ∧ a ≤ c)) := by
 unfold spec_l1In.f
 by_cases h : a ≥ b
 · simp [h]
 · simp [h]
def spanOkV (s : Sp) (n : Int) : Bool := decide (0 ≤ s.f0 ∧ s.f0 < n ∧ s.f0 < s.f1 ∧ s.f1 ≤ n ∧ 1 ≤ s.f2 ∧ s.f2 ≤ 40 ∧ 0 ≤ s.f3 ∧ s.f3 ≤ 9)
theorem spanOk_i (s : Sp) (n : Int) : impl_spanOk.f s.f0 s.f1 s.f2 s.f3 n = some (spanOkV s n) := by
 unfold impl_spanOk.f spanOkV
 by_cases h0 : s.f0 ≥ 0
 ·
  by_cases h1 : s.f0 < n
  ·
   by_cases h2 : s.f1 > s.f0
   ·
    by_cases h3 : s.f1 ≤ n
    ·
     by_cases h4 : s.f2 ≥ 1
     ·
      by_cases h5 : s.f2 ≤ 40
      ·
       by_cases h6 : s.f3 ≥ 0
       ·
        rw [if_pos h0, if_pos h1, if_pos h2, if_pos h3, if_pos h4, if_pos h5, if_pos h6]
        congr 1
        rw [decide_eq_decide]
        omega
       · rw [if_pos h0, if_pos h1, if_pos h2, if_pos h3, if_pos h4, if_pos h5, if_neg h6, decide_eq_false (by omega)]
      · rw [if_pos h0, if_pos h1, if_pos h2, if_pos h3, if_pos h4, if_neg h5, decide_eq_false (by omega)]
     · rw [if_pos h0, if_pos h1, if_pos h2, if_pos h3, if_neg h4, decide_eq_false (by omega)]
    · rw [if_pos h0, if_pos h1, if_pos h2, if_neg h3, decide_eq_false (by omega)]
   · rw [if_pos h0, if_pos h1, if_neg h2, decide_eq_false (by omega)]
  · rw [if_pos h0, if_neg h1, decide_eq_false (by omega)]
 · rw [if_neg h0, decide_eq_false (by omega)]
theorem spanOk_s (s : Sp) {n : Int} (hn : 0 ≤ n) (hn1 : n ≤ 1000000) : spec_l6Ok.f s.f0 s.f1 s.f2 s.f3 n = some (spanOkV s n) := by
 unfold spec_l6Ok.f spanOkV
 simp only [l1In_f, Option.bind_some]
 rw [w64 (x := n - 1) (by omega) (by omega)]
 by_cases h0 : 0 ≤ s.f0 ∧ s.f0 ≤ n - 1
 ·
  rw [decide_eq_true h0, if_pos rfl, w64 (by omega) (by omega)]
  by_cases h1 : s.f0 + 1 ≤ s.f1 ∧ s.f1 ≤ n
  ·
   rw [decide_eq_true h1, if_pos rfl]
   by_cases h2 : 1 ≤ s.f2 ∧ s.f2 ≤ 40
   ·
    rw [decide_eq_true h2, if_pos rfl]
    congr 1
    rw [decide_eq_decide]
    omega
   · rw [decide_eq_false h2, if_neg (by decide), decide_eq_false (by omega)]
  · rw [decide_eq_false h1, if_neg (by decide), decide_eq_false (by omega)]
 · rw [decide_eq_false h0, if_neg (by decide), decide_eq_false (by omega)]
def spAt (l : List Sp) (i : Nat) : Sp := l.getD i z50
theorem rdSp (l : List Sp) (i : Nat) : rd_T50 l (i : Int) = spAt l i := by simp [rd_T50, spAt]
def okAt (l : List Sp) (n : Int) (i : Nat) : Bool := spanOkV (spAt l i) n && (decide (i = 0) || decide ((spAt l (i - 1)).f1 ≤ (spAt l i).f0))
def allFrom (f : Nat → Bool) : Nat → Nat → Bool
 | _, 0 => true
 | i, d + 1 => f i && allFrom f (i + 1) d
theorem allFrom_iff (f : Nat → Bool) : ∀ (d i : Nat), allFrom f i d = true ↔ ∀ j, i ≤ j → j < i + d → f j = true
 | 0, i => ⟨fun _ j h1 h2 => by omega, fun _ => rfl⟩
 | d + 1, i => by
  rw [allFrom, Bool.and_eq_true, allFrom_iff f d (i + 1)]
  constructor
  ·
   rintro ⟨h0, h⟩ j h1 h2
   by_cases e : j = i
   · rw [e]; exact h0
   · exact h j (by omega) (by omega)
  · exact fun h => ⟨h i (by omega) (by omega), fun j h1 h2 => h j (by omega) (by omega)⟩
def spansV (l : List Sp) (n : Int) : Bool := allFrom (okAt l n) 0 l.length && (decide (l.length ≤ 12) && decide (0 ≤ n ∧ n ≤ 80))
theorem spansI_l (l : List Sp) (n : Int) (hl : l.length ≤ 1099511627776) : ∀ (d k i : Nat), l.length - i = d → i ≤ l.length → d < k → impl_SpansOk.l0 k l n l (l.length : Int) (i : Int) = some (allFrom (okAt l n) i d && (decide (l.length ≤ 12) && decide (0 ≤ n ∧ n ≤ 80)))
 | 0, k, i, hd, hi, hk => by
  obtain ⟨k, rfl⟩ : ∃ m, k = m + 1 := ⟨k - 1, by omega⟩
  rw [impl_SpansOk.l0, if_neg (by omega), allFrom, Bool.true_and]
  by_cases h0 : n ≥ 0
  ·
   by_cases h1 : n ≤ 80
   ·
    rw [if_pos h0, if_pos h1, decide_eq_true (show 0 ≤ n ∧ n ≤ 80 by omega), Bool.and_true]
    congr 1
    rw [decide_eq_decide]
    omega
   · rw [if_pos h0, if_neg h1, decide_eq_false (show ¬ (0 ≤ n ∧ n ≤ 80) by omega), Bool.and_false]
  · rw [if_neg h0, decide_eq_false (show ¬ (0 ≤ n ∧ n ≤ 80) by omega), Bool.and_false]
 | d + 1, k, i, hd, hi, hk => by
  obtain ⟨k, rfl⟩ : ∃ m, k = m + 1 := ⟨k - 1, by omega⟩
  have ih := spansI_l l n hl d k (i + 1) (by omega) (by omega) (by omega)
  rw [impl_SpansOk.l0, if_pos (by omega), if_pos (by omega), if_pos (by omega), rdSp, spanOk_i, Option.bind_some, allFrom, okAt]
  have w1 : wrap64 ((i : Int) + 1) = ((i + 1 : Nat) : Int) := by rw [w64 (by omega) (by omega)]; omega
  cases hs : spanOkV (spAt l i) n
  · rw [if_neg (by decide), Bool.false_and, Bool.false_and, Bool.false_and]
  ·
   rw [if_pos rfl, Bool.true_and]
   by_cases h0 : (i : Int) > 0
   ·
    have w2 : wrap64 ((i : Int) - 1) = ((i - 1 : Nat) : Int) := by rw [w64 (by omega) (by omega)]; omega
    rw [if_pos h0, w2, if_pos (by omega), if_pos (by omega), rdSp, decide_eq_false (show ¬ i = 0 by omega), Bool.false_or]
    by_cases h1 : (spAt l (i - 1)).f1 > (spAt l i).f0
    · rw [if_pos h1, decide_eq_false (by omega), Bool.false_and, Bool.false_and]
    · rw [if_neg h1, decide_eq_true (by omega), Bool.true_and, w1, ih]
   · rw [if_neg h0, decide_eq_true (show i = 0 by omega), Bool.true_or, Bool.true_and, w1, ih]
theorem spansI_p {l : List Sp} {n : Int} {k : Nat} (hl : l.length ≤ 1099511627776) (hk : l.length < k) : impl_SpansOk.f k l n = some (spansV l n) := by
 have h := spansI_l l n hl l.length k 0 (by omega) (by omega) hk
 rw [show ((0 : Nat) : Int) = 0 from rfl] at h
 exact h
theorem spansS_l (l : List Sp) (n : Int) (hl : l.length ≤ 1099511627776) (hn : 0 ≤ n) (hn1 : n ≤ 1000000) : ∀ (d k i : Nat), l.length - i = d → i ≤ l.length → d < k → spec_SpansOk.l0 k l n (i : Int) = some (allFrom (okAt l n) i d && (decide (l.length ≤ 12) && decide (0 ≤ n ∧ n ≤ 80)))
 | 0, k, i, hd, hi, hk => by
  obtain ⟨k, rfl⟩ : ∃ m, k = m + 1 := ⟨k - 1, by omega⟩
  rw [spec_SpansOk.l0, if_neg (by omega), allFrom, Bool.true_and]
  by_cases h0 : (l.length : Int) ≤ 12
  · rw [if_pos h0, l1In_f, Option.bind_some, decide_eq_true (show l.length ≤ 12 by omega), Bool.true_and]
  · rw [if_neg h0, decide_eq_false (show ¬ l.length ≤ 12 by omega), Bool.false_and]
 | d + 1, k, i, hd, hi, hk => by
  obtain ⟨k, rfl⟩ : ∃ m, k = m + 1 := ⟨k - 1, by omega⟩
  have ih := spansS_l l n hl hn hn1 d k (i + 1) (by omega) (by omega) (by omega)
  rw [spec_SpansOk.l0, if_pos (by omega), if_pos (by omega), rdSp, spanOk_s _ hn hn1, Option.bind_some, allFrom, okAt]
  have w1 : wrap64 ((i : Int) + 1) = ((i + 1 : Nat) : Int) := by rw [w64 (by omega) (by omega)]; omega
  cases hs : spanOkV (spAt l i) n
  · rw [if_neg (by decide), Bool.false_and, Bool.false_and, Bool.false_and]
  ·
   rw [if_pos rfl, Bool.true_and]
   by_cases h0 : (i : Int) > 0
   ·
    have w2 : wrap64 ((i : Int) - 1) = ((i - 1 : Nat) : Int) := by rw [w64 (by omega) (by omega)]; omega
    rw [if_pos h0, w2, if_pos (by omega), if_pos (by omega), rdSp, decide_eq_false (show ¬ i = 0 by omega), Bool.false_or]
    by_cases h1 : (spAt l (i - 1)).f1 > (spAt l i).f0
    · rw [if_pos h1, decide_eq_false (by omega), Bool.false_and, Bool.false_and]
    · rw [if_neg h1, decide_eq_true (by omega), Bool.true_and, w1, ih]
   · rw [if_neg h0, decide_eq_true (show i = 0 by omega), Bool.true_or, Bool.true_and, w1, ih]
theorem spansS_p {l : List Sp} {n : Int} {k : Nat} (hl : l.length ≤ 1099511627776) (hn : 0 ≤ n) (hn1 : n ≤ 1000000) (hk : l.length < k) : spec_SpansOk.f k l n = some (spansV l n) := by
 have h := spansS_l l n hl hn hn1 l.length k 0 (by omega) (by omega) hk
 rw [show ((0 : Nat) : Int) = 0 from rfl] at h
 exact h
def endsV : List Int → Int → Int → Bool
 | [], p, n => p == n
 | e :: r, p, n => if e ≤ p then false else endsV r e n
theorem endsV_big : ∀ (l : List Int) (p n : Int), n < p → endsV l p n = false
 | [], p, n, h => by rw [endsV]; exact beq_eq_false_iff_ne.mpr (by omega)
 | e :: r, p, n, h => by
  rw [endsV]
  by_cases c : e ≤ p
  · rw [if_pos c]
  · rw [if_neg c]; exact endsV_big r e n (by omega)
end Go.Proofs.YtmcdcogedcbndaaGreat.Pure
/- How wide letters are, and as what they count where lines may end, by both texts. -/
namespace Go.Proofs.YtmcdcogedcbndaaGreat.Pure
open Go.RowKit Go.Proofs.YtmcdcogedcbndaaGreat.S Go.Proofs.YtmcdcogedcbndaaGreatW.PrintWords Go.Proofs.YtmcdcogedcbndaaGreatW.PrintLast
theorem has_l (x : Int) (l : List Int) (hn : l.length ≤ 1000) : ∀ (d k i : Nat), l.length - i = d → i ≤ l.length → d < k → spec_l1Has.l0 k l x (i : Int) = some ((l.drop i).contains x)
 | 0, k, i, hd, hi, hk => by
  obtain ⟨k, rfl⟩ : ∃ m, k = m + 1 := ⟨k - 1, by omega⟩
  rw [spec_l1Has.l0, if_neg (by omega), List.drop_eq_nil_of_le (by omega)]
  rfl
 | d + 1, k, i, hd, hi, hk => by
  obtain ⟨k, rfl⟩ : ∃ m, k = m + 1 := ⟨k - 1, by omega⟩
  have ih := has_l x l hn d k (i + 1) (by omega) (by omega) (by omega)
  have hlt : i < l.length := by omega
  rw [spec_l1Has.l0, if_pos (by omega), if_pos (by omega), List.drop_eq_getElem_cons hlt, rd_get hlt, w64 (by omega) (by omega), show ((i : Int) + 1) = ((i + 1 : Nat) : Int) by omega, ih, List.contains_cons]
  by_cases h : l[i] = x
  · rw [if_pos h, beq_iff_eq.mpr h.symm, Bool.true_or]
  · rw [if_neg h, beq_eq_false_iff_ne.mpr (fun e => h e.symm), Bool.false_or]
theorem has_p {l : List Int} {x : Int} {k : Nat} (hn : l.length ≤ 1000) (hk : l.length < k) : spec_l1Has.f k l x = some (l.contains x) := by
 have h := has_l x l hn l.length k 0 (by omega) (by omega) hk
 rw [List.drop_zero] at h
 exact h
def wideC (c a : Int) : Int := if c = 9 ∨ c = 10 ∨ 14 ≤ c ∨ a = 10 ∨ a = 13 then 0 else if a = 105 ∨ a = 106 ∨ a = 108 ∨ a = 102 ∨ a = 116 then 6 else if a = 109 ∨ a = 119 then 16 else if 19968 ≤ a ∧ a ≤ 40959 then 20 else if c = 2 ∨ c = 3 then 12 else if c = 11 then 40 else if c = 12 ∨ c = 8 then 6 else 10
def wideV (a : Int) : Int := wideC (bidiV a) a
theorem wideV_le (a : Int) : 0 ≤ wideV a ∧ wideV a ≤ 40 := by unfold wideV wideC; grind
theorem wide_i {k : Nat} (hk : 10 ≤ k) (a : Int) : impl_RuneWide.f k a = some (wideV a) := by
 obtain ⟨k, rfl⟩ : ∃ m, k = m + 10 := ⟨k - 10, by omega⟩
 unfold impl_RuneWide.f wideV
 rw [impl_bidi_p, Option.bind_some]
 generalize bidiV a = c
 simp only [impl_RuneWide.j0, impl_RuneWide.j1, impl_RuneWide.j2, impl_RuneWide.j3, impl_RuneWide.j4, wideC]
 grind (splits := 40)
theorem wide_s {k : Nat} (hk : 30 ≤ k) (a : Int) : spec_RuneWide.f k a = some (wideV a) := by
 obtain ⟨k, rfl⟩ : ∃ m, k = m + 30 := ⟨k - 30, by omega⟩
 unfold spec_RuneWide.f wideV
 rw [spec_bidi_k (by omega), Option.bind_some]
 generalize bidiV a = c
 have hh : ∀ k' : Nat, 20 ≤ k' → spec_l1Has.f k' [105, 106, 108, 102, 116] a = some (decide (a = 105 ∨ a = 106 ∨ a = 108 ∨ a = 102 ∨ a = 116)) := fun k' hk' => by
  rw [has_p (by decide) (by show 5 < k'; omega)]
  congr 1
  rw [Bool.eq_iff_iff]
  simp
 simp only [spec_RuneWide.j0, spec_RuneWide.j1, spec_RuneWide.j2, l1In_f, Option.bind_some, wideC, hh (k + 29) (by omega)]
 grind (splits := 40)
def signC (a : Int) : Int := if a = 40 ∨ a = 91 ∨ a = 123 then 8 else if a = 41 ∨ a = 93 ∨ a = 125 then 9 else if a = 33 ∨ a = 63 then 10 else if a = 34 then 11 else if a = 45 then 12 else if a = 44 ∨ a = 46 ∨ a = 58 ∨ a = 59 ∨ a = 47 then 13 else if a = 9 ∨ a = 173 then 14 else 1
theorem signs_s {k : Nat} (hk : 10 ≤ k) (a : Int) : spec_l5Signs.f k a = some (signC a) := by
 obtain ⟨k, rfl⟩ : ∃ m, k = m + 10 := ⟨k - 10, by omega⟩
 simp only [spec_l5Signs.f, spec_l5Signs.j0, spec_l5Signs.j1, spec_l5Signs.j2, spec_l5Signs.j3, signC]
 grind (splits := 60)
def tailC (a : Int) : Int := if a = 10 then 4 else if a = 32 then 3 else if a = 160 then 5 else if a = 8203 then 6 else if a = 8205 then 7 else if (48 ≤ a ∧ a ≤ 57) ∨ (1632 ≤ a ∧ a ≤ 1641) then 2 else if 19968 ≤ a ∧ a ≤ 40959 then 15 else signC a
def lineV (a : Int) : Int := if bidiV a = 9 ∨ 14 ≤ bidiV a then 7 else tailC a
theorem line_s {k : Nat} (hk : 40 ≤ k) (a : Int) : spec_RuneLine.f k a = some (lineV a) := by
 obtain ⟨k, rfl⟩ : ∃ m, k = m + 40 := ⟨k - 40, by omega⟩
 unfold spec_RuneLine.f lineV tailC
 rw [spec_bidi_k (by omega)]
 by_cases h0 : a = 10
 · subst h0; rfl
 by_cases h1 : a = 32
 · subst h1; rfl
 by_cases h2 : a = 160
 · subst h2; rfl
 by_cases h3 : a = 8203
 · subst h3; rfl
 rw [if_neg h0, if_neg h1, if_neg h2, if_neg h3, if_neg h0, if_neg h1, if_neg h2, if_neg h3, Option.bind_some, Option.bind_some]
 generalize bidiV a = c
 simp only [spec_RuneLine.j0, spec_RuneLine.j1, l1In_f, Option.bind_some, signs_s (k := k + 38) (by omega)]
 grind (splits := 40)
theorem tail_chain (a : Int) : (if 9 ≤ a ∧ a ≤ 9 then (14 : Int) else if 10 ≤ a ∧ a ≤ 10 then (4 : Int) else if 32 ≤ a ∧ a ≤ 32 then (3 : Int) else if 33 ≤ a ∧ a ≤ 33 then (10 : Int) else if 34 ≤ a ∧ a ≤ 34 then (11 : Int) else if 40 ≤ a ∧ a ≤ 40 then (8 : Int) else if 41 ≤ a ∧ a ≤ 41 then (9 : Int) else if 44 ≤ a ∧ a ≤ 44 then (13 : Int) else if 45 ≤ a ∧ a ≤ 45 then (12 : Int) else if 46 ≤ a ∧ a ≤ 47 then (13 : Int) else if 48 ≤ a ∧ a ≤ 57 then (2 : Int) else if 58 ≤ a ∧ a ≤ 59 then (13 : Int) else if 63 ≤ a ∧ a ≤ 63 then (10 : Int) else if 91 ≤ a ∧ a ≤ 91 then (8 : Int) else if 93 ≤ a ∧ a ≤ 93 then (9 : Int) else if 123 ≤ a ∧ a ≤ 123 then (8 : Int) else if 125 ≤ a ∧ a ≤ 125 then (9 : Int) else if 160 ≤ a ∧ a ≤ 160 then (5 : Int) else if 173 ≤ a ∧ a ≤ 173 then (14 : Int) else if 1632 ≤ a ∧ a ≤ 1641 then (2 : Int) else if 8203 ≤ a ∧ a ≤ 8203 then (6 : Int) else if 8205 ≤ a ∧ a ≤ 8205 then (7 : Int) else if 19968 ≤ a ∧ a ≤ 40959 then (15 : Int) else 1) = tailC a := by
 unfold tailC signC
 by_cases h9 : a < 9
 · (repeat (first | rw [if_pos (by omega)] | rw [if_neg (by omega)])) <;> try rfl
 by_cases h10 : a < 10
 · (repeat (first | rw [if_pos (by omega)] | rw [if_neg (by omega)])) <;> try rfl
 clear h9
 by_cases h11 : a < 11
 · (repeat (first | rw [if_pos (by omega)] | rw [if_neg (by omega)])) <;> try rfl
 clear h10
 by_cases h32 : a < 32
 · (repeat (first | rw [if_pos (by omega)] | rw [if_neg (by omega)])) <;> try rfl
 clear h11
 by_cases h33 : a < 33
 · (repeat (first | rw [if_pos (by omega)] | rw [if_neg (by omega)])) <;> try rfl
 clear h32
 by_cases h34 : a < 34
 · (repeat (first | rw [if_pos (by omega)] | rw [if_neg (by omega)])) <;> try rfl
 clear h33
 by_cases h35 : a < 35
 · (repeat (first | rw [if_pos (by omega)] | rw [if_neg (by omega)])) <;> try rfl
 clear h34
 by_cases h40 : a < 40
 · (repeat (first | rw [if_pos (by omega)] | rw [if_neg (by omega)])) <;> try rfl
 clear h35
 by_cases h41 : a < 41
 · (repeat (first | rw [if_pos (by omega)] | rw [if_neg (by omega)])) <;> try rfl
 clear h40
 by_cases h42 : a < 42
 · (repeat (first | rw [if_pos (by omega)] | rw [if_neg (by omega)])) <;> try rfl
 clear h41
 by_cases h44 : a < 44
 · (repeat (first | rw [if_pos (by omega)] | rw [if_neg (by omega)])) <;> try rfl
 clear h42
 by_cases h45 : a < 45
 · (repeat (first | rw [if_pos (by omega)] | rw [if_neg (by omega)])) <;> try rfl
 clear h44
 by_cases h46 : a < 46
 · (repeat (first | rw [if_pos (by omega)] | rw [if_neg (by omega)])) <;> try rfl
 clear h45
 by_cases h48 : a < 48
 · (repeat (first | rw [if_pos (by omega)] | rw [if_neg (by omega)])) <;> try rfl
 clear h46
 by_cases h58 : a < 58
 · (repeat (first | rw [if_pos (by omega)] | rw [if_neg (by omega)])) <;> try rfl
 clear h48
 by_cases h60 : a < 60
 · (repeat (first | rw [if_pos (by omega)] | rw [if_neg (by omega)])) <;> try rfl
 clear h58
 by_cases h63 : a < 63
 · (repeat (first | rw [if_pos (by omega)] | rw [if_neg (by omega)])) <;> try rfl
 clear h60
 by_cases h64 : a < 64
 · (repeat (first | rw [if_pos (by omega)] | rw [if_neg (by omega)])) <;> try rfl
 clear h63
 by_cases h91 : a < 91
 · (repeat (first | rw [if_pos (by omega)] | rw [if_neg (by omega)])) <;> try rfl
 clear h64
 by_cases h92 : a < 92
 · (repeat (first | rw [if_pos (by omega)] | rw [if_neg (by omega)])) <;> try rfl
 clear h91
 by_cases h93 : a < 93
 · (repeat (first | rw [if_pos (by omega)] | rw [if_neg (by omega)])) <;> try rfl
 clear h92
 by_cases h94 : a < 94
 · (repeat (first | rw [if_pos (by omega)] | rw [if_neg (by omega)])) <;> try rfl
 clear h93
 by_cases h123 : a < 123
 · (repeat (first | rw [if_pos (by omega)] | rw [if_neg (by omega)])) <;> try rfl
 clear h94
 by_cases h124 : a < 124
 · (repeat (first | rw [if_pos (by omega)] | rw [if_neg (by omega)])) <;> try rfl
 clear h123
 by_cases h125 : a < 125
 · (repeat (first | rw [if_pos (by omega)] | rw [if_neg (by omega)])) <;> try rfl
 clear h124
 by_cases h126 : a < 126
 · (repeat (first | rw [if_pos (by omega)] | rw [if_neg (by omega)])) <;> try rfl
 clear h125
 by_cases h160 : a < 160
 · (repeat (first | rw [if_pos (by omega)] | rw [if_neg (by omega)])) <;> try rfl
 clear h126
 by_cases h161 : a < 161
 · (repeat (first | rw [if_pos (by omega)] | rw [if_neg (by omega)])) <;> try rfl
 clear h160
 by_cases h173 : a < 173
 · (repeat (first | rw [if_pos (by omega)] | rw [if_neg (by omega)])) <;> try rfl
 clear h161
 by_cases h174 : a < 174
 · (repeat (first | rw [if_pos (by omega)] | rw [if_neg (by omega)])) <;> try rfl
 clear h173
 by_cases h1632 : a < 1632
 · (repeat (first | rw [if_pos (by omega)] | rw [if_neg (by omega)])) <;> try rfl
 clear h174
 by_cases h1642 : a < 1642
 · (repeat (first | rw [if_pos (by omega)] | rw [if_neg (by omega)])) <;> try rfl
 clear h1632
 by_cases h8203 : a < 8203
 · (repeat (first | rw [if_pos (by omega)] | rw [if_neg (by omega)])) <;> try rfl
 clear h1642
 by_cases h8204 : a < 8204
 · (repeat (first | rw [if_pos (by omega)] | rw [if_neg (by omega)])) <;> try rfl
 clear h8203
 by_cases h8205 : a < 8205
 · (repeat (first | rw [if_pos (by omega)] | rw [if_neg (by omega)])) <;> try rfl
 clear h8204
 by_cases h8206 : a < 8206
 · (repeat (first | rw [if_pos (by omega)] | rw [if_neg (by omega)])) <;> try rfl
 clear h8205
 by_cases h19968 : a < 19968
 · (repeat (first | rw [if_pos (by omega)] | rw [if_neg (by omega)])) <;> try rfl
 clear h8206
 by_cases h40960 : a < 40960
 · (repeat (first | rw [if_pos (by omega)] | rw [if_neg (by omega)])) <;> try rfl
 clear h19968
 (repeat (first | rw [if_pos (by omega)] | rw [if_neg (by omega)])) <;> try rfl
theorem reach_i (a : Int) : (impl_lineReaches.f).bind (fun t => impl_find.f t a 1) = some (tailC a) := by
 unfold impl_lineReaches.f impl_find.f
 rw [Option.bind_some, if_pos (by decide), findV_eq (by decide), ← tail_chain]
 simp only [find_if, List.find?_nil, inR_iff]
 congr 1
 by_cases h : 9 ≤ a ∧ a ≤ 9
 · simp only [if_pos h]
 simp only [if_neg h]; clear h
 by_cases h : 10 ≤ a ∧ a ≤ 10
 · simp only [if_pos h]
 simp only [if_neg h]; clear h
 by_cases h : 32 ≤ a ∧ a ≤ 32
 · simp only [if_pos h]
 simp only [if_neg h]; clear h
 by_cases h : 33 ≤ a ∧ a ≤ 33
 · simp only [if_pos h]
 simp only [if_neg h]; clear h
 by_cases h : 34 ≤ a ∧ a ≤ 34
 · simp only [if_pos h]
 simp only [if_neg h]; clear h
 by_cases h : 40 ≤ a ∧ a ≤ 40
 · simp only [if_pos h]
 simp only [if_neg h]; clear h
 by_cases h : 41 ≤ a ∧ a ≤ 41
 · simp only [if_pos h]
 simp only [if_neg h]; clear h
 by_cases h : 44 ≤ a ∧ a ≤ 44
 · simp only [if_pos h]
 simp only [if_neg h]; clear h
 by_cases h : 45 ≤ a ∧ a ≤ 45
 · simp only [if_pos h]
 simp only [if_neg h]; clear h
 by_cases h : 46 ≤ a ∧ a ≤ 47
 · simp only [if_pos h]
 simp only [if_neg h]; clear h
 by_cases h : 48 ≤ a ∧ a ≤ 57
 · simp only [if_pos h]
 simp only [if_neg h]; clear h
 by_cases h : 58 ≤ a ∧ a ≤ 59
 · simp only [if_pos h]
 simp only [if_neg h]; clear h
 by_cases h : 63 ≤ a ∧ a ≤ 63
 · simp only [if_pos h]
 simp only [if_neg h]; clear h
 by_cases h : 91 ≤ a ∧ a ≤ 91
 · simp only [if_pos h]
 simp only [if_neg h]; clear h
 by_cases h : 93 ≤ a ∧ a ≤ 93
 · simp only [if_pos h]
 simp only [if_neg h]; clear h
 by_cases h : 123 ≤ a ∧ a ≤ 123
 · simp only [if_pos h]
 simp only [if_neg h]; clear h
 by_cases h : 125 ≤ a ∧ a ≤ 125
 · simp only [if_pos h]
 simp only [if_neg h]; clear h
 by_cases h : 160 ≤ a ∧ a ≤ 160
 · simp only [if_pos h]
 simp only [if_neg h]; clear h
 by_cases h : 173 ≤ a ∧ a ≤ 173
 · simp only [if_pos h]
 simp only [if_neg h]; clear h
 by_cases h : 1632 ≤ a ∧ a ≤ 1641
 · simp only [if_pos h]
 simp only [if_neg h]; clear h
 by_cases h : 8203 ≤ a ∧ a ≤ 8203
 · simp only [if_pos h]
 simp only [if_neg h]; clear h
 by_cases h : 8205 ≤ a ∧ a ≤ 8205
 · simp only [if_pos h]
 simp only [if_neg h]; clear h
 by_cases h : 19968 ≤ a ∧ a ≤ 40959
 · simp only [if_pos h]
 simp only [if_neg h]
theorem line_i {k : Nat} (hk : 10 ≤ k) (a : Int) : impl_RuneLine.f k a = some (lineV a) := by
 obtain ⟨k, rfl⟩ : ∃ m, k = m + 10 := ⟨k - 10, by omega⟩
 unfold impl_RuneLine.f lineV
 rw [impl_bidi_p, Option.bind_some]
 have hr := reach_i a
 by_cases h0 : bidiV a = 9
 · rw [if_pos h0, if_pos (.inl h0), impl_RuneLine.j0, if_pos rfl]
 ·
  rw [if_neg h0, impl_RuneLine.j0]
  by_cases h1 : bidiV a ≥ 14
  · rw [decide_eq_true h1, if_pos rfl, if_pos (.inr h1)]
  ·
   rw [decide_eq_false h1, if_neg (by decide), if_neg (by omega), ← hr]
   congr 1
   funext t
   cases impl_find.f t a 1 <;> rfl
end Go.Proofs.YtmcdcogedcbndaaGreat.Pure
/- Which letters join the one ahead, by both texts. -/
namespace Go.Proofs.YtmcdcogedcbndaaGreat.Pure
open Go.RowKit Go.Proofs.YtmcdcogedcbndaaGreat.S Go.Proofs.YtmcdcogedcbndaaGreatW.PrintWords Go.Proofs.YtmcdcogedcbndaaGreatW.PrintLast
def flagB (a : Int) : Bool := decide (127462 ≤ a ∧ a ≤ 127487)
def flN (rs : List Int) : Nat → Nat
 | 0 => 0
 | i + 1 => if flagB (rs.getD i 0) = true then flN rs i + 1 else 0
def jV (rs : List Int) (i : Nat) : Bool :=
 if rs.getD i 0 = 10 ∨ rs.getD (i - 1) 0 = 10 then decide (rs.getD (i - 1) 0 = 13 ∧ rs.getD i 0 = 10)
 else if bidiV (rs.getD i 0) = 9 ∨ rs.getD i 0 = 8205 then true else flagB (rs.getD i 0) && decide (flN rs i % 2 = 1)
theorem dec13 {p r : Int} (h : p = 13) : (r == 10) = decide (p = 13 ∧ r = 10) := by
 subst h
 by_cases e : r = 10
 · subst e; rfl
 · rw [beq_eq_false_iff_ne.mpr e, decide_eq_false (fun h => e h.2)]
theorem flag_s (a : Int) : spec_l2Flag.f a = some (flagB a) := by
 unfold spec_l2Flag.f flagB
 rw [l1In_f, Option.bind_some]
theorem flag_i (a : Int) : impl_isRegional.f a = some (flagB a) := by
 unfold impl_isRegional.f flagB
 by_cases h : a ≥ 127462
 ·
  rw [if_pos h]
  congr 1
  rw [decide_eq_decide]
  omega
 · rw [if_neg h, decide_eq_false (by omega)]
theorem joinS_l (rs : List Int) (r : Int) (hn : rs.length ≤ 1000) : ∀ (m k n : Nat), m ≤ rs.length → m < k → n + m ≤ 1000 → spec_l2Joins.l0 k rs r (n : Int) ((m : Int) - 1) = some (flagB r && decide ((n + flN rs m) % 2 = 1))
 | 0, k, n, hm, hk, hn1 => by
  obtain ⟨k, rfl⟩ : ∃ m, k = m + 1 := ⟨k - 1, by omega⟩
  rw [spec_l2Joins.l0, if_neg (by omega), flag_s, Option.bind_some, flN, Nat.add_zero]
  cases flagB r
  · rfl
  ·
   rw [if_pos rfl, Bool.true_and]
   congr 1
   rw [show Int.tmod (n : Int) 2 = ((n % 2 : Nat) : Int) by rw [Int.tmod_eq_emod_of_nonneg (by omega)]; rfl]
   rw [Bool.eq_iff_iff]
   simp
   omega
 | m + 1, k, n, hm, hk, hn1 => by
  obtain ⟨k, rfl⟩ : ∃ m, k = m + 1 := ⟨k - 1, by omega⟩
  rw [spec_l2Joins.l0, show ((m + 1 : Nat) : Int) - 1 = (m : Int) by omega, if_pos (by omega), if_pos (by omega), if_pos (by omega), flag_s, Option.bind_some, rd_nat, flN]
  by_cases h : flagB (rs.getD m 0) = true
  ·
   rw [if_pos h, if_pos h, w64 (by omega) (by omega), w64 (by omega) (by omega)]
   have := joinS_l rs r hn m k (n + 1) (by omega) (by omega) (by omega)
   rw [show ((n + 1 : Nat) : Int) = (n : Int) + 1 by omega] at this
   rw [this, show n + 1 + flN rs m = n + (flN rs m + 1) by omega]
  ·
   rw [if_neg h, if_neg h, Nat.add_zero, flag_s, Option.bind_some]
   cases flagB r
   · rfl
   ·
    rw [if_pos rfl, Bool.true_and]
    congr 1
    rw [show Int.tmod (n : Int) 2 = ((n % 2 : Nat) : Int) by rw [Int.tmod_eq_emod_of_nonneg (by omega)]; rfl]
    rw [Bool.eq_iff_iff]
    simp
    omega
theorem join_s {rs : List Int} {i k : Nat} (hn : rs.length ≤ 1000) (h0 : 0 < i) (hi : i < rs.length) (hk : rs.length + 40 ≤ k) : spec_l2Joins.f k rs (i : Int) = some (jV rs i) := by
 obtain ⟨k, rfl⟩ : ∃ m, k = m + 2 := ⟨k - 2, by omega⟩
 have w1 : wrap64 ((i : Int) - 1) = ((i - 1 : Nat) : Int) := by rw [w64 (by omega) (by omega)]; omega
 unfold spec_l2Joins.f jV
 rw [if_pos (by omega), if_pos (by omega), rd_nat, w1, rd_nat]
 have J0 : ∀ b : Bool, spec_l2Joins.j0 (k + 2) rs (i : Int) (rs.getD i 0) b = if b = true then some (decide (rs.getD (i - 1) 0 = 13 ∧ rs.getD i 0 = 10)) else some (if bidiV (rs.getD i 0) = 9 ∨ rs.getD i 0 = 8205 then true else flagB (rs.getD i 0) && decide (flN rs i % 2 = 1)) := by
  intro b
  have L := joinS_l rs (rs.getD i 0) hn i k 0 (by omega) (by omega) (by omega)
  rw [Nat.zero_add] at L
  cases b
  ·
   rw [spec_l2Joins.j0, if_neg (by decide), if_neg (by decide), spec_bidi_k (by omega), Option.bind_some]
   by_cases h9 : bidiV (rs.getD i 0) = 9
   · rw [if_pos h9, if_pos (.inl h9), spec_l2Joins.j1, if_pos rfl]
   ·
    rw [if_neg h9, spec_l2Joins.j1]
    by_cases h8 : rs.getD i 0 = 8205
    · rw [beq_iff_eq.mpr h8, if_pos rfl, if_pos (.inr h8)]
    ·
     rw [beq_eq_false_iff_ne.mpr h8, if_neg (by decide), if_neg (by rintro (h | h); exact h9 h; exact h8 h), w64 (x := (i : Int) - 1) (by omega) (by omega)]
     exact L
  ·
   rw [spec_l2Joins.j0, if_pos rfl, if_pos rfl, w1, if_pos (by omega), if_pos (by omega), rd_nat]
   by_cases h13 : rs.getD (i - 1) 0 = 13
   · rw [if_pos h13, dec13 h13]
   · rw [if_neg h13, decide_eq_false (fun h => h13 h.1)]
 by_cases h10 : rs.getD i 0 = 10
 · rw [if_pos h10, J0, if_pos rfl, if_pos (.inl h10)]
 ·
  rw [if_neg h10, if_pos (by omega), if_pos (by omega), J0]
  by_cases hp : rs.getD (i - 1) 0 = 10
  · rw [beq_iff_eq.mpr hp, if_pos rfl, if_pos (.inr hp)]
  · rw [beq_eq_false_iff_ne.mpr hp, if_neg (show ¬ (rs.getD i 0 = 10 ∨ rs.getD (i - 1) 0 = 10) by rintro (h | h); exact h10 h; exact hp h), if_neg (show ¬ (false = true) by decide)]
def stV (rs : List Int) (i : Nat) : Int := if i = 0 then 0 else if rs.getD (i - 1) 0 = 13 then 1 else if rs.getD (i - 1) 0 = 10 then 2 else if flagB (rs.getD (i - 1) 0) = true then (if flN rs i % 2 = 1 then 3 else 4) else 5
theorem st_next {rs : List Int} {i k : Nat} (hk : 2 ≤ k) : impl_joining_next.f k (stV rs i) (rs.getD i 0) = some (stV rs (i + 1)) := by
 obtain ⟨k, rfl⟩ : ∃ m, k = m + 2 := ⟨k - 2, by omega⟩
 unfold impl_joining_next.f
 have e : stV rs (i + 1) = if rs.getD i 0 = 13 then 1 else if rs.getD i 0 = 10 then 2 else if flagB (rs.getD i 0) = true then (if flN rs (i + 1) % 2 = 1 then 3 else 4) else 5 := by
  unfold stV
  rw [if_neg (by omega), Nat.add_sub_cancel]
 rw [e]
 by_cases h13 : rs.getD i 0 = 13
 · rw [if_pos h13, if_pos h13]
 rw [if_neg h13, if_neg h13]
 by_cases h10 : rs.getD i 0 = 10
 · rw [if_pos h10, if_pos h10]
 rw [if_neg h10, if_neg h10, flag_i, Option.bind_some, flN]
 by_cases hf : flagB (rs.getD i 0) = true
 ·
  rw [if_pos hf, if_pos hf, if_pos hf, impl_joining_next.j0]
  by_cases h3 : stV rs i = 3
  ·
   rw [beq_iff_eq.mpr h3, if_pos rfl]
   have : flN rs i % 2 = 1 := by
    unfold stV at h3
    grind
   rw [if_neg (by omega)]
  ·
   rw [beq_eq_false_iff_ne.mpr h3, if_neg (by decide), flag_i, Option.bind_some, if_pos hf]
   have : flN rs i % 2 = 0 := by
    unfold stV at h3
    by_cases h0 : i = 0
    · subst h0; rfl
    ·
     obtain ⟨j, rfl⟩ : ∃ j, i = j + 1 := ⟨i - 1, by omega⟩
     rw [if_neg h0, Nat.add_sub_cancel] at h3
     by_cases hg : flagB (rs.getD j 0) = true
     ·
      have n13 : rs.getD j 0 ≠ 13 := by intro h; rw [h] at hg; exact absurd hg (by decide)
      have n10 : rs.getD j 0 ≠ 10 := by intro h; rw [h] at hg; exact absurd hg (by decide)
      rw [if_neg n13, if_neg n10, if_pos hg] at h3
      by_cases ho : flN rs (j + 1) % 2 = 1
      · rw [if_pos ho] at h3; exact absurd rfl h3
      · omega
     · rw [flN, if_neg hg]
   rw [if_pos (by omega)]
 · rw [if_neg hf, if_neg hf, impl_joining_next.j0, if_neg (by decide), flag_i, Option.bind_some, if_neg hf]
theorem st_joins {rs : List Int} {i k : Nat} (hk : 2 ≤ k) : impl_joining_joins.f k (stV rs i) (rs.getD i 0) = some (if i = 0 then false else jV rs i) := by
 obtain ⟨k, rfl⟩ : ∃ m, k = m + 2 := ⟨k - 2, by omega⟩
 unfold impl_joining_joins.f
 by_cases h0 : i = 0
 ·
  subst h0
  rfl
 rw [if_neg h0]
 have hs0 : stV rs i ≠ 0 := by unfold stV; grind
 have hs2 : stV rs i = 2 ↔ rs.getD (i - 1) 0 = 10 := by unfold stV; grind
 have hs1 : stV rs i = 1 ↔ rs.getD (i - 1) 0 = 13 := by unfold stV; grind
 have hs3 : stV rs i = 3 ↔ flN rs i % 2 = 1 := by
  obtain ⟨j, rfl⟩ : ∃ j, i = j + 1 := ⟨i - 1, by omega⟩
  unfold stV
  rw [if_neg h0, Nat.add_sub_cancel]
  by_cases hg : flagB (rs.getD j 0) = true
  ·
   have n13 : rs.getD j 0 ≠ 13 := by intro h; rw [h] at hg; exact absurd hg (by decide)
   have n10 : rs.getD j 0 ≠ 10 := by intro h; rw [h] at hg; exact absurd hg (by decide)
   rw [if_neg n13, if_neg n10, if_pos hg]
   grind
  ·
   rw [if_neg hg, flN, if_neg hg]
   grind
 generalize stV rs i = s at hs0 hs1 hs2 hs3
 unfold jV
 rw [if_neg hs0]
 have J : ∀ b : Bool, impl_joining_joins.j0 (k + 2) s (rs.getD i 0) b = if b = true then some (decide (rs.getD (i - 1) 0 = 13 ∧ rs.getD i 0 = 10)) else some (if bidiV (rs.getD i 0) = 9 ∨ rs.getD i 0 = 8205 then true else flagB (rs.getD i 0) && decide (flN rs i % 2 = 1)) := by
  intro b
  cases b
  ·
   rw [impl_joining_joins.j0]
   simp only [Bool.false_eq_true, if_false]
   rw [impl_bidi_p, Option.bind_some]
   by_cases h9 : bidiV (rs.getD i 0) = 9
   · rw [if_pos h9, if_pos (.inl h9)]
   ·
    rw [if_neg h9]
    by_cases h8 : rs.getD i 0 = 8205
    · rw [if_pos h8, if_pos (.inr h8)]
    ·
     rw [if_neg h8, if_neg (by rintro (h | h); exact h9 h; exact h8 h), flag_i, Option.bind_some]
     cases flagB (rs.getD i 0)
     · rfl
     ·
      rw [if_pos rfl, Bool.true_and]
      congr 1
      rw [Bool.eq_iff_iff, beq_iff_eq, decide_eq_true_eq]
      exact hs3
  ·
   rw [impl_joining_joins.j0, if_pos rfl, if_pos rfl]
   by_cases h1 : s = 1
   · rw [if_pos h1, dec13 (hs1.mp h1)]
   · rw [if_neg h1, decide_eq_false (fun h => h1 (hs1.mpr h.1))]
 by_cases h2 : s = 2
 · rw [if_pos h2, J, if_pos rfl, if_pos (.inr (hs2.mp h2))]
 ·
  rw [if_neg h2, J]
  by_cases h10 : rs.getD i 0 = 10
  · rw [beq_iff_eq.mpr h10, if_pos rfl, if_pos (.inl h10)]
  · rw [beq_eq_false_iff_ne.mpr h10, if_neg (show ¬ (rs.getD i 0 = 10 ∨ rs.getD (i - 1) 0 = 10) by rintro (h | h); exact h10 h; exact h2 (hs2.mpr h)), if_neg (show ¬ (false = true) by decide)]
def jAt (rs : List Int) (i : Nat) : Bool := if i = 0 then false else jV rs i
def jsV (rs : List Int) : List Bool := (List.range rs.length).map (jAt rs)
theorem jsV_len (rs : List Int) : (jsV rs).length = rs.length := by simp [jsV]
theorem jsV_get {rs : List Int} {i : Nat} (h : i < rs.length) : (jsV rs).getD i false = jAt rs i := by simp [jsV, List.getD_eq_getElem?_getD, h]
theorem joined_l (rs : List Int) (hn : rs.length ≤ 1000) : ∀ (d k i : Nat), rs.length - i = d → i ≤ rs.length → d + 10 < k → impl_joined.l0 k ((List.range i).map (jAt rs)) (stV rs i) rs (rs.length : Int) (i : Int) = some (jsV rs)
 | 0, k, i, hd, hi, hk => by
  obtain ⟨k, rfl⟩ : ∃ m, k = m + 1 := ⟨k - 1, by omega⟩
  obtain rfl : i = rs.length := by omega
  rw [impl_joined.l0, if_neg (by omega)]
  rfl
 | d + 1, k, i, hd, hi, hk => by
  obtain ⟨k, rfl⟩ : ∃ m, k = m + 1 := ⟨k - 1, by omega⟩
  rw [impl_joined.l0, if_pos (by omega), if_pos (by omega), if_pos (by omega), rd_nat, st_joins (by omega), Option.bind_some, if_pos (by simp; omega), st_next (by omega), Option.bind_some, w64 (by omega) (by omega)]
  have := joined_l rs hn d k (i + 1) (by omega) (by omega) (by omega)
  rw [List.range_succ, List.map_append, List.map_cons, List.map_nil] at this
  exact this
theorem joined_p {rs : List Int} {k : Nat} (hn : rs.length ≤ 1000) (hk : rs.length + 10 < k) : impl_joined.f k rs = some (jsV rs) := by
 have h := joined_l rs hn rs.length k 0 (by omega) (by omega) hk
 exact h
end Go.Proofs.YtmcdcogedcbndaaGreat.Pure
/- Where lines may end, by both texts. -/
namespace Go.Proofs.YtmcdcogedcbndaaGreat.Pure
open Go.RowKit Go.Proofs.YtmcdcogedcbndaaGreat.S Go.Proofs.YtmcdcogedcbndaaGreatW.PrintWords Go.Proofs.YtmcdcogedcbndaaGreatW.PrintLast
def spc (c : Int) : Prop := c = 3 ∨ c = 4 ∨ c = 6
instance (c : Int) : Decidable (spc c) := by unfold spc; infer_instance
theorem inL_346 (c : Int) : inL [3, 4, 6] c = decide (spc c) := by
 unfold inL
 rw [Bool.eq_iff_iff, decide_eq_true_eq]
 unfold spc
 simp
theorem after_i {k : Nat} (hk : 4 ≤ k) (c : Int) : impl_afterSpace.f k c = some (decide (spc c)) := by
 unfold impl_afterSpace.f
 rw [one_f k c [3, 4, 6] (by decide) (by show 3 < k; omega), Option.bind_some, ← inL_346]
 rfl
def cntV (rs : List Int) : Nat → Int
 | 0 => if lineV (rs.getD 0 0) = 7 then 1 else lineV (rs.getD 0 0)
 | i + 1 => if lineV (rs.getD (i + 1) 0) = 7 then (if spc (cntV rs i) then 1 else cntV rs i) else lineV (rs.getD (i + 1) 0)
def csV (rs : List Int) : List Int := (List.range rs.length).map (cntV rs)
theorem csV_len (rs : List Int) : (csV rs).length = rs.length := by simp [csV]
theorem csV_get {rs : List Int} {i : Nat} (h : i < rs.length) : (csV rs).getD i 0 = cntV rs i := by simp [csV, List.getD_eq_getElem?_getD, h]
theorem pre_get (f : Nat → Int) {i n : Nat} (h : i < n) : ((List.range n).map f).getD i 0 = f i := by simp [List.getD_eq_getElem?_getD, h]
theorem countsI_l (rs : List Int) (hn : rs.length ≤ 1000) : ∀ (d k i : Nat), rs.length - i = d → i ≤ rs.length → d + 50 < k → impl_countsOf.l0 k ((List.range i).map (cntV rs)) rs (rs.length : Int) (i : Int) = some (csV rs)
 | 0, k, i, hd, hi, hk => by
  obtain ⟨k, rfl⟩ : ∃ m, k = m + 1 := ⟨k - 1, by omega⟩
  obtain rfl : i = rs.length := by omega
  rw [impl_countsOf.l0, if_neg (by omega)]
  rfl
 | d + 1, k, i, hd, hi, hk => by
  obtain ⟨k, rfl⟩ : ∃ m, k = m + 1 := ⟨k - 1, by omega⟩
  have ih := countsI_l rs hn d k (i + 1) (by omega) (by omega) (by omega)
  rw [List.range_succ, List.map_append, List.map_cons, List.map_nil] at ih
  have hl : ((List.range i).map (cntV rs)).length < 17592186044416 := by simp; omega
  have w2 : wrap64 ((i : Int) + 1) = ((i + 1 : Nat) : Int) := by rw [w64 (by omega) (by omega)]; omega
  rw [impl_countsOf.l0, if_pos (by omega), if_pos (by omega), if_pos (by omega), rd_nat, line_i (by omega), Option.bind_some, w2]
  by_cases h7 : lineV (rs.getD i 0) = 7
  ·
   rw [if_pos h7]
   by_cases h0 : i = 0
   ·
    subst h0
    rw [if_neg (by omega), if_pos hl]
    rw [cntV, if_pos h7] at ih
    exact ih
   ·
    obtain ⟨j, rfl⟩ : ∃ j, i = j + 1 := ⟨i - 1, by omega⟩
    have w1 : wrap64 (((j + 1 : Nat) : Int) - 1) = (j : Int) := by rw [w64 (by omega) (by omega)]; omega
    rw [if_pos (by omega), w1, if_pos (by omega), if_pos (by simp; omega), rd_nat, pre_get _ (by omega), after_i (by omega), Option.bind_some]
    rw [cntV, if_pos h7] at ih
    by_cases hs : spc (cntV rs j)
    ·
     rw [decide_eq_true hs, if_pos rfl, if_pos hl]
     rw [if_pos hs] at ih
     exact ih
    ·
     rw [decide_eq_false hs, if_neg (by decide), if_pos hl]
     rw [if_neg hs] at ih
     exact ih
  ·
   rw [if_neg h7, if_pos hl]
   have e : cntV rs i = lineV (rs.getD i 0) := by
    cases i with
    | zero => rw [cntV, if_neg h7]
    | succ j => rw [cntV, if_neg h7]
   rw [e] at ih
   exact ih
theorem countsI_p {rs : List Int} {k : Nat} (hn : rs.length ≤ 1000) (hk : rs.length + 50 < k) : impl_countsOf.f k rs = some (csV rs) := countsI_l rs hn rs.length k 0 (by omega) (by omega) hk
theorem countsS_l (rs : List Int) (hn : rs.length ≤ 1000) : ∀ (d k i : Nat), rs.length - i = d → i ≤ rs.length → d + 50 < k → spec_l5Counts.l0 k rs ((List.range i).map (cntV rs)) (i : Int) = some (csV rs)
 | 0, k, i, hd, hi, hk => by
  obtain ⟨k, rfl⟩ : ∃ m, k = m + 1 := ⟨k - 1, by omega⟩
  obtain rfl : i = rs.length := by omega
  rw [spec_l5Counts.l0, if_neg (by omega)]
  rfl
 | d + 1, k, i, hd, hi, hk => by
  obtain ⟨k, rfl⟩ : ∃ m, k = m + 1 := ⟨k - 1, by omega⟩
  have ih := countsS_l rs hn d k (i + 1) (by omega) (by omega) (by omega)
  rw [List.range_succ, List.map_append, List.map_cons, List.map_nil] at ih
  have hl : ((List.range i).map (cntV rs)).length < 17592186044416 := by simp; omega
  have w2 : wrap64 ((i : Int) + 1) = ((i + 1 : Nat) : Int) := by rw [w64 (by omega) (by omega)]; omega
  rw [spec_l5Counts.l0, if_pos (by omega), if_pos (by omega), rd_nat, line_s (by omega), Option.bind_some, w2]
  by_cases h7 : lineV (rs.getD i 0) = 7
  ·
   rw [if_pos h7]
   by_cases h0 : i = 0
   ·
    subst h0
    rw [if_neg (by omega), if_pos hl]
    rw [cntV, if_pos h7] at ih
    exact ih
   ·
    obtain ⟨j, rfl⟩ : ∃ j, i = j + 1 := ⟨i - 1, by omega⟩
    have w1 : wrap64 (((j + 1 : Nat) : Int) - 1) = (j : Int) := by rw [w64 (by omega) (by omega)]; omega
    rw [if_pos (by omega), w1, if_pos (by omega), if_pos (by simp; omega), rd_nat, pre_get _ (by omega)]
    rw [cntV, if_pos h7] at ih
    by_cases h3 : cntV rs j = 3
    · rw [if_pos h3, if_pos hl]; rw [if_pos (show spc (cntV rs j) from .inl h3)] at ih; exact ih
    rw [if_neg h3]
    by_cases h4 : cntV rs j = 4
    · rw [if_pos h4, if_pos hl]; rw [if_pos (show spc (cntV rs j) from .inr (.inl h4))] at ih; exact ih
    rw [if_neg h4]
    by_cases h6 : cntV rs j = 6
    · rw [if_pos h6, if_pos hl]; rw [if_pos (show spc (cntV rs j) from .inr (.inr h6))] at ih; exact ih
    rw [if_neg h6, if_pos hl]
    rw [if_neg (show ¬ spc (cntV rs j) by rintro (h | h | h); exact h3 h; exact h4 h; exact h6 h)] at ih
    exact ih
  ·
   rw [if_neg h7, if_pos hl]
   have e : cntV rs i = lineV (rs.getD i 0) := by
    cases i with
    | zero => rw [cntV, if_neg h7]
    | succ j => rw [cntV, if_neg h7]
   rw [e] at ih
   exact ih
theorem countsS_p {rs : List Int} {k : Nat} (hn : rs.length ≤ 1000) (hk : rs.length + 50 < k) : spec_l5Counts.f k rs = some (csV rs) := countsS_l rs hn rs.length k 0 (by omega) (by omega) hk
theorem place_s {k : Nat} (hk : 10 ≤ k) (a b s : Int) : spec_l5Place.f k a b s = some (placeV a b s) := by
 obtain ⟨k, rfl⟩ : ∃ m, k = m + 10 := ⟨k - 10, by omega⟩
 simp only [spec_l5Place.f, spec_l5Place.j0, spec_l5Place.j1, spec_l5Place.j2, spec_l5Inner.f, spec_l5Inner.j0, spec_l5Inner.j1, spec_l5Inner.j2, spec_l5Never.f, spec_l5Word.f, placeV, placeR, isV, ansV, wordB, inL, List.contains_cons, List.contains_nil]
 grind (splits := 60)
def solV (cs : List Int) : Nat → Int
 | 0 => 0
 | i + 1 => if cs.getD i 0 = 3 then solV cs i else cs.getD i 0
theorem before_l (cs : List Int) (hn : cs.length ≤ 1000) : ∀ (m k : Nat), m ≤ cs.length → m < k → ∃ t : Int, spec_l5Before.l0 k cs ((m : Int) - 1) = some t ∧ ((t < 0 ∧ solV cs m = 0) ∨ (0 ≤ t ∧ t < cs.length ∧ rd cs t = solV cs m))
 | 0, k, hm, hk => by
  obtain ⟨k, rfl⟩ : ∃ m, k = m + 1 := ⟨k - 1, by omega⟩
  rw [spec_l5Before.l0, if_neg (by omega)]
  exact ⟨_, rfl, .inl ⟨by omega, rfl⟩⟩
 | m + 1, k, hm, hk => by
  obtain ⟨k, rfl⟩ : ∃ m, k = m + 1 := ⟨k - 1, by omega⟩
  rw [spec_l5Before.l0, show ((m + 1 : Nat) : Int) - 1 = (m : Int) by omega, if_pos (by omega), if_pos (by omega), if_pos (by omega), rd_nat, solV]
  by_cases h : cs.getD m 0 = 3
  ·
   rw [if_pos h, if_pos h, w64 (by omega) (by omega)]
   exact before_l cs hn m k (by omega) (by omega)
  ·
   rw [if_neg h, if_neg h]
   exact ⟨_, rfl, .inr ⟨by omega, by omega, rd_nat _ _⟩⟩
def brV (rs : List Int) (i : Nat) : Int :=
 if i + 1 = rs.length then 2 else if jV rs (i + 1) = true then 0 else if lineV (rs.getD (i + 1) 0) = 7 ∧ ¬ spc (cntV rs i) then 0 else placeV (cntV rs i) (cntV rs (i + 1)) (solV (csV rs) (i + 1))
def bsV (rs : List Int) : List Int := (List.range rs.length).map (brV rs)
theorem bsV_len (rs : List Int) : (bsV rs).length = rs.length := by simp [bsV]
theorem bsV_get {rs : List Int} {i : Nat} (h : i < rs.length) : (bsV rs).getD i 0 = brV rs i := by simp [bsV, List.getD_eq_getElem?_getD, h]
theorem breaksI_l (rs : List Int) (hn : rs.length ≤ 1000) (k : Nat) (hk : 1000 ≤ k) : ∀ (d i : Nat), rs.length - i = d → i ≤ rs.length → brL k rs (csV rs) (jsV rs) d i (solV (csV rs) i) ((List.range i).map (brV rs)) = some (bsV rs)
 | 0, i, hd, hi => by
  obtain rfl : i = rs.length := by omega
  rfl
 | d + 1, i, hd, hi => by
  have ih := breaksI_l rs hn k hk d (i + 1) (by omega) (by omega)
  rw [List.range_succ, List.map_append, List.map_cons, List.map_nil, solV] at ih
  rw [brL]
  have e : brX k rs (csV rs) (jsV rs) i (if (csV rs).getD i 0 = 3 then solV (csV rs) i else (csV rs).getD i 0) = some (brV rs i) := by
   unfold brX brV
   by_cases hl : i + 1 = rs.length
   · rw [if_pos hl, if_pos hl]
   ·
    rw [if_neg hl, if_neg hl, jsV_get (by omega), show jAt rs (i + 1) = jV rs (i + 1) from if_neg (by omega)]
    by_cases hj : jV rs (i + 1) = true
    · rw [if_pos hj, if_pos hj]
    ·
     rw [if_neg hj, if_neg hj, line_i (by omega), Option.bind_some, after_i (by omega), Option.bind_some, csV_get (by omega), csV_get (by omega), solV, csV_get (by omega)]
     congr 1
     by_cases h7 : lineV (rs.getD (i + 1) 0) = 7 ∧ ¬ spc (cntV rs i)
     · rw [if_pos h7, if_pos ⟨h7.1, decide_eq_false h7.2⟩]
     · rw [if_neg h7, if_neg (fun h => h7 ⟨h.1, of_decide_eq_false h.2⟩)]
  rw [e, Option.bind_some]
  exact ih
theorem breaksI_p {rs : List Int} {k : Nat} (hn : rs.length ≤ 80) (hk : 2000 ≤ k) : impl_breaks.f k rs = some (bsV rs) := by
 unfold impl_breaks.f
 rw [countsI_p (by omega) (by omega), Option.bind_some, joined_p (by omega) (by omega), Option.bind_some, if_pos ⟨csV_len rs, jsV_len rs, by omega⟩]
 exact breaksI_l rs (by omega) k (by omega) rs.length 0 (by omega) (by omega)
theorem breaksS_l (rs : List Int) (hn : rs.length ≤ 80) : ∀ (d k i : Nat), rs.length - i = d → i ≤ rs.length → 2 * d + 500 < k → spec_l5Breaks.l0 k rs (csV rs) ((List.range i).map (brV rs)) (i : Int) = some (bsV rs)
 | 0, k, i, hd, hi, hk => by
  obtain ⟨k, rfl⟩ : ∃ m, k = m + 1 := ⟨k - 1, by omega⟩
  obtain rfl : i = rs.length := by omega
  rw [spec_l5Breaks.l0, if_neg (by rw [csV_len]; omega)]
  rfl
 | d + 1, k, i, hd, hi, hk => by
  obtain ⟨k, rfl⟩ : ∃ m, k = m + 2 := ⟨k - 2, by omega⟩
  have ih1 := breaksS_l rs hn d (k + 1) (i + 1) (by omega) (by omega) (by omega)
  have ih := breaksS_l rs hn d k (i + 1) (by omega) (by omega) (by omega)
  rw [List.range_succ, List.map_append, List.map_cons, List.map_nil] at ih ih1
  have hl : ((List.range i).map (brV rs)).length < 17592186044416 := by simp; omega
  have w2 : wrap64 ((i : Int) + 1) = ((i + 1 : Nat) : Int) := by rw [w64 (by omega) (by omega)]; omega
  have hcl := csV_len rs
  rw [spec_l5Breaks.l0, if_pos (by omega), w2]
  by_cases hlast : i + 1 = rs.length
  ·
   rw [if_pos (by omega), if_pos hl]
   have e : brV rs i = 2 := by unfold brV; rw [if_pos hlast]
   rw [e] at ih1
   exact ih1
  ·
   rw [if_neg (by omega), join_s (by omega) (by omega) (by omega) (by omega), Option.bind_some]
   have J : ∀ b : Bool, (b = true → brV rs i = 0) → (b = false → brV rs i = placeV (cntV rs i) (cntV rs (i + 1)) (solV (csV rs) (i + 1))) → spec_l5Breaks.j1 (k + 1) rs (csV rs) ((List.range i).map (brV rs)) (i : Int) b = some (bsV rs) := by
    intro b hb1 hb0
    cases b
    ·
     have hb := hb0 rfl
     obtain ⟨t, ht, hc⟩ := before_l (csV rs) (by omega) (i + 1) k (by omega) (by omega)
     rw [show ((i + 1 : Nat) : Int) - 1 = (i : Int) by omega] at ht
     rw [spec_l5Breaks.j1, if_neg (by decide)]
     unfold spec_l5Before.f
     rw [ht, Option.bind_some, w2, rd_nat, rd_nat, csV_get (by omega), csV_get (by omega)]
     rcases hc with ⟨h1, h2⟩ | ⟨h1, h2, h3⟩
     ·
      rw [if_neg (by omega), if_pos (by omega), if_pos (by omega), if_pos (by omega), if_pos (by omega), place_s (by omega), Option.bind_some, if_pos hl]
      rw [h2] at hb
      rw [hb] at ih
      exact ih
     ·
      rw [if_pos (by omega), if_pos h1, if_pos h2, if_pos (by omega), if_pos (by omega), if_pos (by omega), if_pos (by omega), place_s (by omega), Option.bind_some, if_pos hl, h3]
      rw [hb] at ih
      exact ih
    ·
     have hb := hb1 rfl
     rw [spec_l5Breaks.j1, if_pos rfl, if_pos hl, w2]
     rw [hb] at ih
     exact ih
   by_cases hj : jV rs (i + 1) = true
   ·
    rw [if_pos hj]
    exact J true (fun _ => by unfold brV; rw [if_neg hlast, if_pos hj]) (fun h => by cases h)
   ·
    rw [if_neg hj, if_pos (by omega), if_pos (by omega), rd_nat, line_s (by omega), Option.bind_some]
    have B : brV rs i = if lineV (rs.getD (i + 1) 0) = 7 ∧ ¬ spc (cntV rs i) then 0 else placeV (cntV rs i) (cntV rs (i + 1)) (solV (csV rs) (i + 1)) := by unfold brV; rw [if_neg hlast, if_neg hj]
    by_cases h7 : lineV (rs.getD (i + 1) 0) = 7
    ·
     rw [if_pos h7, if_pos (by omega), rd_nat, csV_get (by omega)]
     by_cases h3 : cntV rs i = 3
     ·
      rw [if_pos h3]
      exact J false (fun h => by cases h) (fun _ => by rw [B, if_neg (fun h => h.2 (.inl h3))])
     rw [if_neg h3]
     by_cases h4 : cntV rs i = 4
     ·
      rw [if_pos h4]
      exact J false (fun h => by cases h) (fun _ => by rw [B, if_neg (fun h => h.2 (.inr (.inl h4)))])
     rw [if_neg h4]
     by_cases h6 : cntV rs i = 6
     ·
      rw [show (cntV rs i != 6) = false from bne_eq_false_iff_eq.mpr h6]
      exact J false (fun h => by cases h) (fun _ => by rw [B, if_neg (fun h => h.2 (.inr (.inr h6)))])
     ·
      rw [show (cntV rs i != 6) = true from bne_iff_ne.mpr h6]
      exact J true (fun _ => by rw [B, if_pos ⟨h7, by rintro (h | h | h); exact h3 h; exact h4 h; exact h6 h⟩]) (fun h => by cases h)
    ·
     rw [if_neg h7]
     exact J false (fun h => by cases h) (fun _ => by rw [B, if_neg (fun h => h7 h.1)])
theorem breaksS_p {rs : List Int} {k : Nat} (hn : rs.length ≤ 80) (hk : 2000 ≤ k) : spec_l5Breaks.f k rs = some (bsV rs) := by
 unfold spec_l5Breaks.f
 rw [countsS_p (by omega) (by omega), Option.bind_some]
 exact breaksS_l rs hn rs.length k 0 (by omega) (by omega) (by omega)
end Go.Proofs.YtmcdcogedcbndaaGreat.Pure
namespace Go.Proofs.YtmcdcogedcbndaaGreat.S
open Go.RowKit Go.Proofs.YtmcdcogedcbndaaGreatW.PrintWords Go.Proofs.YtmcdcogedcbndaaGreatW.PrintLast
set_option linter.unusedVariables false
set_option linter.unusedSimpArgs false
def spec_l7Empty.f (k : Nat) (a0 : Int) : Option (Bool) := if a0 = 32 then (some true) else (if a0 = 10 then (some true) else ((spec_RuneWide.f k a0).bind fun t243 => (some (t243 == 0))))
theorem spec_l7Empty.mono : ∀ a0 k, LeO (spec_l7Empty.f k a0) (spec_l7Empty.f (k + 1) a0) := by
 intro a0 k; unfold spec_l7Empty.f
 repeat' first
   | (with_reducible exact spec_RuneWide.mono _ _)
   | (with_reducible exact LeO.refl _)
   | (with_reducible exact LeO.none _)
   | (with_reducible refine LeO.ite ?_ ?_)
   | (with_reducible refine LeO.bind ?_ (fun _ => ?_))
   | exact spec_RuneWide.mono _ _
   | exact LeO.none _
   | refine LeO.ite ?_ ?_
   | refine LeO.bind ?_ (fun _ => ?_)
theorem spec_l7Empty.calls (k : Nat) (a0 : Int) (r : Bool) (w : World) (h : spec_l7Empty.f k a0 = some r) :
  Calls Tryz.prog 128 #[.int .i64 a0] w fun e w' => e = .returned (.bool r) ∧ Below w.heap.size w w' := by
 have HB := az (Below.refl w.heap.size w); have H : (if a0 = 32 then (some true) else (if a0 = 10 then (some true) else ((spec_RuneWide.f k a0).bind fun t243 => (some (t243 == 0))))) = some r := h; clear h; by_cases c2 : a0 = 32
 ·
  rw [if_pos c2] at H; have c2b0 : (a0 == 32) = true := beq_iff_eq.mpr c2; have c2b1 : (a0 != 32) = false := bne_eq_false_iff_eq.mpr c2; clear c2; obtain rfl := Option.some.inj H; go_enter Tryz.func128, Tryz.ntmps128; go_wp2; go_ret; exact ⟨zG, zA HB.out⟩
 ·
  rw [if_neg c2] at H; have c2b0 : (a0 == 32) = false := beq_eq_false_iff_ne.mpr c2; have c2b1 : (a0 != 32) = true := bne_iff_ne.mpr c2; by_cases c3 : a0 = 10
  ·
   rw [if_pos c3] at H; have c3b0 : (a0 == 10) = true := beq_iff_eq.mpr c3; have c3b1 : (a0 != 10) = false := bne_eq_false_iff_eq.mpr c3; clear c3; obtain rfl := Option.some.inj H; go_enter Tryz.func128, Tryz.ntmps128; go_wp2; go_ret; exact ⟨zG, zA HB.out⟩
  ·
   rw [if_neg c3] at H; have c3b0 : (a0 == 10) = false := beq_eq_false_iff_ne.mpr c3; have c3b1 : (a0 != 10) = true := bne_iff_ne.mpr c3; replace H := Option.bind_eq_some_iff.mp H; obtain ⟨t243, A40, H⟩ := H; replace H : (some (t243 == 0)) = some r := H; have A4 := az A40; clear A40; obtain rfl := Option.some.inj H; go_enter Tryz.func128, Tryz.ntmps128; go_wp2_with (first | (go_at_call 136; (with_reducible refine (spec_RuneWide.calls k a0 t243 _ A4.out).mono ?_); rintro e w5 ⟨rfl, hb⟩; have n0_ := az (below_step (zA HB.out) hb); clear HB; have HB := n0_; clear n0_; (try clear hb); (try clear hb2); (try clear hk); (try clear hi))); go_ret; exact ⟨zG, zA HB.out⟩
mutual
def spec_l7Wide.j1 : Nat → List Int → Int → Int → Option (Int)
 | 0, _, _, _ => none
 | k + 1, x1, x2, x3 => spec_l7Wide.l1 k x1 x3 0 x2
def spec_l7Wide.l1 : Nat → List Int → Int → Int → Int → Option (Int)
 | 0, _, _, _, _ => none
 | k + 1, x1, x3, x9, x10 => if x10 < x3 then (if 0 ≤ x10 then (if x10 < (x1.length : Int) then (spec_l7Wide.l1 k x1 x3 (wrap64 (x9 + (rd x1 x10))) (wrap64 (x10 + 1))) else (none)) else (none)) else (some x9)
def spec_l7Wide.l0 : Nat → List Int → List Int → Int → Int → Option (Int)
 | 0, _, _, _, _ => none
 | k + 1, x0, x1, x2, x3 => if x3 > x2 then (if 0 ≤ (wrap64 (x3 - 1)) then (if (wrap64 (x3 - 1)) < (x0.length : Int) then ((spec_l7Empty.f k (rd x0 (wrap64 (x3 - 1)))).bind fun t245 => (if t245 = true then (spec_l7Wide.l0 k x0 x1 x2 (wrap64 (x3 - 1))) else (spec_l7Wide.j1 k x1 x2 x3))) else (none)) else (none)) else (spec_l7Wide.j1 k x1 x2 x3)
end
def spec_l7Wide.f (k : Nat) (l0 : List Int) (l1 : List Int) (a2 : Int) (a3 : Int) : Option (Int) := spec_l7Wide.l0 k l0 l1 a2 a3
theorem spec_l7Wide.mono_l : ∀ k, (∀ y0 y1 y2, LeO (spec_l7Wide.j1 k y0 y1 y2) (spec_l7Wide.j1 (k + 1) y0 y1 y2)) ∧ (∀ y0 y1 y2 y3, LeO (spec_l7Wide.l1 k y0 y1 y2 y3) (spec_l7Wide.l1 (k + 1) y0 y1 y2 y3)) ∧ (∀ y0 y1 y2 y3, LeO (spec_l7Wide.l0 k y0 y1 y2 y3) (spec_l7Wide.l0 (k + 1) y0 y1 y2 y3))
 | 0 => ⟨fun _ _ _ r h => by simp [spec_l7Wide.j1] at h, fun _ _ _ _ r h => by simp [spec_l7Wide.l1] at h, fun _ _ _ _ r h => by simp [spec_l7Wide.l0] at h⟩
 | k + 1 => by
  obtain ⟨ih0, ih1, ih2⟩ := spec_l7Wide.mono_l k; refine ⟨?_, ?_, ?_⟩
  ·
   intro y0 y1 y2; unfold spec_l7Wide.j1
   repeat' first
   | (with_reducible exact ih0 _ _ _)
   | (with_reducible exact ih1 _ _ _ _)
   | (with_reducible exact ih2 _ _ _ _)
   | (with_reducible exact spec_l7Empty.mono _ _)
   | (with_reducible exact LeO.refl _)
   | (with_reducible exact LeO.none _)
   | (with_reducible refine LeO.ite ?_ ?_)
   | (with_reducible refine LeO.bind ?_ (fun _ => ?_))
   | exact ih0 _ _ _
   | exact ih1 _ _ _ _
   | exact ih2 _ _ _ _
   | exact spec_l7Empty.mono _ _
   | exact LeO.none _
   | refine LeO.ite ?_ ?_
   | refine LeO.bind ?_ (fun _ => ?_)
  ·
   intro y0 y1 y2 y3; unfold spec_l7Wide.l1
   repeat' first
   | (with_reducible exact ih0 _ _ _)
   | (with_reducible exact ih1 _ _ _ _)
   | (with_reducible exact ih2 _ _ _ _)
   | (with_reducible exact spec_l7Empty.mono _ _)
   | (with_reducible exact LeO.refl _)
   | (with_reducible exact LeO.none _)
   | (with_reducible refine LeO.ite ?_ ?_)
   | (with_reducible refine LeO.bind ?_ (fun _ => ?_))
   | exact ih0 _ _ _
   | exact ih1 _ _ _ _
   | exact ih2 _ _ _ _
   | exact spec_l7Empty.mono _ _
   | exact LeO.none _
   | refine LeO.ite ?_ ?_
   | refine LeO.bind ?_ (fun _ => ?_)
  ·
   intro y0 y1 y2 y3; unfold spec_l7Wide.l0
   repeat' first
   | (with_reducible exact ih0 _ _ _)
   | (with_reducible exact ih1 _ _ _ _)
   | (with_reducible exact ih2 _ _ _ _)
   | (with_reducible exact spec_l7Empty.mono _ _)
   | (with_reducible exact LeO.refl _)
   | (with_reducible exact LeO.none _)
   | (with_reducible refine LeO.ite ?_ ?_)
   | (with_reducible refine LeO.bind ?_ (fun _ => ?_))
   | exact ih0 _ _ _
   | exact ih1 _ _ _ _
   | exact ih2 _ _ _ _
   | exact spec_l7Empty.mono _ _
   | exact LeO.none _
   | refine LeO.ite ?_ ?_
   | refine LeO.bind ?_ (fun _ => ?_)
theorem spec_l7Wide.mono : ∀ a0 a1 a2 a3 k, LeO (spec_l7Wide.f k a0 a1 a2 a3) (spec_l7Wide.f (k + 1) a0 a1 a2 a3) := by
 intro a0 a1 a2 a3 k; obtain ⟨ih0, ih1, ih2⟩ := spec_l7Wide.mono_l k; unfold spec_l7Wide.f
 repeat' first
   | (with_reducible exact ih0 _ _ _)
   | (with_reducible exact ih1 _ _ _ _)
   | (with_reducible exact ih2 _ _ _ _)
   | (with_reducible exact spec_l7Empty.mono _ _)
   | (with_reducible exact LeO.refl _)
   | (with_reducible exact LeO.none _)
   | (with_reducible refine LeO.ite ?_ ?_)
   | (with_reducible refine LeO.bind ?_ (fun _ => ?_))
   | exact ih0 _ _ _
   | exact ih1 _ _ _ _
   | exact ih2 _ _ _ _
   | exact spec_l7Empty.mono _ _
   | exact LeO.none _
   | refine LeO.ite ?_ ?_
   | refine LeO.bind ?_ (fun _ => ?_)
theorem spec_l7Wide.calls (k : Nat) (A0 : Option Addr) (c0 : Nat) (l0 : List Int) (A1 : Option Addr) (c1 : Nat) (l1 : List Int) (a2 : Int) (a3 : Int) (r : Int) (w : World) (hr0 : Kd.C (Kd.int .i64) w A0 l0.length l0) (hc0 : l0.length ≤ c0) (hr1 : Kd.C (Kd.int .i64) w A1 l1.length l1) (hc1 : l1.length ≤ c1) (h : spec_l7Wide.f k l0 l1 a2 a3 = some r) :
  Calls Tryz.prog 92 #[.slice A0 l0.length c0, .slice A1 l1.length c1, .int .i64 a2, .int .i64 a3] w fun e w' => e = .returned (.int .i64 r) ∧ Below w.heap.size w w' := by
 have HR0 := az hr0; have HC0 := az hc0; clear hr0 hc0; have HR1 := az hr1; have HC1 := az hc1; clear hr1 hc1; have HB := az (Below.refl w.heap.size w); have H : (spec_l7Wide.l0 k l0 l1 a2 a3) = some r := h; clear h; have HC5 := az H; clear H; go_enter Tryz.func92, Tryz.ntmps92; go_upto_block 0 with (fail)
 go_cut [3] (fun v3 wc => ∃ (kq : Nat) (x3_4 : Int), v3 = .int .i64 x3_4 ∧ Aside0 (spec_l7Wide.j1 kq l1 a2 x3_4 = some r) ∧ Aside0 (kq ≤ k) ∧ Aside0 (Below w.heap.size w wc))
 case first =>
  have H := HC5.out; clear HC5; have H' := az H; clear H; go_wp2; go_loopg [3] k (fun kq v3 w' => ∃ (x3_1 : Int), v3 = .int .i64 x3_1 ∧ Aside0 (spec_l7Wide.l0 kq l0 l1 a2 x3_1 = some r) ∧ Aside0 (kq ≤ k) ∧ Aside0 (Below w.heap.size w w'))
  case atStart => exact ⟨(a3), zB, H', ⟨Nat.le_refl _⟩, ⟨zA HB.out⟩⟩
  case round =>
   clear H'; (try clear c1); (try clear p2); obtain ⟨x3_1, rfl, HA, HK1, HB⟩ := hrel
   cases gk with
   | zero => exact absurd HA.out (by simp [spec_l7Wide.l0])
   | succ k1 =>
    have H := HA.out; clear HA; simp only [spec_l7Wide.l0] at H; by_cases c6 : x3_1 > a2
    ·
     rw [if_pos c6] at H; have c6b0 : decide (a2 < x3_1) = true := decide_eq_true c6; clear c6; (first | rw [c6b0] | (simp only [i64_w, i32_w]; rw [c6b0]) | skip); obtain ⟨ji7, hji7⟩ : ∃ j_ : Int, (wrap64 (x3_1 - 1)) = j_ := ⟨_, rfl⟩; replace H : (if 0 ≤ (ji7) then (if (ji7) < (l0.length : Int) then ((spec_l7Empty.f k1 (rd l0 (ji7))).bind fun t245 => (if t245 = true then (spec_l7Wide.l0 k1 l0 l1 a2 ji7) else (spec_l7Wide.j1 k1 l1 a2 x3_1))) else (none)) else (none)) = some r := by first | (rw [hji7] at H; exact H) | (simp only [hji7] at H ⊢; exact H)
     have hji7w : (IntKind.i64.wrap (x3_1 - 1)) = ji7 := (i64_w _).trans hji7; by_cases c8 : 0 ≤ (ji7)
     ·
      rw [if_pos c8] at H; have c8b0 : decide (0 ≤ (ji7)) = true := decide_eq_true c8; clear c8; by_cases c9 : (ji7) < (l0.length : Int)
      ·
       rw [if_pos c9] at H; have c9b0 : decide ((ji7) < (l0.length : Int)) = true := decide_eq_true c9; clear c9; replace H := Option.bind_eq_some_iff.mp H; obtain ⟨t245, A100, H⟩ := H; replace H : (if t245 = true then (spec_l7Wide.l0 k1 l0 l1 a2 ji7) else (spec_l7Wide.j1 k1 l1 a2 x3_1)) = some r := H; have A10 := az A100; clear A100; by_cases c11 : t245 = true
       ·
        subst c11; have H1 : (spec_l7Wide.l0 k1 l0 l1 a2 ji7) = some r := by rw [if_pos rfl] at H; exact H
        clear H; have H := H1; clear H1; have H' := az H; clear H; have p244 : 0 ≤ ((ji7) : Int) := of_decide_eq_true (by assumption); have q244 : (ji7) < (l0.length : Int) := of_decide_eq_true (by assumption); obtain ⟨ad244, e244, hx244_0⟩ := Kd.at_int HR0.out (ji7) p244 q244
        cases e244
        replace hx244_0 := (HB.out.cell (World.block_lt_of_cell? w _ hx244_0)).trans hx244_0; replace p244 := eq_true p244; replace q244 := eq_true q244; go_wp2_with (first | (go_at_call 128; (with_reducible refine (spec_l7Empty.calls k1 (rd l0 (ji7)) true _ A10.out).mono ?_); rintro e w12 ⟨rfl, hb⟩; have n0_ := az (below_step (zA HB.out) hb); clear HB; have HB := n0_; clear n0_; (try clear hb); (try clear hb2); (try clear hk); (try clear hi))); go_roundg k1
        case measure => have := HK1.out; omega
        case rel => exact ⟨(ji7), (by first | rfl | (simp; done) | (simp only [← hji7] <;> (first | rfl | simp)) | (simp [*]; done)), H', ⟨zE HK1.out⟩, ⟨zA HB.out⟩⟩
       ·
        replace c11 := Bool.eq_false_iff.mpr c11; subst c11; have H1 : (spec_l7Wide.j1 k1 l1 a2 x3_1) = some r := by rw [if_neg (show ¬ (false = true) by decide)] at H; exact H
        clear H; have H := H1; clear H1; have H' := az H; clear H; have p244 : 0 ≤ ((ji7) : Int) := of_decide_eq_true (by assumption); have q244 : (ji7) < (l0.length : Int) := of_decide_eq_true (by assumption); obtain ⟨ad244, e244, hx244_0⟩ := Kd.at_int HR0.out (ji7) p244 q244
        cases e244
        replace hx244_0 := (HB.out.cell (World.block_lt_of_cell? w _ hx244_0)).trans hx244_0; replace p244 := eq_true p244; replace q244 := eq_true q244; go_wp2_with (first | (go_at_call 128; (with_reducible refine (spec_l7Empty.calls k1 (rd l0 (ji7)) false _ A10.out).mono ?_); rintro e w13 ⟨rfl, hb⟩; have n0_ := az (below_step (zA HB.out) hb); clear HB; have HB := n0_; clear n0_; (try clear hb); (try clear hb2); (try clear hk); (try clear hi))); go_meet
        case rel => exact ⟨_, (x3_1), zB, H', ⟨zJ HK1.out⟩, ⟨zA HB.out⟩⟩
      ·
       rw [if_neg c9] at H; exact absurd H (by simp)
     ·
      rw [if_neg c8] at H; exact absurd H (by simp)
    ·
     rw [if_neg c6] at H; have c6b0 : decide (a2 < x3_1) = false := decide_eq_false c6; clear c6; (first | rw [c6b0] | (simp only [i64_w, i32_w]; rw [c6b0]) | skip); have H' := az H; clear H; go_wp2; go_meet
     case rel => exact ⟨_, (x3_1), zB, H', ⟨zJ HK1.out⟩, ⟨zA HB.out⟩⟩
 case rest =>
  clear HC5; (try clear c1); (try clear p2); (try clear q2); (try clear hx2); (try clear c6); (try clear c6b0); (try clear p6); (try clear c8); (try clear c8b0); (try clear c9); (try clear c9b0); (try clear c11); (try clear hx244_0); (try clear p2); (try clear p244); (try clear q244); obtain ⟨kq, x3_4, rfl, HA, HJ4, HB⟩ := hcut
  cases kq with
  | zero => exact absurd HA.out (by simp [spec_l7Wide.j1])
  | succ kj4 =>
   have H := HA.out; clear HA; simp only [spec_l7Wide.j1] at H; have H' := az H; clear H; go_wp2; go_loopg [9, 10] kj4 (fun kq v9 v10 w' => ∃ (x9_2 : Int) (x10_2 : Int), v9 = .int .i64 x9_2 ∧ v10 = .int .i64 x10_2 ∧ Aside0 (spec_l7Wide.l1 kq l1 x3_4 x9_2 x10_2 = some r) ∧ Aside0 (kq ≤ kj4) ∧ Aside0 (Below w.heap.size w w'))
   case atStart => exact ⟨(0), (a2), zB, zB, H', ⟨Nat.le_refl _⟩, ⟨zA HB.out⟩⟩
   case round =>
    clear H'; (try clear c1); (try clear p2); (try clear q2); (try clear hx2); (try clear c6); (try clear c6b0); (try clear p6); (try clear c8); (try clear c8b0); (try clear c9); (try clear c9b0); (try clear c11); (try clear hx244_0); (try clear p2); (try clear p244); (try clear p6); (try clear q2); (try clear q244); obtain ⟨x9_2, x10_2, rfl, rfl, HA, HK2, HB⟩ := hrel
    cases gk with
    | zero => exact absurd HA.out (by simp [spec_l7Wide.l1])
    | succ k2 =>
     have H := HA.out; clear HA; simp only [spec_l7Wide.l1] at H; by_cases c14 : x10_2 < x3_4
     ·
      rw [if_pos c14] at H; have c14b0 : decide (x10_2 < x3_4) = true := decide_eq_true c14; clear c14; by_cases c15 : 0 ≤ x10_2
      ·
       rw [if_pos c15] at H; have c15b0 : decide (0 ≤ x10_2) = true := decide_eq_true c15; clear c15; by_cases c16 : x10_2 < (l1.length : Int)
       ·
        rw [if_pos c16] at H; have c16b0 : decide (x10_2 < (l1.length : Int)) = true := decide_eq_true c16; clear c16; have H' := az H; clear H; have p246 : 0 ≤ (x10_2 : Int) := of_decide_eq_true (by assumption); have q246 : x10_2 < (l1.length : Int) := of_decide_eq_true (by assumption); obtain ⟨ad246, e246, hx246_0⟩ := Kd.at_int HR1.out x10_2 p246 q246
        cases e246
        replace hx246_0 := (HB.out.cell (World.block_lt_of_cell? w _ hx246_0)).trans hx246_0; replace p246 := eq_true p246; replace q246 := eq_true q246; go_wp2; go_roundg k2
        case measure => have := HJ4.out; have := HK2.out; omega
        case rel => exact ⟨(wrap64 (x9_2 + (rd l1 x10_2))), (wrap64 (x10_2 + 1)), zB, zB, H', ⟨zL HJ4.out HK2.out⟩, ⟨zA HB.out⟩⟩
       ·
        rw [if_neg c16] at H; exact absurd H (by simp)
      ·
       rw [if_neg c15] at H; exact absurd H (by simp)
     ·
      rw [if_neg c14] at H; have c14b0 : decide (x10_2 < x3_4) = false := decide_eq_false c14; clear c14; obtain rfl := Option.some.inj H; go_wp2; go_ret; exact ⟨zG, zA HB.out⟩
def spec_l2At.l0 : Nat → List Int → Int → Option (Int)
 | 0, _, _ => none
 | k + 1, x0, x1 => if x1 > 0 then ((spec_l2Joins.f k x0 x1).bind fun t140 => (if t140 = true then (spec_l2At.l0 k x0 (wrap64 (x1 - 1))) else (some x1))) else (some x1)
def spec_l2At.f (k : Nat) (l0 : List Int) (a1 : Int) : Option (Int) := spec_l2At.l0 k l0 a1
theorem spec_l2At.mono_l : ∀ k, (∀ y0 y1, LeO (spec_l2At.l0 k y0 y1) (spec_l2At.l0 (k + 1) y0 y1))
 | 0 => fun _ _ r h => by simp [spec_l2At.l0] at h
 | k + 1 => by
  have ih0 := spec_l2At.mono_l k
  ·
   intro y0 y1; unfold spec_l2At.l0
   repeat' first
   | (with_reducible exact ih0 _ _)
   | (with_reducible exact spec_l2Joins.mono _ _ _)
   | (with_reducible exact LeO.refl _)
   | (with_reducible exact LeO.none _)
   | (with_reducible refine LeO.ite ?_ ?_)
   | (with_reducible refine LeO.bind ?_ (fun _ => ?_))
   | exact ih0 _ _
   | exact spec_l2Joins.mono _ _ _
   | exact LeO.none _
   | refine LeO.ite ?_ ?_
   | refine LeO.bind ?_ (fun _ => ?_)
theorem spec_l2At.mono : ∀ a0 a1 k, LeO (spec_l2At.f k a0 a1) (spec_l2At.f (k + 1) a0 a1) := by
 intro a0 a1 k; have ih0 := spec_l2At.mono_l k; unfold spec_l2At.f
 repeat' first
   | (with_reducible exact ih0 _ _)
   | (with_reducible exact spec_l2Joins.mono _ _ _)
   | (with_reducible exact LeO.refl _)
   | (with_reducible exact LeO.none _)
   | (with_reducible refine LeO.ite ?_ ?_)
   | (with_reducible refine LeO.bind ?_ (fun _ => ?_))
   | exact ih0 _ _
   | exact spec_l2Joins.mono _ _ _
   | exact LeO.none _
   | refine LeO.ite ?_ ?_
   | refine LeO.bind ?_ (fun _ => ?_)
theorem spec_l2At.calls (k : Nat) (A0 : Option Addr) (c0 : Nat) (l0 : List Int) (a1 : Int) (r : Int) (w : World) (hr0 : Kd.C (Kd.int .i64) w A0 l0.length l0) (hc0 : l0.length ≤ c0) (h : spec_l2At.f k l0 a1 = some r) :
  Calls Tryz.prog 120 #[.slice A0 l0.length c0, .int .i64 a1] w fun e w' => e = .returned (.int .i64 r) ∧ Below w.heap.size w w' := by
 have HR0 := az hr0; have HC0 := az hc0; clear hr0 hc0; have HB := az (Below.refl w.heap.size w); have H : (spec_l2At.l0 k l0 a1) = some r := h; clear h; have H' := az H; clear H; go_enter Tryz.func120, Tryz.ntmps120; go_wp2; go_loopg [1] k (fun kq v1 w' => ∃ (x1_1 : Int), v1 = .int .i64 x1_1 ∧ Aside0 (spec_l2At.l0 kq l0 x1_1 = some r) ∧ Aside0 (kq ≤ k) ∧ Aside0 (Below w.heap.size w w'))
 case atStart => exact ⟨(a1), zB, H', ⟨Nat.le_refl _⟩, ⟨zA HB.out⟩⟩
 case round =>
  clear H'; (try clear c1); (try clear p2); obtain ⟨x1_1, rfl, HA, HK1, HB⟩ := hrel
  cases gk with
  | zero => exact absurd HA.out (by simp [spec_l2At.l0])
  | succ k1 =>
   have H := HA.out; clear HA; simp only [spec_l2At.l0] at H; by_cases c3 : x1_1 > 0
   ·
    rw [if_pos c3] at H; have c3b0 : decide (0 < x1_1) = true := decide_eq_true c3; clear c3; replace H := Option.bind_eq_some_iff.mp H; obtain ⟨t140, A40, H⟩ := H; replace H : (if t140 = true then (spec_l2At.l0 k1 l0 (wrap64 (x1_1 - 1))) else (some x1_1)) = some r := H; have A4 := az A40; clear A40; by_cases c5 : t140 = true
    ·
     subst c5; have H1 : (spec_l2At.l0 k1 l0 (wrap64 (x1_1 - 1))) = some r := by rw [if_pos rfl] at H; exact H
     clear H; have H := H1; clear H1; have H' := az H; clear H; go_wp2_with (first | (go_at_call 124; (with_reducible refine (spec_l2Joins.calls k1 _ _ l0 x1_1 true _ ?side1 ?side2 A4.out).mono ?_); (case side1 => exact (zM HR0.out HB.out)); (case side2 => exact HC0.out); rintro e w6 ⟨rfl, hb⟩; have n0_ := az (below_step (zA HB.out) hb); clear HB; have HB := n0_; clear n0_; (try clear hb); (try clear hb2); (try clear hk); (try clear hi))); go_roundg k1
     case measure => have := HK1.out; omega
     case rel => exact ⟨(wrap64 (x1_1 - 1)), zB, H', ⟨zE HK1.out⟩, ⟨zA HB.out⟩⟩
    ·
     replace c5 := Bool.eq_false_iff.mpr c5; subst c5; have H1 : (some x1_1) = some r := by rw [if_neg (show ¬ (false = true) by decide)] at H; exact H
     clear H; have H := H1; clear H1; obtain rfl := Option.some.inj H; go_wp2_with (first | (go_at_call 124; (with_reducible refine (spec_l2Joins.calls k1 _ _ l0 x1_1 false _ ?side1 ?side2 A4.out).mono ?_); (case side1 => exact (zM HR0.out HB.out)); (case side2 => exact HC0.out); rintro e w7 ⟨rfl, hb⟩; have n0_ := az (below_step (zA HB.out) hb); clear HB; have HB := n0_; clear n0_; (try clear hb); (try clear hb2); (try clear hk); (try clear hi))); go_ret; exact ⟨zG, zA HB.out⟩
   ·
    rw [if_neg c3] at H; have c3b0 : decide (0 < x1_1) = false := decide_eq_false c3; clear c3; obtain rfl := Option.some.inj H; go_wp2; go_ret; exact ⟨zG, zA HB.out⟩
def atV (at_ : Int) : List S50 → Int × Int
 | [] => (10, 0)
 | x :: r => if x.f0 ≤ at_ ∧ at_ ≤ wrap64 (x.f1 - 1) then (x.f2, x.f3) else atV at_ r
def spec_l6At.f (l0 : List S50) (a1 : Int) : Option (Int × Int) := some (atV a1 l0)
theorem atV_in (a b c : Int) : spec_l1In.f a b c = some (decide (b ≤ a ∧ a ≤ c)) := by
 unfold spec_l1In.f
 by_cases h : a ≥ b
 · simp [h]
 · simp [h]
theorem in_quiet {a b c : Int} {r : Bool} (h : spec_l1In.f a b c = some r) (w : World) (n : Nat) : Calls Tryz.prog 36 #[.int .i64 a, .int .i64 b, .int .i64 c] (w.drewN n) fun e w'' => e = .returned (.bool r) ∧ ∃ m, w'' = w.drewN m :=
 Calls.quiet_of ((spec_l1In.calls a b c r (w.drewN n) h).mono fun _ _ ⟨he, hd⟩ => ⟨he, hd.out⟩)
theorem spec_l6At.calls (A0 : Option Addr) (c0 : Nat) (l0 : List S50) (a1 : Int) (r1 r2 : Int) (w : World) (hr0 : Kd.C k50 w A0 l0.length l0) (hc0 : l0.length ≤ c0) (h : spec_l6At.f l0 a1 = some (r1, r2)) :
  Calls Tryz.prog 121 #[.slice A0 l0.length c0, .int .i64 a1] w fun e w' => e = .returned (.tuple #[.int .i64 r1, .int .i64 r2]) ∧ Drawn0 w w' := by
 have HR := az hr0
 have hmx := hr0.2.1
 have HMX := az hmx
 clear hr0 hc0 hmx
 have HF := az (Option.some.inj h)
 clear h
 go_enter Tryz.func121, Tryz.ntmps121
 go_wp2
 go_loopg [6] l0.length (fun gg s6 wr => ∃ i : Nat, s6 = .int .i64 i ∧ i ≤ l0.length ∧ l0.length - i ≤ gg ∧ Aside0 (atV a1 (l0.drop i) = (r1, r2)) ∧ Aside0 (Drawn0 w wr))
 case atStart => exact ⟨0, rfl, Nat.zero_le _, by omega, HF, ⟨Drawn0.refl _⟩⟩
 case round =>
  clear HF
  obtain ⟨i, rfl, hi, hg, HF, hdr⟩ := hrel
  have HDR := hdr
  clear hdr
  by_cases hlt : i < l0.length
  ·
   have hltz : (i : Int) < (l0.length : Int) := by omega
   have hi0 : (0 : Int) ≤ (i : Int) := by omega
   obtain ⟨ad, rfl, h0, h1, h2, h3⟩ := at_T50 (Kd.C_below HR.out HDR.out.below) (i : Int) hi0 hltz
   obtain ⟨x, hx⟩ : ∃ x, rd_T50 l0 (i : Int) = x := ⟨_, rfl⟩
   have hd : l0.drop i = x :: l0.drop (i + 1) := by
    rw [List.drop_eq_getElem_cons hlt, ← hx]
    simp [rd_T50, List.getD_eq_getElem?_getD, hlt]
   rw [hx] at h0 h1 h2 h3
   rw [Int.toNat_natCast] at h0 h1 h2 h3
   have hq := HF.out
   rw [hd, atV] at hq
   have hw1 : IntKind.i64.wrap (x.f1 - 1) = wrap64 (x.f1 - 1) := i64_w _
   obtain ⟨t, ht⟩ : ∃ t, wrap64 (x.f1 - 1) = t := ⟨_, rfl⟩
   rw [ht] at hq hw1
   have hw64 : IntKind.i64.wrap ((i : Int) + 1) = (i : Int) + 1 := by rw [i64_w]; unfold wrap64; have := HMX.out; omega
   have hw65 : wrap64 ((i : Int) + 1) = (i : Int) + 1 := by unfold wrap64; have := HMX.out; omega
   clear hx hd HF
   by_cases hc : x.f0 ≤ a1 ∧ a1 ≤ t
   ·
    rw [if_pos hc] at hq
    obtain ⟨rfl, rfl⟩ := Prod.mk.inj hq
    have HIN := az (show spec_l1In.f a1 x.f0 t = some true by rw [atV_in, decide_eq_true hc])
    clear hc hq
    go_upto_region 4 with fail
    go_quiet ((go_at_call 36; exact in_quiet HIN.out _ _))
    go_upto_region 5 with fail
    go_quiet (fail)
    go_wp2
    go_ret2
    exact ⟨rfl, by obtain ⟨⟨n0, e0⟩⟩ := HDR.out; subst e0; repeat (first | exact Drawn0.refl _ | apply Drawn0.step | exact ⟨⟨_, rfl⟩⟩)⟩
   ·
    rw [if_neg hc] at hq
    have HQ := az hq
    have HIN := az (show spec_l1In.f a1 x.f0 t = some false by rw [atV_in, decide_eq_false hc])
    clear hc hq
    go_upto_region 4 with fail
    go_quiet ((go_at_call 36; exact in_quiet HIN.out _ _))
    go_wp2
    go_roundg (l0.length - (i + 1))
    case measure => omega
    case rel => exact ⟨i + 1, by first | rfl | go_num, by omega, by omega, HQ, ⟨by obtain ⟨⟨n0, e0⟩⟩ := HDR.out; subst e0; repeat (first | exact Drawn0.refl _ | apply Drawn0.step | exact ⟨⟨_, rfl⟩⟩)⟩⟩
  ·
   have hltz : ¬ (i : Int) < (l0.length : Int) := by omega
   obtain rfl : i = l0.length := by omega
   have hq := HF.out
   rw [List.drop_length, atV] at hq
   obtain ⟨rfl, rfl⟩ := Prod.mk.inj hq
   clear hq HF
   go_wp2
   go_ret2
   exact ⟨rfl, HDR.out⟩
mutual
def spec_l2Wide.l0 : Nat → List Int → Int → Int → Option (Int)
 | 0, _, _, _ => none
 | k + 1, x0, x5, x6 => if x6 < (x0.length : Int) then ((spec_l2Joins.f k x0 x6).bind fun t150 => (spec_l2Wide.j1 k x0 x5 x6 t150)) else (spec_l2Wide.j1 k x0 x5 x6 false)
def spec_l2Wide.j1 : Nat → List Int → Int → Int → Bool → Option (Int)
 | 0, _, _, _, _ => none
 | k + 1, x0, x5, x6, x22 => if x22 = true then (if 0 ≤ x6 then (if x6 < (x0.length : Int) then ((spec_RuneWide.f k (rd x0 x6)).bind fun t152 => (if t152 > x5 then ((spec_RuneWide.f k (rd x0 x6)).bind fun t154 => (spec_l2Wide.l0 k x0 t154 (wrap64 (x6 + 1)))) else (spec_l2Wide.l0 k x0 x5 (wrap64 (x6 + 1))))) else (none)) else (none)) else (some x5)
end
def spec_l2Wide.f (k : Nat) (l0 : List Int) (a1 : Int) : Option (Int) := if 0 ≤ a1 then (if a1 < (l0.length : Int) then ((spec_RuneWide.f k (rd l0 a1)).bind fun t149 => (spec_l2Wide.l0 k l0 t149 (wrap64 (a1 + 1)))) else (none)) else (none)
theorem spec_l2Wide.mono_l : ∀ k, (∀ y0 y1 y2, LeO (spec_l2Wide.l0 k y0 y1 y2) (spec_l2Wide.l0 (k + 1) y0 y1 y2)) ∧ (∀ y0 y1 y2 y3, LeO (spec_l2Wide.j1 k y0 y1 y2 y3) (spec_l2Wide.j1 (k + 1) y0 y1 y2 y3))
 | 0 => ⟨fun _ _ _ r h => by simp [spec_l2Wide.l0] at h, fun _ _ _ _ r h => by simp [spec_l2Wide.j1] at h⟩
 | k + 1 => by
  obtain ⟨ih0, ih1⟩ := spec_l2Wide.mono_l k; refine ⟨?_, ?_⟩
  ·
   intro y0 y1 y2; unfold spec_l2Wide.l0
   repeat' first
   | (with_reducible exact ih0 _ _ _)
   | (with_reducible exact ih1 _ _ _ _)
   | (with_reducible exact spec_RuneWide.mono _ _)
   | (with_reducible exact spec_l2Joins.mono _ _ _)
   | (with_reducible exact LeO.refl _)
   | (with_reducible exact LeO.none _)
   | (with_reducible refine LeO.ite ?_ ?_)
   | (with_reducible refine LeO.bind ?_ (fun _ => ?_))
   | exact ih0 _ _ _
   | exact ih1 _ _ _ _
   | exact spec_RuneWide.mono _ _
   | exact spec_l2Joins.mono _ _ _
   | exact LeO.none _
   | refine LeO.ite ?_ ?_
   | refine LeO.bind ?_ (fun _ => ?_)
  ·
   intro y0 y1 y2 y3; unfold spec_l2Wide.j1
   repeat' first
   | (with_reducible exact ih0 _ _ _)
   | (with_reducible exact ih1 _ _ _ _)
   | (with_reducible exact spec_RuneWide.mono _ _)
   | (with_reducible exact spec_l2Joins.mono _ _ _)
   | (with_reducible exact LeO.refl _)
   | (with_reducible exact LeO.none _)
   | (with_reducible refine LeO.ite ?_ ?_)
   | (with_reducible refine LeO.bind ?_ (fun _ => ?_))
   | exact ih0 _ _ _
   | exact ih1 _ _ _ _
   | exact spec_RuneWide.mono _ _
   | exact spec_l2Joins.mono _ _ _
   | exact LeO.none _
   | refine LeO.ite ?_ ?_
   | refine LeO.bind ?_ (fun _ => ?_)
theorem spec_l2Wide.mono : ∀ a0 a1 k, LeO (spec_l2Wide.f k a0 a1) (spec_l2Wide.f (k + 1) a0 a1) := by
 intro a0 a1 k; obtain ⟨ih0, ih1⟩ := spec_l2Wide.mono_l k; unfold spec_l2Wide.f
 repeat' first
   | (with_reducible exact ih0 _ _ _)
   | (with_reducible exact ih1 _ _ _ _)
   | (with_reducible exact spec_RuneWide.mono _ _)
   | (with_reducible exact spec_l2Joins.mono _ _ _)
   | (with_reducible exact LeO.refl _)
   | (with_reducible exact LeO.none _)
   | (with_reducible refine LeO.ite ?_ ?_)
   | (with_reducible refine LeO.bind ?_ (fun _ => ?_))
   | exact ih0 _ _ _
   | exact ih1 _ _ _ _
   | exact spec_RuneWide.mono _ _
   | exact spec_l2Joins.mono _ _ _
   | exact LeO.none _
   | refine LeO.ite ?_ ?_
   | refine LeO.bind ?_ (fun _ => ?_)
theorem spec_l2Wide.calls (k : Nat) (A0 : Option Addr) (c0 : Nat) (l0 : List Int) (a1 : Int) (r : Int) (w : World) (hr0 : Kd.C (Kd.int .i64) w A0 l0.length l0) (hc0 : l0.length ≤ c0) (h : spec_l2Wide.f k l0 a1 = some r) :
  Calls Tryz.prog 122 #[.slice A0 l0.length c0, .int .i64 a1] w fun e w' => e = .returned (.int .i64 r) ∧ Below w.heap.size w w' := by
 have HR0 := az hr0; have HC0 := az hc0; clear hr0 hc0; have HB := az (Below.refl w.heap.size w); have H : (if 0 ≤ a1 then (if a1 < (l0.length : Int) then ((spec_RuneWide.f k (rd l0 a1)).bind fun t149 => (spec_l2Wide.l0 k l0 t149 (wrap64 (a1 + 1)))) else (none)) else (none)) = some r := h; clear h; by_cases c3 : 0 ≤ a1
 ·
  rw [if_pos c3] at H; have c3b0 : decide (0 ≤ a1) = true := decide_eq_true c3; clear c3; by_cases c4 : a1 < (l0.length : Int)
  ·
   rw [if_pos c4] at H; have c4b0 : decide (a1 < (l0.length : Int)) = true := decide_eq_true c4; clear c4; replace H := Option.bind_eq_some_iff.mp H; obtain ⟨t149, A50, H⟩ := H; replace H : (spec_l2Wide.l0 k l0 t149 (wrap64 (a1 + 1))) = some r := H; have A5 := az A50; clear A50; have H' := az H; clear H; have p148 : 0 ≤ (a1 : Int) := of_decide_eq_true (by assumption); have q148 : a1 < (l0.length : Int) := of_decide_eq_true (by assumption); obtain ⟨ad148, e148, hx148_0⟩ := Kd.at_int HR0.out a1 p148 q148
   cases e148
   replace p148 := eq_true p148; replace q148 := eq_true q148; go_enter Tryz.func122, Tryz.ntmps122; go_wp2_with (first | ((with_reducible refine gate_callee (f := 136) rfl ?_); refine goesL_ (some 11) rfl rfl Tryz.func136 (by kernel_rfl) rfl #[.int .i64 (rd l0 a1)] rfl zC ?_; (with_reducible refine (spec_RuneWide.calls k (rd l0 a1) t149 _ A5.out).mono ?_); rintro e w6 ⟨rfl, hb⟩; refine ⟨_, rfl, ?_⟩; have n0_ := az (below_step (zA HB.out) hb); clear HB; have HB := n0_; clear n0_; (try clear hb); (try clear hb2); (try clear hk); (try clear hi))); go_loopg [5, 6] k (fun kq v5 v6 w' => ∃ (x5_1 : Int) (x6_1 : Int), v5 = .int .i64 x5_1 ∧ v6 = .int .i64 x6_1 ∧ Aside0 (spec_l2Wide.l0 kq l0 x5_1 x6_1 = some r) ∧ Aside0 (kq ≤ k) ∧ Aside0 (Below w.heap.size w w'))
   case atStart => exact ⟨(t149), (wrap64 (a1 + 1)), zB, zB, H', ⟨Nat.le_refl _⟩, ⟨zA HB.out⟩⟩
   case round =>
    clear H'; (try clear c1); (try clear p1); (try clear q1); (try clear hx1); (try clear p2); (try clear c3); (try clear c3b0); (try clear c4); (try clear c4b0); (try clear p6); (try clear hx148_0); (try clear p148); (try clear q148); obtain ⟨x5_1, x6_1, rfl, rfl, HA, HK1, HB⟩ := hrel
    cases gk with
    | zero => exact absurd HA.out (by simp [spec_l2Wide.l0])
    | succ k1 =>
     have H := HA.out; clear HA; simp only [spec_l2Wide.l0] at H; have HC7 := az H; clear H; go_upto_region 3 with (fail)
     go_cut [22] (fun v22 wc => ∃ (kq : Nat) (x22_6 : Bool), v22 = .bool x22_6 ∧ Aside0 (spec_l2Wide.j1 kq l0 x5_1 x6_1 x22_6 = some r) ∧ Aside0 (kq ≤ k1) ∧ Aside0 (Below w.heap.size w wc))
     case first =>
      have H := HC7.out; clear HC7; by_cases c8 : x6_1 < (l0.length : Int)
      ·
       rw [if_pos c8] at H; have c8b0 : decide (x6_1 < (l0.length : Int)) = true := decide_eq_true c8; clear c8; (first | rw [c8b0] | (simp only [i64_w, i32_w]; rw [c8b0]) | skip); replace H := Option.bind_eq_some_iff.mp H; obtain ⟨t150, A90, H⟩ := H; replace H : (spec_l2Wide.j1 k1 l0 x5_1 x6_1 t150) = some r := H; have A9 := az A90; clear A90; have H' := az H; clear H; go_wp2_with (first | (go_at_call 124; (with_reducible refine (spec_l2Joins.calls k1 _ _ l0 x6_1 t150 _ ?side1 ?side2 A9.out).mono ?_); (case side1 => exact (zM HR0.out HB.out)); (case side2 => exact HC0.out); rintro e w10 ⟨rfl, hb⟩; have n0_ := az (below_step (zA HB.out) hb); clear HB; have HB := n0_; clear n0_; (try clear hb); (try clear hb2); (try clear hk); (try clear hi))); go_meet
       case rel => exact ⟨_, (t150), zB, H', ⟨zJ HK1.out⟩, ⟨zA HB.out⟩⟩
      ·
       rw [if_neg c8] at H; have c8b0 : decide (x6_1 < (l0.length : Int)) = false := decide_eq_false c8; clear c8; (first | rw [c8b0] | (simp only [i64_w, i32_w]; rw [c8b0]) | skip); have H' := az H; clear H; go_wp2; go_meet
       case rel => exact ⟨_, (false), zB, H', ⟨zJ HK1.out⟩, ⟨zA HB.out⟩⟩
     case rest =>
      clear HC7; (try clear c1); (try clear p1); (try clear q1); (try clear hx1); (try clear p2); (try clear c3); (try clear c3b0); (try clear c4); (try clear c4b0); (try clear p6); (try clear c8); (try clear c8b0); (try clear hx148_0); (try clear p1); (try clear p148); (try clear p2); (try clear p6); (try clear q1); (try clear q148); obtain ⟨kq, x22_6, rfl, HA, HJ6, HB⟩ := hcut
      cases kq with
      | zero => exact absurd HA.out (by simp [spec_l2Wide.j1])
      | succ kj6 =>
       have H := HA.out; clear HA; simp only [spec_l2Wide.j1] at H; by_cases c11 : x22_6 = true
       ·
        subst c11; have H1 : (if 0 ≤ x6_1 then (if x6_1 < (l0.length : Int) then ((spec_RuneWide.f kj6 (rd l0 x6_1)).bind fun t152 => (if t152 > x5_1 then ((spec_RuneWide.f kj6 (rd l0 x6_1)).bind fun t154 => (spec_l2Wide.l0 kj6 l0 t154 (wrap64 (x6_1 + 1)))) else (spec_l2Wide.l0 kj6 l0 x5_1 (wrap64 (x6_1 + 1))))) else (none)) else (none)) = some r := by rw [if_pos rfl] at H; exact H
        clear H; have H := H1; clear H1; by_cases c12 : 0 ≤ x6_1
        ·
         rw [if_pos c12] at H; have c12b0 : decide (0 ≤ x6_1) = true := decide_eq_true c12; clear c12; by_cases c13 : x6_1 < (l0.length : Int)
         ·
          rw [if_pos c13] at H; have c13b0 : decide (x6_1 < (l0.length : Int)) = true := decide_eq_true c13; clear c13; replace H := Option.bind_eq_some_iff.mp H; obtain ⟨t152, A140, H⟩ := H; replace H : (if t152 > x5_1 then ((spec_RuneWide.f kj6 (rd l0 x6_1)).bind fun t154 => (spec_l2Wide.l0 kj6 l0 t154 (wrap64 (x6_1 + 1)))) else (spec_l2Wide.l0 kj6 l0 x5_1 (wrap64 (x6_1 + 1)))) = some r := H; have A14 := az A140; clear A140; by_cases c15 : t152 > x5_1
          ·
           rw [if_pos c15] at H; have c15b0 : decide (x5_1 < t152) = true := decide_eq_true c15; clear c15; replace H := Option.bind_eq_some_iff.mp H; obtain ⟨t154, A160, H⟩ := H; replace H : (spec_l2Wide.l0 kj6 l0 t154 (wrap64 (x6_1 + 1))) = some r := H; have A16 := az A160; clear A160; have H' := az H; clear H; have p151 : 0 ≤ (x6_1 : Int) := of_decide_eq_true (by assumption); have q151 : x6_1 < (l0.length : Int) := of_decide_eq_true (by assumption); obtain ⟨ad151, e151, hx151_0⟩ := Kd.at_int HR0.out x6_1 p151 q151; obtain rfl : ad148 = ad151 := (by injection e151); replace hx151_0 := (HB.out.cell (World.block_lt_of_cell? w _ hx151_0)).trans hx151_0; replace p151 := eq_true p151; replace q151 := eq_true q151; go_wp2_with (first | ((with_reducible refine gate_callee (f := 136) rfl ?_); refine goesL_ (some 29) rfl rfl Tryz.func136 (by kernel_rfl) rfl #[.int .i64 (rd l0 x6_1)] rfl zC ?_; (with_reducible refine (spec_RuneWide.calls kj6 (rd l0 x6_1) t152 _ A14.out).mono ?_); rintro e w17 ⟨rfl, hb⟩; refine ⟨_, rfl, ?_⟩; have n0_ := az (below_step (zA HB.out) hb); clear HB; have HB := n0_; clear n0_; (try clear hb); (try clear hb2); (try clear hk); (try clear hi); have p153 : 0 ≤ (x6_1 : Int) := of_decide_eq_true (by assumption); have q153 : x6_1 < (l0.length : Int) := of_decide_eq_true (by assumption); obtain ⟨ad153, e153, hx153_0⟩ := Kd.at_int HR0.out x6_1 p153 q153; obtain rfl : ad148 = ad153 := (by injection e153); replace hx153_0 := (HB.out.cell (World.block_lt_of_cell? w _ hx153_0)).trans hx153_0; replace p153 := eq_true p153; replace q153 := eq_true q153) | ((with_reducible refine gate_callee (f := 136) rfl ?_); refine goesL_ (some 36) rfl rfl Tryz.func136 (by kernel_rfl) rfl #[.int .i64 (rd l0 x6_1)] rfl zC ?_; (with_reducible refine (spec_RuneWide.calls kj6 (rd l0 x6_1) t154 _ A16.out).mono ?_); rintro e w18 ⟨rfl, hb⟩; refine ⟨_, rfl, ?_⟩; have n0_ := az (below_step (zA HB.out) hb); clear HB; have HB := n0_; clear n0_; (try clear hb); (try clear hb2); (try clear hk); (try clear hi))); go_roundg kj6
           case measure => have := HK1.out; have := HJ6.out; omega
           case rel => exact ⟨(t154), (wrap64 (x6_1 + 1)), zB, zB, H', ⟨zL HK1.out HJ6.out⟩, ⟨zA HB.out⟩⟩
          ·
           rw [if_neg c15] at H; have c15b0 : decide (x5_1 < t152) = false := decide_eq_false c15; clear c15; have H' := az H; clear H; have p151 : 0 ≤ (x6_1 : Int) := of_decide_eq_true (by assumption); have q151 : x6_1 < (l0.length : Int) := of_decide_eq_true (by assumption); obtain ⟨ad151, e151, hx151_0⟩ := Kd.at_int HR0.out x6_1 p151 q151; obtain rfl : ad148 = ad151 := (by injection e151); replace hx151_0 := (HB.out.cell (World.block_lt_of_cell? w _ hx151_0)).trans hx151_0; replace p151 := eq_true p151; replace q151 := eq_true q151; go_wp2_with (first | ((with_reducible refine gate_callee (f := 136) rfl ?_); refine goesL_ (some 29) rfl rfl Tryz.func136 (by kernel_rfl) rfl #[.int .i64 (rd l0 x6_1)] rfl zC ?_; (with_reducible refine (spec_RuneWide.calls kj6 (rd l0 x6_1) t152 _ A14.out).mono ?_); rintro e w19 ⟨rfl, hb⟩; refine ⟨_, rfl, ?_⟩; have n0_ := az (below_step (zA HB.out) hb); clear HB; have HB := n0_; clear n0_; (try clear hb); (try clear hb2); (try clear hk); (try clear hi))); go_roundg kj6
           case measure => have := HK1.out; have := HJ6.out; omega
           case rel => exact ⟨(x5_1), (wrap64 (x6_1 + 1)), zB, zB, H', ⟨zL HK1.out HJ6.out⟩, ⟨zA HB.out⟩⟩
         ·
          rw [if_neg c13] at H; exact absurd H (by simp)
        ·
         rw [if_neg c12] at H; exact absurd H (by simp)
       ·
        replace c11 := Bool.eq_false_iff.mpr c11; subst c11; have H1 : (some x5_1) = some r := by rw [if_neg (show ¬ (false = true) by decide)] at H; exact H
        clear H; have H := H1; clear H1; obtain rfl := Option.some.inj H; go_wp2; go_ret; exact ⟨zG, zA HB.out⟩
  ·
   rw [if_neg c4] at H; exact absurd H (by simp)
 ·
  rw [if_neg c3] at H; exact absurd H (by simp)
def spec_l6Wides.l0 : Nat → List Int → List (S50) → List Int → Int → Option (List Int)
 | 0, _, _, _, _ => none
 | k + 1, x0, x1, x5, x6 => if x6 < (x0.length : Int) then ((spec_l2At.f k x0 x6).bind fun t158 => (if t158 = x6 then ((spec_l6At.f x1 x6).bind fun bt159 => ((spec_l2Wide.f k x0 x6).bind fun t161 => (if x5.length < 17592186044416 then (spec_l6Wides.l0 k x0 x1 (x5 ++ [wrap64 (t161 * bt159.1)]) (wrap64 (x6 + 1))) else (none)))) else (if x5.length < 17592186044416 then (spec_l6Wides.l0 k x0 x1 (x5 ++ [0]) (wrap64 (x6 + 1))) else (none)))) else (some x5)
def spec_l6Wides.f (k : Nat) (l0 : List Int) (l1 : List (S50)) : Option (List Int) := spec_l6Wides.l0 k l0 l1 (([] : List Int)) 0
theorem spec_l6Wides.mono_l : ∀ k, (∀ y0 y1 y2 y3, LeO (spec_l6Wides.l0 k y0 y1 y2 y3) (spec_l6Wides.l0 (k + 1) y0 y1 y2 y3))
 | 0 => fun _ _ _ _ r h => by simp [spec_l6Wides.l0] at h
 | k + 1 => by
  have ih0 := spec_l6Wides.mono_l k
  ·
   intro y0 y1 y2 y3; unfold spec_l6Wides.l0
   repeat' first
   | (with_reducible exact ih0 _ _ _ _)
   | (with_reducible exact spec_l2At.mono _ _ _)
   | (with_reducible exact spec_l2Wide.mono _ _ _)
   | (with_reducible exact LeO.refl _)
   | (with_reducible exact LeO.none _)
   | (with_reducible refine LeO.ite ?_ ?_)
   | (with_reducible refine LeO.bind ?_ (fun _ => ?_))
   | exact ih0 _ _ _ _
   | exact spec_l2At.mono _ _ _
   | exact spec_l2Wide.mono _ _ _
   | exact LeO.none _
   | refine LeO.ite ?_ ?_
   | refine LeO.bind ?_ (fun _ => ?_)
theorem spec_l6Wides.mono : ∀ a0 a1 k, LeO (spec_l6Wides.f k a0 a1) (spec_l6Wides.f (k + 1) a0 a1) := by
 intro a0 a1 k; have ih0 := spec_l6Wides.mono_l k; unfold spec_l6Wides.f
 repeat' first
   | (with_reducible exact ih0 _ _ _ _)
   | (with_reducible exact spec_l2At.mono _ _ _)
   | (with_reducible exact spec_l2Wide.mono _ _ _)
   | (with_reducible exact LeO.refl _)
   | (with_reducible exact LeO.none _)
   | (with_reducible refine LeO.ite ?_ ?_)
   | (with_reducible refine LeO.bind ?_ (fun _ => ?_))
   | exact ih0 _ _ _ _
   | exact spec_l2At.mono _ _ _
   | exact spec_l2Wide.mono _ _ _
   | exact LeO.none _
   | refine LeO.ite ?_ ?_
   | refine LeO.bind ?_ (fun _ => ?_)
theorem spec_l6Wides.calls (k : Nat) (A0 : Option Addr) (c0 : Nat) (l0 : List Int) (A1 : Option Addr) (c1 : Nat) (l1 : List (S50)) (r : List Int) (w : World) (hr0 : Kd.C (Kd.int .i64) w A0 l0.length l0) (hc0 : l0.length ≤ c0) (hr1 : Kd.C k50 w A1 l1.length l1) (hc1 : l1.length ≤ c1) (h : spec_l6Wides.f k l0 l1 = some r) :
  Calls Tryz.prog 90 #[.slice A0 l0.length c0, .slice A1 l1.length c1] w fun e w' => ∃ v0_ : Value, e = .returned (v0_) ∧ Kd.R (Kd.int .i64) 3 w' w.heap.size (fun _ => True) v0_ r ∧ Below w.heap.size w w' := by
 have HR0 := az hr0; have HC0 := az hc0; clear hr0 hc0; have HR1 := az hr1; have HC1 := az hc1; clear hr1 hc1; have HB := az (Below.refl w.heap.size w); have H : (spec_l6Wides.l0 k l0 l1 (([] : List Int)) 0) = some r := h; clear h; obtain ⟨y155, hy155⟩ : ∃ y_ : List Int, y_ = (([] : List Int)) := ⟨_, rfl⟩; replace H : (spec_l6Wides.l0 k l0 l1 y155 0) = some r := by first | (rw [hy155]; with_reducible exact H) | (have H2_ := (Option.bind_some _ _).symm.trans H; rw [hy155]; with_reducible exact H2_) | (have H2_ := (Option.bind_some _ _).symm.trans H; with_reducible exact H2_) | with_reducible exact H | (rw [hy155]; exact H) | exact H
 have Ny155 := az hy155; clear hy155; have H' := az H; clear H; go_enter Tryz.func90, Tryz.ntmps90; go_wp2_with (first | ((with_reducible refine gate_dst (N := 10) rfl ?_); refine Kd.R_lit (Kd.int .i64) _ 3 ?hg (N := 10) ?hd (xs := ([] : List Int)) (inner := []) (ok := fun _ => True) (okp := fun _ => True) ?hr ?hp (fun _ hk => hk) trivial (Below.refl _ _) (Nat.le_refl _) (by simp) ?_; (case hd => rfl); (case hg => rfl); (case hr => first | (go_simp; done) | (go_simp; rfl)); (case hp => exact (Reps.none _ _)); intro v156 w3 ho4 hb hg_ hnew_; clear hg_ hnew_; (first | rw [← Ny155.out] at ho4 | (simp only [Int.reduceToNat] at ho4; rw [← Ny155.out] at ho4)); have n0_ := az (Kd.R_lower ho4 (below_size (zA HB.out))); have n1_ := az (below_step (zA HB.out) hb); clear HB; have HO157 := n0_; have HB := n1_; clear n0_ n1_; clear hb ho4)); go_loopg [5, 6] k (fun kq v5 v6 w' => ∃ (x5_1 : List Int) (x6_1 : Int), v6 = .int .i64 x6_1 ∧ Aside0 (spec_l6Wides.l0 kq l0 l1 x5_1 x6_1 = some r) ∧ Aside0 (kq ≤ k) ∧ Aside0 (Kd.R (Kd.int .i64) 3 w' w.heap.size (fun _ => True) v5 x5_1) ∧ Aside0 (Below w.heap.size w w'))
 case atStart => exact ⟨(y155), (0), zB, H', ⟨Nat.le_refl _⟩, ⟨zF HO157.out⟩, ⟨zA HB.out⟩⟩
 case round =>
  clear H'; (try clear c1); (try clear p2); obtain ⟨x5_1, x6_1, rfl, HA, HK1, HO_5, HB⟩ := hrel
  cases gk with
  | zero => exact absurd HA.out (by simp [spec_l6Wides.l0])
  | succ k1 =>
   have H := HA.out; clear HA; simp only [spec_l6Wides.l0] at H; by_cases c5 : x6_1 < (l0.length : Int)
   ·
    rw [if_pos c5] at H; have c5b0 : decide (x6_1 < (l0.length : Int)) = true := decide_eq_true c5; clear c5; replace H := Option.bind_eq_some_iff.mp H; obtain ⟨t158, A60, H⟩ := H; replace H : (if t158 = x6_1 then ((spec_l6At.f l1 x6_1).bind fun bt159 => ((spec_l2Wide.f k1 l0 x6_1).bind fun t161 => (if x5_1.length < 17592186044416 then (spec_l6Wides.l0 k1 l0 l1 (x5_1 ++ [wrap64 (t161 * bt159.1)]) (wrap64 (x6_1 + 1))) else (none)))) else (if x5_1.length < 17592186044416 then (spec_l6Wides.l0 k1 l0 l1 (x5_1 ++ [0]) (wrap64 (x6_1 + 1))) else (none))) = some r := H; have A6 := az A60; clear A60; by_cases c7 : t158 = x6_1
    ·
     rw [if_pos c7] at H; have c7b0 : (t158 == x6_1) = true := beq_iff_eq.mpr c7; have c7b1 : (t158 != x6_1) = false := bne_eq_false_iff_eq.mpr c7; clear c7; replace H := Option.bind_eq_some_iff.mp H; obtain ⟨⟨t159, t160⟩, A80, H⟩ := H; replace H : ((spec_l2Wide.f k1 l0 x6_1).bind fun t161 => (if x5_1.length < 17592186044416 then (spec_l6Wides.l0 k1 l0 l1 (x5_1 ++ [wrap64 (t161 * t159)]) (wrap64 (x6_1 + 1))) else (none))) = some r := H; have A8 := az A80; clear A80; replace H := Option.bind_eq_some_iff.mp H; obtain ⟨t161, A90, H⟩ := H; replace H : (if x5_1.length < 17592186044416 then (spec_l6Wides.l0 k1 l0 l1 (x5_1 ++ [wrap64 (t161 * t159)]) (wrap64 (x6_1 + 1))) else (none)) = some r := H; have A9 := az A90; clear A90; by_cases c10 : x5_1.length < 17592186044416
     ·
      rw [if_pos c10] at H; have LMc10 := az c10; clear c10; obtain ⟨y162, hy162⟩ : ∃ y_ : List Int, y_ = (x5_1 ++ [wrap64 (t161 * t159)]) := ⟨_, rfl⟩; replace H : (spec_l6Wides.l0 k1 l0 l1 y162 (wrap64 (x6_1 + 1))) = some r := by first | (rw [hy162]; with_reducible exact H) | (have H2_ := (Option.bind_some _ _).symm.trans H; rw [hy162]; with_reducible exact H2_) | (have H2_ := (Option.bind_some _ _).symm.trans H; with_reducible exact H2_) | with_reducible exact H | (rw [hy162]; exact H) | exact H
      have Ny162 := az hy162; clear hy162; have H' := az H; clear H; go_wp2_with (first | ((with_reducible refine gate_callee (f := 120) rfl ?_); refine goesL_ (some 19) rfl rfl Tryz.func120 (by kernel_rfl) rfl #[.slice A0 l0.length c0, .int .i64 x6_1] rfl zC ?_; (with_reducible refine (spec_l2At.calls k1 _ _ l0 x6_1 t158 _ ?side1 ?side2 A6.out).mono ?_); (case side1 => exact (zM HR0.out HB.out)); (case side2 => exact HC0.out); rintro e w11 ⟨rfl, hb⟩; refine ⟨_, rfl, ?_⟩; have n0_ := az (Kd.R_below (zF HO_5.out) hb); have n1_ := az (below_step (zA HB.out) hb); clear HO_5; clear HB; have HO_5 := n0_; have HB := n1_; clear n0_ n1_; (try clear hb); (try clear hb2); (try clear hk); (try clear hi)) | ((with_reducible refine gate_callee (f := 121) rfl ?_); refine goesL_ (some 25) rfl rfl Tryz.func121 (by kernel_rfl) rfl #[.slice A1 l1.length c1, .int .i64 x6_1] rfl zC ?_; (with_reducible refine (spec_l6At.calls _ _ l1 x6_1 t159 t160 _ ?side1 ?side2 A8.out).mono ?_); (case side1 => exact (zM HR1.out HB.out)); (case side2 => exact HC1.out); rintro e w' ⟨rfl, ⟨nd, rfl⟩⟩; refine ⟨_, rfl, ?_⟩) | ((with_reducible refine gate_callee (f := 122) rfl ?_); refine goesL_ (some 30) rfl rfl Tryz.func122 (by kernel_rfl) rfl #[.slice A0 l0.length c0, .int .i64 x6_1] rfl zC ?_; (with_reducible refine (spec_l2Wide.calls k1 _ _ l0 x6_1 t161 _ ?side1 ?side2 A9.out).mono ?_); (case side1 => repeat (first | exact (Kd.C_below HR0.out (zA HB.out)) | (with_reducible refine Kd.C_alloc ?_ _) | (with_reducible refine Kd.C_drewN ?_ _) | (with_reducible refine Kd.C_drew ?_))); (case side2 => exact HC0.out); rintro e w12 ⟨rfl, hb⟩; refine ⟨_, rfl, ?_⟩; have n0_ := az (Kd.R_below (zF HO_5.out) hb); have n1_ := az (below_step (zA HB.out) hb); clear HO_5; clear HB; have HO_5 := n0_; have HB := n1_; clear n0_ n1_; (try clear hb); (try clear hb2); (try clear hk); (try clear hi)) | ((with_reducible refine gate_builtin (b := .append) (xs := #[.tmp 33, .tmp 35]) rfl ?_); at_builtin; refine Kd.R_append (Kd.int .i64) (w0 := w) w.heap.size rfl (.tmp 33) (.tmp 35) 22 3 (.int .i64 0) 8 rfl Tryz.underlying22 info3 rfl (by decide) (by omega) u5 x5_1 (wrap64 (t161 * t159)) [.int .i64 (wrap64 (t161 * t159))] (fun _ => True) (fun _ => False) rfl rfl ?aP (fun _ hk => hk.elim) ?aF ?aO ?aB ?aS ?aL ?_; (case aP => exact rfl); (case aB => exact (zA HB.out)); (case aF => exact (fun _ _ => trivial)); (case aO => exact (zF HO_5.out)); (case aS => exact (below_size (zA HB.out))); (case aL => have := LMc10.out; omega); intro v163 w13 ho hb hg hat; rw [← Ny162.out] at ho; have n0_ := az (hb); have n1_ := az (ho); clear HB; clear HO_5; have HB := n0_; have HO164 := n1_; clear n0_ n1_; clear ho hb hg hat))
      go_roundg k1
      case measure => have := HK1.out; omega
      case rel => exact ⟨(y162), (wrap64 (x6_1 + 1)), zB, H', ⟨zE HK1.out⟩, ⟨zF HO164.out⟩, ⟨zA HB.out⟩⟩
     ·
      rw [if_neg c10] at H; exact absurd H (by simp)
    ·
     rw [if_neg c7] at H; have c7b0 : (t158 == x6_1) = false := beq_eq_false_iff_ne.mpr c7; have c7b1 : (t158 != x6_1) = true := bne_iff_ne.mpr c7; by_cases c14 : x5_1.length < 17592186044416
     ·
      rw [if_pos c14] at H; have LMc14 := az c14; clear c14; obtain ⟨y165, hy165⟩ : ∃ y_ : List Int, y_ = (x5_1 ++ [0]) := ⟨_, rfl⟩; replace H : (spec_l6Wides.l0 k1 l0 l1 y165 (wrap64 (x6_1 + 1))) = some r := by first | (rw [hy165]; with_reducible exact H) | (have H2_ := (Option.bind_some _ _).symm.trans H; rw [hy165]; with_reducible exact H2_) | (have H2_ := (Option.bind_some _ _).symm.trans H; with_reducible exact H2_) | with_reducible exact H | (rw [hy165]; exact H) | exact H
      have Ny165 := az hy165; clear hy165; have H' := az H; clear H; go_wp2_with (first | ((with_reducible refine gate_callee (f := 120) rfl ?_); refine goesL_ (some 19) rfl rfl Tryz.func120 (by kernel_rfl) rfl #[.slice A0 l0.length c0, .int .i64 x6_1] rfl zC ?_; (with_reducible refine (spec_l2At.calls k1 _ _ l0 x6_1 t158 _ ?side1 ?side2 A6.out).mono ?_); (case side1 => exact (zM HR0.out HB.out)); (case side2 => exact HC0.out); rintro e w15 ⟨rfl, hb⟩; refine ⟨_, rfl, ?_⟩; have n0_ := az (Kd.R_below (zF HO_5.out) hb); have n1_ := az (below_step (zA HB.out) hb); clear HO_5; clear HB; have HO_5 := n0_; have HB := n1_; clear n0_ n1_; (try clear hb); (try clear hb2); (try clear hk); (try clear hi)) | ((with_reducible refine gate_builtin (b := .append) (xs := #[.tmp 33, .tmp 35]) rfl ?_); at_builtin; refine Kd.R_append (Kd.int .i64) (w0 := w) w.heap.size rfl (.tmp 33) (.tmp 35) 22 3 (.int .i64 0) 8 rfl Tryz.underlying22 info3 rfl (by decide) (by omega) u5 x5_1 0 [.int .i64 0] (fun _ => True) (fun _ => False) rfl rfl ?aP (fun _ hk => hk.elim) ?aF ?aO ?aB ?aS ?aL ?_; (case aP => exact rfl); (case aB => exact (zA HB.out)); (case aF => exact (fun _ _ => trivial)); (case aO => exact (zF HO_5.out)); (case aS => exact (below_size (zA HB.out))); (case aL => have := LMc14.out; omega); intro v166 w16 ho hb hg hat; rw [← Ny165.out] at ho; have n0_ := az (hb); have n1_ := az (ho); clear HB; clear HO_5; have HB := n0_; have HO167 := n1_; clear n0_ n1_; clear ho hb hg hat)); go_roundg k1
      case measure => have := HK1.out; omega
      case rel => exact ⟨(y165), (wrap64 (x6_1 + 1)), zB, H', ⟨zE HK1.out⟩, ⟨zF HO167.out⟩, ⟨zA HB.out⟩⟩
     ·
      rw [if_neg c14] at H; exact absurd H (by simp)
   ·
    rw [if_neg c5] at H; have c5b0 : decide (x6_1 < (l0.length : Int)) = false := decide_eq_false c5; clear c5; obtain rfl := Option.some.inj H; go_wp2; go_ret; exact ⟨_, zG, zF HO_5.out, zA HB.out⟩
end Go.Proofs.YtmcdcogedcbndaaGreat.S
/- How wide letters of a text with spans are, by both texts. -/
namespace Go.Proofs.YtmcdcogedcbndaaGreat.Pure
open Go.RowKit Go.Proofs.YtmcdcogedcbndaaGreat.S Go.Proofs.YtmcdcogedcbndaaGreatW.PrintWords Go.Proofs.YtmcdcogedcbndaaGreatW.PrintLast
theorem rdOfB (l : List Bool) (i : Nat) : rdOf false l (i : Int) = l.getD i false := by simp [rdOf]
def clF (rs : List Int) : Nat → Nat → Int → Int
 | 0, _, m => m
 | g + 1, i, m => if jV rs i = true then clF rs g (i + 1) (if wideV (rs.getD i 0) > m then wideV (rs.getD i 0) else m) else m
def clV (rs : List Int) (i : Nat) : Int := clF rs (rs.length - (i + 1)) (i + 1) (wideV (rs.getD i 0))
theorem clF_le (rs : List Int) : ∀ (g i : Nat) (m : Int), 0 ≤ m → m ≤ 40 → 0 ≤ clF rs g i m ∧ clF rs g i m ≤ 40
 | 0, _, m, h0, h1 => ⟨h0, h1⟩
 | g + 1, i, m, h0, h1 => by
  have hw := wideV_le (rs.getD i 0)
  rw [clF]
  split
  · exact clF_le rs g (i + 1) _ (by split <;> omega) (by split <;> omega)
  · exact ⟨h0, h1⟩
theorem clV_le (rs : List Int) (i : Nat) : 0 ≤ clV rs i ∧ clV rs i ≤ 40 := clF_le rs _ _ _ (wideV_le _).1 (wideV_le _).2
theorem clusterI_l (rs : List Int) (hn : rs.length ≤ 1000) : ∀ (d k i : Nat) (m : Int), rs.length - i = d → 0 < i → i ≤ rs.length → d + 50 < k → impl_clusterWide.l0 k rs (jsV rs) m (i : Int) = some (clF rs d i m)
 | 0, k, i, m, hd, h0, hi, hk => by
  obtain ⟨k, rfl⟩ : ∃ m, k = m + 1 := ⟨k - 1, by omega⟩
  rw [impl_clusterWide.l0, if_neg (by omega), clF]
 | d + 1, k, i, m, hd, h0, hi, hk => by
  obtain ⟨k, rfl⟩ : ∃ m, k = m + 1 := ⟨k - 1, by omega⟩
  rw [impl_clusterWide.l0, if_pos (by omega), if_pos (by omega), if_pos (by rw [jsV_len]; omega), rdOfB, jsV_get (by omega), show jAt rs i = jV rs i from if_neg (by omega), clF]
  by_cases h : jV rs i = true
  ·
   rw [if_pos h, if_pos h, rd_nat, wide_i (by omega), Option.bind_some, w64 (by omega) (by omega), show ((i : Int) + 1) = ((i + 1 : Nat) : Int) by omega, clusterI_l rs hn d k (i + 1) _ (by omega) (by omega) (by omega) (by omega)]
   rfl
  · rw [if_neg h, if_neg h]
theorem clusterI_p {rs : List Int} {i k : Nat} (hn : rs.length ≤ 1000) (hi : i < rs.length) (hk : rs.length + 50 < k) : impl_clusterWide.f k rs (i : Int) = some (clV rs i) := by
 unfold impl_clusterWide.f clV
 rw [joined_p hn (by omega), Option.bind_some, if_pos (by omega), if_pos (by omega), rd_nat, wide_i (by omega), Option.bind_some, w64 (by omega) (by omega), show ((i : Int) + 1) = ((i + 1 : Nat) : Int) by omega]
 exact clusterI_l rs hn _ k (i + 1) _ rfl (by omega) (by omega) (by omega)
theorem clusterS_l (rs : List Int) (hn : rs.length ≤ 1000) : ∀ (d k i : Nat) (m : Int), rs.length - i = d → 0 < i → i ≤ rs.length → 2 * d + rs.length + 50 < k → spec_l2Wide.l0 k rs m (i : Int) = some (clF rs d i m)
 | 0, k, i, m, hd, h0, hi, hk => by
  obtain ⟨k, rfl⟩ : ∃ m, k = m + 2 := ⟨k - 2, by omega⟩
  rw [spec_l2Wide.l0, if_neg (by omega), clF, spec_l2Wide.j1, if_neg (by decide)]
 | d + 1, k, i, m, hd, h0, hi, hk => by
  obtain ⟨k, rfl⟩ : ∃ m, k = m + 2 := ⟨k - 2, by omega⟩
  rw [spec_l2Wide.l0, if_pos (by omega), join_s hn (by omega) (by omega) (by omega), Option.bind_some, clF, spec_l2Wide.j1]
  by_cases h : jV rs i = true
  ·
   rw [if_pos h, if_pos h, if_pos (by omega), if_pos (by omega), rd_nat, wide_s (by omega), Option.bind_some, w64 (by omega) (by omega), show ((i : Int) + 1) = ((i + 1 : Nat) : Int) by omega]
   by_cases hw : wideV (rs.getD i 0) > m
   · rw [if_pos hw, if_pos hw, Option.bind_some, clusterS_l rs hn d k (i + 1) _ (by omega) (by omega) (by omega) (by omega)]
   · rw [if_neg hw, if_neg hw, clusterS_l rs hn d k (i + 1) _ (by omega) (by omega) (by omega) (by omega)]
  · rw [if_neg h, if_neg h]
theorem clusterS_p {rs : List Int} {i k : Nat} (hn : rs.length ≤ 1000) (hi : i < rs.length) (hk : 3 * rs.length + 60 < k) : spec_l2Wide.f k rs (i : Int) = some (clV rs i) := by
 unfold spec_l2Wide.f clV
 rw [if_pos (by omega), if_pos (by omega), rd_nat, wide_s (by omega), Option.bind_some, w64 (by omega) (by omega), show ((i : Int) + 1) = ((i + 1 : Nat) : Int) by omega]
 exact clusterS_l rs hn _ k (i + 1) _ rfl (by omega) (by omega) (by omega)
theorem at_l (rs : List Int) (hn : rs.length ≤ 1000) : ∀ (i k : Nat), i < rs.length → i + rs.length + 50 < k → ∃ t : Int, spec_l2At.l0 k rs (i : Int) = some t ∧ t ≤ i ∧ (jAt rs i = false → t = i) ∧ (jAt rs i = true → t < i)
 | 0, k, hi, hk => by
  obtain ⟨k, rfl⟩ : ∃ m, k = m + 1 := ⟨k - 1, by omega⟩
  rw [spec_l2At.l0, if_neg (by omega)]
  exact ⟨_, rfl, Int.le_refl _, fun _ => rfl, fun h => by unfold jAt at h; simp at h⟩
 | i + 1, k, hi, hk => by
  obtain ⟨k, rfl⟩ : ∃ m, k = m + 1 := ⟨k - 1, by omega⟩
  rw [spec_l2At.l0, if_pos (by omega), join_s hn (by omega) (by omega) (by omega), Option.bind_some, show jAt rs (i + 1) = jV rs (i + 1) from if_neg (by omega)]
  by_cases h : jV rs (i + 1) = true
  ·
   rw [if_pos h, w64 (by omega) (by omega), show (((i + 1 : Nat) : Int) - 1) = (i : Int) by omega]
   obtain ⟨t, h1, h2, _, _⟩ := at_l rs hn i k (by omega) (by omega)
   exact ⟨t, h1, by omega, (fun e => absurd h (by rw [e]; decide)), fun _ => by omega⟩
  ·
   rw [if_neg h]
   exact ⟨_, rfl, Int.le_refl _, fun _ => rfl, fun e => absurd e h⟩
def wdV (rs : List Int) (sp : List Sp) (i : Nat) : Int := if jAt rs i = true then 0 else clV rs i * (atV (i : Int) sp).1
def wsV (rs : List Int) (sp : List Sp) : List Int := (List.range rs.length).map (wdV rs sp)
theorem wsV_len (rs : List Int) (sp : List Sp) : (wsV rs sp).length = rs.length := by simp [wsV]
theorem wsV_get {rs : List Int} {sp : List Sp} {i : Nat} (h : i < rs.length) : (wsV rs sp).getD i 0 = wdV rs sp i := by simp [wsV, List.getD_eq_getElem?_getD, h]
def SpB (sp : List Sp) : Prop := ∀ s ∈ sp, 0 ≤ s.f1 ∧ s.f1 ≤ 80 ∧ 1 ≤ s.f2 ∧ s.f2 ≤ 40
theorem spB_of {sp : List Sp} {n : Int} (h : spansV sp n = true) : SpB sp := by
 unfold spansV at h
 rw [Bool.and_eq_true, Bool.and_eq_true, allFrom_iff, decide_eq_true_eq, decide_eq_true_eq] at h
 intro s hs
 obtain ⟨i, hi, rfl⟩ := List.getElem_of_mem hs
 have := h.1 i (by omega) (by omega)
 unfold okAt at this
 rw [Bool.and_eq_true] at this
 have h2 := this.1
 unfold spanOkV at h2
 rw [decide_eq_true_eq] at h2
 have e : spAt sp i = sp[i] := by simp [spAt, List.getD_eq_getElem?_getD, hi]
 rw [e] at h2
 have := h.2.2
 omega
theorem atV_le {sp : List Sp} (h : SpB sp) (a : Int) : 1 ≤ (atV a sp).1 ∧ (atV a sp).1 ≤ 40 := by
 induction sp with
 | nil => rw [atV]; exact ⟨by decide, by decide⟩
 | cons s r ih =>
  have hs := h s (by simp)
  rw [atV]
  split
  · exact ⟨hs.2.2.1, hs.2.2.2⟩
  · exact ih (fun x hx => h x (List.mem_cons_of_mem _ hx))
theorem wdV_le {sp : List Sp} (h : SpB sp) (rs : List Int) (i : Nat) : 0 ≤ wdV rs sp i ∧ wdV rs sp i ≤ 1600 := by
 unfold wdV
 split
 · omega
 ·
  have h1 := clV_le rs i
  have h2 := atV_le h (i : Int)
  refine ⟨Int.mul_nonneg h1.1 (by omega), ?_⟩
  have := Int.mul_le_mul h1.2 h2.2 (by omega) (by omega : (0:Int) ≤ 40)
  omega
theorem widesS_l (rs : List Int) (sp : List Sp) (hn : rs.length ≤ 80) (hs : SpB sp) : ∀ (d k i : Nat), rs.length - i = d → i ≤ rs.length → d + 500 < k → spec_l6Wides.l0 k rs sp ((List.range i).map (wdV rs sp)) (i : Int) = some (wsV rs sp)
 | 0, k, i, hd, hi, hk => by
  obtain ⟨k, rfl⟩ : ∃ m, k = m + 1 := ⟨k - 1, by omega⟩
  obtain rfl : i = rs.length := by omega
  rw [spec_l6Wides.l0, if_neg (by omega)]
  rfl
 | d + 1, k, i, hd, hi, hk => by
  obtain ⟨k, rfl⟩ : ∃ m, k = m + 1 := ⟨k - 1, by omega⟩
  have ih := widesS_l rs sp hn hs d k (i + 1) (by omega) (by omega) (by omega)
  rw [List.range_succ, List.map_append, List.map_cons, List.map_nil] at ih
  have hl : ((List.range i).map (wdV rs sp)).length < 17592186044416 := by simp; omega
  have hb := wdV_le hs rs i
  obtain ⟨t, h1, h2, h3, h4⟩ := at_l rs (by omega) i k (by omega) (by omega)
  rw [spec_l6Wides.l0, if_pos (by omega)]
  unfold spec_l2At.f
  rw [h1, Option.bind_some, w64 (x := (i : Int) + 1) (by omega) (by omega), show ((i : Int) + 1) = ((i + 1 : Nat) : Int) by omega]
  unfold wdV at ih hb
  cases hj : jAt rs i
  ·
   rw [hj, if_neg (by decide)] at ih hb
   rw [if_pos (h3 hj)]
   unfold spec_l6At.f
   rw [Option.bind_some, clusterS_p (by omega) (by omega) (by omega), Option.bind_some, if_pos hl, w64 (by omega) (by omega)]
   exact ih
  ·
   rw [hj, if_pos rfl] at ih
   have := h4 hj
   rw [if_neg (by omega), if_pos hl]
   exact ih
theorem widesS_p {rs : List Int} {sp : List Sp} {k : Nat} (hn : rs.length ≤ 80) (hs : SpB sp) (hk : 1000 ≤ k) : spec_l6Wides.f k rs sp = some (wsV rs sp) := widesS_l rs sp hn hs rs.length k 0 (by omega) (by omega) (by omega)
end Go.Proofs.YtmcdcogedcbndaaGreat.Pure
/- How wide letters and lines are, by both texts. -/
namespace Go.Proofs.YtmcdcogedcbndaaGreat.Pure
open Go.RowKit Go.Proofs.YtmcdcogedcbndaaGreat.S Go.Proofs.YtmcdcogedcbndaaGreatW.PrintWords Go.Proofs.YtmcdcogedcbndaaGreatW.PrintLast
theorem look_l (sp : List Sp) (a : Int) (hs : SpB sp) (hl : sp.length ≤ 1000) : ∀ (d k i : Nat), sp.length - i = d → i ≤ sp.length → d < k → impl_lookAt.l0 k a sp (sp.length : Int) (i : Int) = some (atV a (sp.drop i))
 | 0, k, i, hd, hi, hk => by
  obtain ⟨k, rfl⟩ : ∃ m, k = m + 1 := ⟨k - 1, by omega⟩
  rw [impl_lookAt.l0, if_neg (by omega), List.drop_eq_nil_of_le (by omega)]
  rfl
 | d + 1, k, i, hd, hi, hk => by
  obtain ⟨k, rfl⟩ : ∃ m, k = m + 1 := ⟨k - 1, by omega⟩
  have hlt : i < sp.length := by omega
  have e : rd_T50 sp (i : Int) = sp[i] := by rw [rdSp]; simp [spAt, List.getD_eq_getElem?_getD, hlt]
  have hb := hs sp[i] (List.getElem_mem hlt)
  rw [impl_lookAt.l0, if_pos (by omega), if_pos (by omega), if_pos (by omega), e, w64 (by omega) (by omega), show ((i : Int) + 1) = ((i + 1 : Nat) : Int) by omega, look_l sp a hs hl d k (i + 1) (by omega) (by omega) (by omega), List.drop_eq_getElem_cons hlt, atV, w64 (x := sp[i].f1 - 1) (by omega) (by omega)]
  by_cases h0 : a ≥ sp[i].f0
  ·
   rw [if_pos h0]
   by_cases h1 : a < sp[i].f1
   · rw [if_pos h1, if_pos (by omega)]
   · rw [if_neg h1, if_neg (by omega)]
  · rw [if_neg h0, if_neg (by omega)]
theorem look_p {sp : List Sp} {a : Int} {k : Nat} (hs : SpB sp) (hl : sp.length ≤ 1000) (hk : sp.length < k) : impl_lookAt.f k sp a = some (atV a sp) := look_l sp a hs hl sp.length k 0 (by omega) (by omega) hk
def stsV (rs : List Int) : List Int := ((List.range rs.length).filter (fun i => !jAt rs i)).map Int.ofNat
theorem starts_l (rs : List Int) (hn : rs.length ≤ 1000) : ∀ (d k i : Nat), rs.length - i = d → i ≤ rs.length → d < k → impl_starts.l0 k (((List.range i).filter (fun i => !jAt rs i)).map Int.ofNat) (jsV rs) (rs.length : Int) (i : Int) = some (stsV rs)
 | 0, k, i, hd, hi, hk => by
  obtain ⟨k, rfl⟩ : ∃ m, k = m + 1 := ⟨k - 1, by omega⟩
  obtain rfl : i = rs.length := by omega
  rw [impl_starts.l0, if_neg (by omega)]
  rfl
 | d + 1, k, i, hd, hi, hk => by
  obtain ⟨k, rfl⟩ : ∃ m, k = m + 1 := ⟨k - 1, by omega⟩
  have ih := starts_l rs hn d k (i + 1) (by omega) (by omega) (by omega)
  have hf := List.length_filter_le (fun i => !jAt rs i) (List.range i)
  rw [List.length_range] at hf
  rw [List.range_succ, List.filter_append, List.map_append] at ih
  rw [impl_starts.l0, if_pos (by omega), if_pos (by omega), if_pos (by rw [jsV_len]; omega), rdOfB, jsV_get (by omega), w64 (by omega) (by omega), show ((i : Int) + 1) = ((i + 1 : Nat) : Int) by omega]
  cases hj : jAt rs i
  ·
   rw [if_neg (by decide), if_pos (by rw [List.length_map]; omega)]
   rw [List.filter_cons_of_pos (by rw [hj]; rfl)] at ih
   exact ih
  ·
   rw [if_pos rfl]
   rw [List.filter_cons_of_neg (by rw [hj]; decide), List.filter_nil, List.map_nil, List.append_nil] at ih
   exact ih
theorem starts_p {rs : List Int} {k : Nat} (hn : rs.length ≤ 1000) (hk : rs.length + 50 < k) : impl_starts.f k rs = some (stsV rs) := by
 unfold impl_starts.f
 rw [joined_p hn (by omega), Option.bind_some, jsV_len]
 exact starts_l rs hn rs.length k 0 (by omega) (by omega) (by omega)
def putS (rs : List Int) (sp : List Sp) : List Nat → List Int → List Int
 | [], o => o
 | i :: r, o => putS rs sp r (o.set i (clV rs i * (atV (i : Int) sp).1))
theorem putS_len (rs : List Int) (sp : List Sp) : ∀ (l : List Nat) (o : List Int), (putS rs sp l o).length = o.length
 | [], o => rfl
 | i :: r, o => by rw [putS, putS_len rs sp r, List.length_set]
theorem putS_get (rs : List Int) (sp : List Sp) : ∀ (l : List Nat) (o : List Int) (j : Nat), j < o.length → (putS rs sp l o).getD j 0 = if j ∈ l then clV rs j * (atV (j : Int) sp).1 else o.getD j 0
 | [], o, j, hj => by rw [putS, if_neg (by simp)]
 | i :: r, o, j, hj => by
  rw [putS, putS_get rs sp r _ j (by rw [List.length_set]; exact hj)]
  by_cases h : j ∈ r
  · rw [if_pos h, if_pos (List.mem_cons_of_mem _ h)]
  ·
   rw [if_neg h]
   by_cases e : j = i
   ·
    subst e
    rw [if_pos (by simp), List.getD_eq_getElem?_getD, List.getElem?_set_self hj, Option.getD_some]
   · rw [if_neg (by simp [e, h]), List.getD_eq_getElem?_getD, List.getElem?_set_ne (fun x => e x.symm), ← List.getD_eq_getElem?_getD]
theorem ext_getD {a b : List Int} (hl : a.length = b.length) (h : ∀ j, j < a.length → a.getD j 0 = b.getD j 0) : a = b := by
 refine List.ext_getElem hl fun j h1 h2 => ?_
 have := h j h1
 rwa [List.getD_eq_getElem?_getD, List.getElem?_eq_getElem h1, Option.getD_some, List.getD_eq_getElem?_getD, List.getElem?_eq_getElem h2, Option.getD_some] at this
theorem widesI_l (rs : List Int) (sp : List Sp) (hn : rs.length ≤ 80) (hs : SpB sp) (hsl : sp.length ≤ 100) (l : List Nat) (hl : ∀ i ∈ l, i < rs.length) (hl9 : l.length ≤ 100) : ∀ (d k i : Nat) (o : List Int), l.length - i = d → i ≤ l.length → o.length = rs.length → d + 500 < k → impl_widesOf.l0 k rs sp o (l.map Int.ofNat) (l.length : Int) (i : Int) = some (putS rs sp (l.drop i) o)
 | 0, k, i, o, hd, hi, ho, hk => by
  obtain ⟨k, rfl⟩ : ∃ m, k = m + 1 := ⟨k - 1, by omega⟩
  rw [impl_widesOf.l0, if_neg (by omega), List.drop_eq_nil_of_le (by omega), putS]
 | d + 1, k, i, o, hd, hi, ho, hk => by
  obtain ⟨k, rfl⟩ : ∃ m, k = m + 1 := ⟨k - 1, by omega⟩
  have hlt : i < l.length := by omega
  have hm := hl l[i] (List.getElem_mem hlt)
  have e : rd (l.map Int.ofNat) (i : Int) = ((l[i] : Nat) : Int) := by simp [rd, List.getD_eq_getElem?_getD, hlt]
  have h1 := clV_le rs l[i]
  have h2 := atV_le hs ((l[i] : Nat) : Int)
  have h3 := Int.mul_nonneg h1.1 (show 0 ≤ (atV ((l[i] : Nat) : Int) sp).1 by omega)
  have h4 := Int.mul_le_mul h1.2 h2.2 (by omega) (by omega : (0:Int) ≤ 40)
  rw [impl_widesOf.l0, if_pos (by omega), if_pos (by omega), if_pos (by rw [List.length_map]; omega), e, clusterI_p (by omega) hm (by omega), Option.bind_some, look_p hs (by omega) (by omega), Option.bind_some, if_pos (by omega), if_pos (by omega), Int.toNat_natCast, w64 (x := clV rs l[i] * _) (by omega) (by omega), w64 (by omega) (by omega), show ((i : Int) + 1) = ((i + 1 : Nat) : Int) by omega, List.drop_eq_getElem_cons hlt, putS]
  exact widesI_l rs sp hn hs hsl l hl hl9 d k (i + 1) _ (by omega) (by omega) (by rw [List.length_set]; exact ho) (by omega)
theorem widesI_p {rs : List Int} {sp : List Sp} {k : Nat} (hn : rs.length ≤ 80) (hs : SpB sp) (hsl : sp.length ≤ 100) (hk : 1000 ≤ k) : impl_widesOf.f k rs sp = some (wsV rs sp) := by
 have hf := List.length_filter_le (fun i => !jAt rs i) (List.range rs.length)
 rw [List.length_range] at hf
 have h := widesI_l rs sp hn hs hsl ((List.range rs.length).filter (fun i => !jAt rs i)) (fun i hi => by simpa using (List.mem_filter.mp hi).1) (by omega) _ k 0 (List.replicate rs.length 0) rfl (by omega) (by simp) (by omega)
 unfold impl_widesOf.f
 rw [if_pos (by omega), if_pos (by omega), starts_p (by omega) (by omega), Option.bind_some, Int.toNat_natCast]
 have e : (stsV rs).length = ((List.range rs.length).filter (fun i => !jAt rs i)).length := by simp [stsV]
 rw [e]
 unfold stsV
 rw [show ((0 : Nat) : Int) = 0 from rfl] at h
 rw [h, List.drop_zero]
 congr 1
 refine ext_getD (by rw [putS_len, wsV_len]; simp) fun j hj => ?_
 rw [putS_len, List.length_replicate] at hj
 rw [putS_get _ _ _ _ _ (by simpa using hj), wsV_get hj, wdV]
 cases hja : jAt rs j
 · rw [if_pos (List.mem_filter.mpr ⟨by simpa using hj, by rw [hja]; rfl⟩), if_neg (by decide)]
 ·
  rw [if_neg (fun h => by have := (List.mem_filter.mp h).2; rw [hja] at this; cases this), if_pos rfl]
  simp [List.getD_eq_getElem?_getD, hj]
def emptB (a : Int) : Bool := decide (a = 32 ∨ a = 10 ∨ wideV a = 0)
def bodV (rs : List Int) (fr : Nat) : Nat → Nat
 | 0 => 0
 | t + 1 => if fr < t + 1 then (if emptB (rs.getD t 0) = true then bodV rs fr t else t + 1) else t + 1
theorem bodV_le (rs : List Int) (fr : Nat) : ∀ t, fr ≤ t → fr ≤ bodV rs fr t ∧ bodV rs fr t ≤ t
 | 0, h => ⟨h, Nat.le_refl _⟩
 | t + 1, h => by
  rw [bodV]
  split
  ·
   split
   ·
    have := bodV_le rs fr t (by omega)
    omega
   · omega
  · omega
theorem body_i (rs : List Int) (fr : Nat) (hn : rs.length ≤ 1000) : ∀ (t k : Nat), t ≤ rs.length → fr ≤ t → t + 50 < k → impl_body.l0 k rs (fr : Int) (t : Int) = some ((bodV rs fr t : Nat) : Int)
 | 0, k, ht, hf, hk => by
  obtain ⟨k, rfl⟩ : ∃ m, k = m + 1 := ⟨k - 1, by omega⟩
  rw [impl_body.l0, if_neg (by omega), bodV]
 | t + 1, k, ht, hf, hk => by
  obtain ⟨k, rfl⟩ : ∃ m, k = m + 1 := ⟨k - 1, by omega⟩
  have w1 : wrap64 (((t + 1 : Nat) : Int) - 1) = (t : Int) := by rw [w64 (by omega) (by omega)]; omega
  rw [impl_body.l0, bodV]
  by_cases h : fr < t + 1
  ·
   have ih := body_i rs fr hn t k (by omega) (by omega) (by omega)
   rw [if_pos (by omega), if_pos h, w1, if_pos (by omega), if_pos (by omega), rd_nat]
   unfold emptB
   by_cases h1 : rs.getD t 0 = 32
   · rw [if_pos h1, decide_eq_true (.inl h1), if_pos rfl, ih]
   rw [if_neg h1]
   by_cases h2 : rs.getD t 0 = 10
   · rw [if_pos h2, decide_eq_true (.inr (.inl h2)), if_pos rfl, ih]
   rw [if_neg h2, wide_i (by omega), Option.bind_some]
   by_cases h3 : wideV (rs.getD t 0) = 0
   · rw [if_pos h3, decide_eq_true (.inr (.inr h3)), if_pos rfl, ih]
   · rw [if_neg h3, decide_eq_false (by rintro (h | h | h); exact h1 h; exact h2 h; exact h3 h), if_neg (by decide)]
  · rw [if_neg (by omega), if_neg h]
theorem empt_s {k : Nat} (hk : 30 ≤ k) (a : Int) : spec_l7Empty.f k a = some (emptB a) := by
 unfold spec_l7Empty.f emptB
 by_cases h1 : a = 32
 · rw [if_pos h1, decide_eq_true (.inl h1)]
 rw [if_neg h1]
 by_cases h2 : a = 10
 · rw [if_pos h2, decide_eq_true (.inr (.inl h2))]
 rw [if_neg h2, wide_s hk, Option.bind_some]
 by_cases h3 : wideV a = 0
 · rw [decide_eq_true (.inr (.inr h3)), beq_iff_eq.mpr h3]
 · rw [decide_eq_false (by rintro (h | h | h); exact h1 h; exact h2 h; exact h3 h), beq_eq_false_iff_ne.mpr h3]
theorem sum_s (ws : List Int) (hn : ws.length ≤ 1000) (b : Nat) (hb : b ≤ ws.length) : ∀ (d k i : Nat) (s : Int), b - i = d → i ≤ b → d < k → spec_l7Wide.l1 k ws (b : Int) s (i : Int) = some (sumW ((ws.take b).drop i) s)
 | 0, k, i, s, hd, hi, hk => by
  obtain ⟨k, rfl⟩ : ∃ m, k = m + 1 := ⟨k - 1, by omega⟩
  rw [spec_l7Wide.l1, if_neg (by omega), List.drop_eq_nil_of_le (by simp; omega), sumW]
 | d + 1, k, i, s, hd, hi, hk => by
  obtain ⟨k, rfl⟩ : ∃ m, k = m + 1 := ⟨k - 1, by omega⟩
  have hlt : i < (ws.take b).length := by simp; omega
  have e : (ws.take b)[i] = ws.getD i 0 := by
   rw [List.getElem_take, List.getD_eq_getElem?_getD, List.getElem?_eq_getElem (by omega), Option.getD_some]
  rw [spec_l7Wide.l1, if_pos (by omega), if_pos (by omega), if_pos (by omega), List.drop_eq_getElem_cons hlt, sumW, e, rd_nat, w64 (x := (i : Int) + 1) (by omega) (by omega), show ((i : Int) + 1) = ((i + 1 : Nat) : Int) by omega]
  exact sum_s ws hn b hb d k (i + 1) _ (by omega) (by omega) (by omega)
def lwV (rs ws : List Int) (fr to_ : Nat) : Int := sumW ((ws.take (bodV rs fr to_)).drop fr) 0
theorem lineI_p {rs ws : List Int} {fr to_ k : Nat} (hn : rs.length ≤ 1000) (hw : ws.length = rs.length) (h1 : fr ≤ to_) (h2 : to_ ≤ rs.length) (hk : rs.length + 50 < k) : impl_lineWide.f k rs ws (fr : Int) (to_ : Int) = some (lwV rs ws fr to_) := by
 have hb := bodV_le rs fr to_ h1
 unfold impl_lineWide.f impl_body.f lwV
 rw [body_i rs fr hn to_ k h2 h1 (by omega), Option.bind_some, if_pos ⟨by omega, by omega, by omega⟩, Int.toNat_natCast, Int.toNat_natCast]
theorem lineS_l (rs ws : List Int) (fr : Nat) (hn : rs.length ≤ 1000) (hw : ws.length = rs.length) : ∀ (t k : Nat), t ≤ rs.length → fr ≤ t → t + rs.length + 50 < k → spec_l7Wide.l0 k rs ws (fr : Int) (t : Int) = some (sumW ((ws.take (bodV rs fr t)).drop fr) 0)
 | 0, k, ht, hf, hk => by
  obtain ⟨k, rfl⟩ : ∃ m, k = m + 2 := ⟨k - 2, by omega⟩
  rw [spec_l7Wide.l0, if_neg (by omega), bodV, spec_l7Wide.j1, sum_s ws (by omega) 0 (by omega) 0 k fr 0 (by omega) (by omega) (by omega)]
 | t + 1, k, ht, hf, hk => by
  obtain ⟨k, rfl⟩ : ∃ m, k = m + 2 := ⟨k - 2, by omega⟩
  have w1 : wrap64 (((t + 1 : Nat) : Int) - 1) = (t : Int) := by rw [w64 (by omega) (by omega)]; omega
  have hend : spec_l7Wide.j1 (k + 1) ws (fr : Int) ((t + 1 : Nat) : Int) = some (sumW ((ws.take (t + 1)).drop fr) 0) := by
   rw [spec_l7Wide.j1]
   exact sum_s ws (by omega) (t + 1) (by omega) _ k fr 0 rfl (by omega) (by omega)
  rw [spec_l7Wide.l0, bodV]
  by_cases h : fr < t + 1
  ·
   rw [if_pos (by omega), if_pos h, w1, if_pos (by omega), if_pos (by omega), rd_nat, empt_s (by omega), Option.bind_some]
   by_cases he : emptB (rs.getD t 0) = true
   ·
    rw [if_pos he, if_pos he]
    exact lineS_l rs ws fr hn hw t (k + 1) (by omega) (by omega) (by omega)
   ·
    rw [if_neg he, if_neg he]
    exact hend
  ·
   rw [if_neg (by omega), if_neg h]
   exact hend
theorem lineS_p {rs ws : List Int} {fr to_ k : Nat} (hn : rs.length ≤ 1000) (hw : ws.length = rs.length) (h1 : fr ≤ to_) (h2 : to_ ≤ rs.length) (hk : 2 * rs.length + 50 < k) : spec_l7Wide.f k rs ws (fr : Int) (to_ : Int) = some (lwV rs ws fr to_) := lineS_l rs ws fr hn hw to_ k h2 h1 (by omega)
end Go.Proofs.YtmcdcogedcbndaaGreat.Pure
namespace Go.Proofs.YtmcdcogedcbndaaGreat.S
open Go.RowKit Go.Proofs.YtmcdcogedcbndaaGreatW.PrintWords Go.Proofs.YtmcdcogedcbndaaGreatW.PrintLast
set_option linter.unusedVariables false
set_option linter.unusedSimpArgs false
def laws_markIntS.l0 : Nat → List Int → Int → Int → Option (Int × List Int)
 | 0, _, _, _ => none
 | k + 1, x0, x1, x5 => if x5 < (x0.length : Int) then (if 0 ≤ x5 then (laws_markIntS.l0 k (x0.set (x5 : Int).toNat x1) (wrap64 (x1 + 1)) (wrap64 (x5 + 1))) else (none)) else (some (x1, x0))
def laws_markIntS.f (k : Nat) (l0 : List Int) (a1 : Int) : Option (Int × List Int) := laws_markIntS.l0 k l0 a1 0
theorem laws_markIntS.mono_l : ∀ k, (∀ y0 y1 y2, LeO (laws_markIntS.l0 k y0 y1 y2) (laws_markIntS.l0 (k + 1) y0 y1 y2))
 | 0 => fun _ _ _ r h => by simp [laws_markIntS.l0] at h
 | k + 1 => by
  have ih0 := laws_markIntS.mono_l k
  ·
   intro y0 y1 y2; unfold laws_markIntS.l0
   repeat' first
   | (with_reducible exact ih0 _ _ _)
   | (with_reducible exact LeO.refl _)
   | (with_reducible exact LeO.none _)
   | (with_reducible refine LeO.ite ?_ ?_)
   | (with_reducible refine LeO.bind ?_ (fun _ => ?_))
   | exact ih0 _ _ _
   | exact LeO.none _
   | refine LeO.ite ?_ ?_
   | refine LeO.bind ?_ (fun _ => ?_)
theorem laws_markIntS.mono : ∀ a0 a1 k, LeO (laws_markIntS.f k a0 a1) (laws_markIntS.f (k + 1) a0 a1) := by
 intro a0 a1 k; have ih0 := laws_markIntS.mono_l k; unfold laws_markIntS.f
 repeat' first
   | (with_reducible exact ih0 _ _ _)
   | (with_reducible exact LeO.refl _)
   | (with_reducible exact LeO.none _)
   | (with_reducible refine LeO.ite ?_ ?_)
   | (with_reducible refine LeO.bind ?_ (fun _ => ?_))
   | exact ih0 _ _ _
   | exact LeO.none _
   | refine LeO.ite ?_ ?_
   | refine LeO.bind ?_ (fun _ => ?_)
theorem laws_markIntS.calls (k : Nat) (P0_ : Nat → Prop) (u9000_ : Value) (l0 : List Int) (a1 : Int) (r1 : Int) (r2 : List Int) (w0 w : World) (hB : Below w0.heap.size w0 w) (ho0 : Kd.R (Kd.int .i64) 3 w w0.heap.size P0_ u9000_ l0) (h : laws_markIntS.f k l0 a1 = some (r1, r2)) :
  Calls Tryz.prog 18 #[u9000_, .int .i64 a1] w fun e w' => e = .returned (.int .i64 r1) ∧ Kd.R (Kd.int .i64) 3 w' w0.heap.size (fun k_ => (P0_ k_ ∨ w.heap.size ≤ k_)) u9000_ r2 ∧ Below w0.heap.size w0 w' ∧ Kept w w' (fun k_ => P0_ k_) := by
 have HO0 := az (show Kd.R (Kd.int .i64) 3 w w0.heap.size (fun k_ => (P0_ k_ ∨ w.heap.size ≤ k_)) u9000_ l0 from Kd.R_mono ho0 (fun k_ hk => (.inl hk))); have HK := az (Kept.refl w (fun k_ => P0_ k_)); have HW0 := az hB.size; have HB := az hB; clear hB; have H : (laws_markIntS.l0 k l0 a1 0) = some (r1, r2) := h; clear h; have H' := az H; clear H; go_enter Tryz.func18, Tryz.ntmps18; go_wp2; go_loopg [1, 5] k (fun kq v1 v5 w' => ∃ (x0_1 : List Int) (x1_1 : Int) (x5_1 : Int), v1 = .int .i64 x1_1 ∧ v5 = .int .i64 x5_1 ∧ Aside0 (laws_markIntS.l0 kq x0_1 x1_1 x5_1 = some (r1, r2)) ∧ Aside0 (kq ≤ k) ∧ Aside0 (Kd.R (Kd.int .i64) 3 w' w0.heap.size (fun k_ => (P0_ k_ ∨ w.heap.size ≤ k_)) u9000_ x0_1) ∧ Aside0 (Kept w w' (fun k_ => P0_ k_)) ∧ Aside0 (Below w0.heap.size w0 w'))
 case atStart => exact ⟨(l0), (a1), (0), zB, zB, H', ⟨Nat.le_refl _⟩, ⟨zF HO0.out⟩, ⟨zW HK.out⟩, ⟨zA HB.out⟩⟩
 case round =>
  clear H'; (try clear c1); (try clear p2); obtain ⟨x0_1, x1_1, x5_1, rfl, rfl, HA, HK1, HO_0, HK, HB⟩ := hrel
  cases gk with
  | zero => exact absurd HA.out (by simp [laws_markIntS.l0])
  | succ k1 =>
   have H := HA.out; clear HA; simp only [laws_markIntS.l0] at H; by_cases c3 : x5_1 < (x0_1.length : Int)
   ·
    rw [if_pos c3] at H; have c3b0 : decide (x5_1 < (x0_1.length : Int)) = true := decide_eq_true c3; clear c3; by_cases c4 : 0 ≤ x5_1
    ·
     rw [if_pos c4] at H; have c4b0 : decide (0 ≤ x5_1) = true := decide_eq_true c4; clear c4; obtain ⟨y365, hy365⟩ : ∃ y_ : List Int, y_ = (x0_1.set (x5_1 : Int).toNat x1_1) := ⟨_, rfl⟩; replace H : (laws_markIntS.l0 k1 y365 (wrap64 (x1_1 + 1)) (wrap64 (x5_1 + 1))) = some (r1, r2) := by first | (rw [hy365]; with_reducible exact H) | (have H2_ := (Option.bind_some _ _).symm.trans H; rw [hy365]; with_reducible exact H2_) | (have H2_ := (Option.bind_some _ _).symm.trans H; with_reducible exact H2_) | with_reducible exact H | (rw [hy365]; exact H) | exact H
     have Ny365 := az hy365; clear hy365; have H' := az H; clear H; obtain ⟨Ao6, co6, eo6⟩ := Kd.R_slice HO_0.out; subst eo6; have p5 : 0 ≤ (x5_1 : Int) := of_decide_eq_true (by assumption); have q5 : (x5_1 : Int) < ((x0_1.length : Int) : Int) := of_decide_eq_true (by assumption); obtain ⟨go5, co5, eo5, gb5, gl5, cl5, HG5⟩ := Kd.R_form HO_0.out (by omega); (first | cases eo5 | (injection eo5 with ea_ en_ ec_; (first | subst ea_ | (injection ea_ with ea_; subst ea_)); subst ec_; clear en_)); have GB5 := az gb5; have GG5 := az HG5; clear gb5 gl5 HG5; have HMgo5 := az (show (P0_ go5 ∨ w.heap.size ≤ go5) from (HO_0.out.1 _ rfl)); obtain ⟨hx5_0, hf5_0⟩ := Kd.R_celln 0 HO_0.out (x5_1 : Int) p5 q5; replace p5 := eq_true p5; replace q5 := eq_true q5; have HP7 := Kd.R_putg HO_0.out (x5_1 : Int) x1_1; go_wp2_with (first | ((with_reducible refine gate_store (t := 3) (p := 15) rfl ?_); refine store_event (t := 3) (p := 15) (v := ?vo_w8) (w1 := (wr.setCell ⟨go5, (x5_1 : Int).toNat, none⟩ (.int .i64 x1_1))) ?hg ?ho ?hn ?hr ?_; (case ho => rfl); (case hg => rfl); (case hn => rfl); (case hr => first | (go_simp; done) | (go_simp; rfl)); intro w8 hw; have hg : wr.grownBy w8 (some go5) := (by rw [hw]; exact HP7.2); have hp_ : Kd.R (Kd.int .i64) 3 w8 w0.heap.size (fun k_ => (P0_ k_ ∨ w.heap.size ≤ k_)) (.slice (some ⟨go5, 0, none⟩) x0_1.length co6) y365 := (by rw [hw, Ny365.out]; exact HP7.1); clear HP7; have n0_ := az (hp_); have n1_ := az ((by rw [hw]; exact below_set (HB.out) GB5.out : Below w0.heap.size w0 w8)); have n2_ := az (Kept.of_grown (S := (fun k_ => P0_ k_)) hg (zW HK.out) (fun k_ e_ => (HO_0.out.1 k_ e_))); clear HO_0; clear HB; clear HK; have HO_0 := n0_; have HB := n1_; have HK := n2_; clear n0_ n1_ n2_; clear hg hw hp_)); go_roundg k1
     case measure => have := HK1.out; omega
     case rel => exact ⟨(y365), (wrap64 (x1_1 + 1)), (wrap64 (x5_1 + 1)), zB, zB, H', ⟨zE HK1.out⟩, ⟨zF HO_0.out⟩, ⟨zW HK.out⟩, ⟨zA HB.out⟩⟩
    ·
     rw [if_neg c4] at H; exact absurd H (by simp)
   ·
    rw [if_neg c3] at H; have c3b0 : decide (x5_1 < (x0_1.length : Int)) = false := decide_eq_false c3; clear c3; simp only [Option.some.injEq, Prod.mk.injEq] at H; obtain ⟨rfl, rfl⟩ := H; obtain ⟨Ao9, co9, eo9⟩ := Kd.R_slice HO_0.out; subst eo9; go_wp2; go_ret; exact ⟨zG, zF HO_0.out, zA HB.out, zW HK.out⟩
def laws_heldIntS.l0 : Nat → List Int → Int → Int → Option (Int)
 | 0, _, _, _ => none
 | k + 1, x0, x1, x5 => if x5 < (x0.length : Int) then (if 0 ≤ x5 then (if (rd x0 x5) = x1 then (laws_heldIntS.l0 k x0 (wrap64 (x1 + 1)) (wrap64 (x5 + 1))) else (some (-1))) else (none)) else (some x1)
def laws_heldIntS.f (k : Nat) (l0 : List Int) (a1 : Int) : Option (Int) := laws_heldIntS.l0 k l0 a1 0
theorem laws_heldIntS.mono_l : ∀ k, (∀ y0 y1 y2, LeO (laws_heldIntS.l0 k y0 y1 y2) (laws_heldIntS.l0 (k + 1) y0 y1 y2))
 | 0 => fun _ _ _ r h => by simp [laws_heldIntS.l0] at h
 | k + 1 => by
  have ih0 := laws_heldIntS.mono_l k
  ·
   intro y0 y1 y2; unfold laws_heldIntS.l0
   repeat' first
   | (with_reducible exact ih0 _ _ _)
   | (with_reducible exact LeO.refl _)
   | (with_reducible exact LeO.none _)
   | (with_reducible refine LeO.ite ?_ ?_)
   | (with_reducible refine LeO.bind ?_ (fun _ => ?_))
   | exact ih0 _ _ _
   | exact LeO.none _
   | refine LeO.ite ?_ ?_
   | refine LeO.bind ?_ (fun _ => ?_)
theorem laws_heldIntS.mono : ∀ a0 a1 k, LeO (laws_heldIntS.f k a0 a1) (laws_heldIntS.f (k + 1) a0 a1) := by
 intro a0 a1 k; have ih0 := laws_heldIntS.mono_l k; unfold laws_heldIntS.f
 repeat' first
   | (with_reducible exact ih0 _ _ _)
   | (with_reducible exact LeO.refl _)
   | (with_reducible exact LeO.none _)
   | (with_reducible refine LeO.ite ?_ ?_)
   | (with_reducible refine LeO.bind ?_ (fun _ => ?_))
   | exact ih0 _ _ _
   | exact LeO.none _
   | refine LeO.ite ?_ ?_
   | refine LeO.bind ?_ (fun _ => ?_)
theorem laws_heldIntS.calls (k : Nat) (A0 : Option Addr) (c0 : Nat) (l0 : List Int) (a1 : Int) (r : Int) (w : World) (hr0 : Kd.C (Kd.int .i64) w A0 l0.length l0) (hc0 : l0.length ≤ c0) (h : laws_heldIntS.f k l0 a1 = some r) :
  Calls Tryz.prog 20 #[.slice A0 l0.length c0, .int .i64 a1] w fun e w' => e = .returned (.int .i64 r) ∧ Drawn0 w w' := by
 have HR0 := az hr0; have HC0 := az hc0; clear hr0 hc0; have H : (laws_heldIntS.l0 k l0 a1 0) = some r := h; clear h; have H' := az H; clear H; go_enter Tryz.func20, Tryz.ntmps20; go_wp2; go_loopg [1, 5] k (fun kq v1 v5 w' => ∃ (x1_1 : Int) (x5_1 : Int), v1 = .int .i64 x1_1 ∧ v5 = .int .i64 x5_1 ∧ Aside0 (laws_heldIntS.l0 kq l0 x1_1 x5_1 = some r) ∧ Aside0 (kq ≤ k) ∧ Drawn0 w w')
 case atStart => exact ⟨(a1), (0), zB, zB, H', ⟨Nat.le_refl _⟩, zD⟩
 case round =>
  clear H'; (try clear c2); (try clear p2); obtain ⟨x1_1, x5_1, rfl, rfl, HA, HK1, ⟨m1, rfl⟩⟩ := hrel
  cases gk with
  | zero => exact absurd HA.out (by simp [laws_heldIntS.l0])
  | succ k1 =>
   have H := HA.out; clear HA; simp only [laws_heldIntS.l0] at H; by_cases c3 : x5_1 < (l0.length : Int)
   ·
    rw [if_pos c3] at H; have c3b0 : decide (x5_1 < (l0.length : Int)) = true := decide_eq_true c3; clear c3; by_cases c4 : 0 ≤ x5_1
    ·
     rw [if_pos c4] at H; have c4b0 : decide (0 ≤ x5_1) = true := decide_eq_true c4; clear c4; by_cases c5 : (rd l0 x5_1) = x1_1
     ·
      rw [if_pos c5] at H; have c5b0 : ((rd l0 x5_1) == x1_1) = true := beq_iff_eq.mpr c5; have c5b1 : ((rd l0 x5_1) != x1_1) = false := bne_eq_false_iff_eq.mpr c5; clear c5; have H' := az H; clear H; have p370 : 0 ≤ (x5_1 : Int) := of_decide_eq_true (by assumption); have q370 : x5_1 < (l0.length : Int) := of_decide_eq_true (by assumption); obtain ⟨ad370, e370, hx370_0⟩ := Kd.at_int HR0.out x5_1 p370 q370
      cases e370
      replace p370 := eq_true p370; replace q370 := eq_true q370; go_wp2; go_roundg k1
      case measure => have := HK1.out; omega
      case rel => exact ⟨(wrap64 (x1_1 + 1)), (wrap64 (x5_1 + 1)), zB, zB, H', ⟨zE HK1.out⟩, zD⟩
     ·
      rw [if_neg c5] at H; have c5b0 : ((rd l0 x5_1) == x1_1) = false := beq_eq_false_iff_ne.mpr c5; have c5b1 : ((rd l0 x5_1) != x1_1) = true := bne_iff_ne.mpr c5; obtain rfl := Option.some.inj H; have p370 : 0 ≤ (x5_1 : Int) := of_decide_eq_true (by assumption); have q370 : x5_1 < (l0.length : Int) := of_decide_eq_true (by assumption); obtain ⟨ad370, e370, hx370_0⟩ := Kd.at_int HR0.out x5_1 p370 q370
      cases e370
      replace p370 := eq_true p370; replace q370 := eq_true q370; go_wp2; go_ret; exact ⟨zB, zD⟩
    ·
     rw [if_neg c4] at H; exact absurd H (by simp)
   ·
    rw [if_neg c3] at H; have c3b0 : decide (x5_1 < (l0.length : Int)) = false := decide_eq_false c3; clear c3; obtain rfl := Option.some.inj H; go_wp2; go_ret; exact ⟨zB, zD⟩
end Go.Proofs.YtmcdcogedcbndaaGreat.S
/- What the laws' own helpers answer: a copy, equality, a row written with 1, 2, 3 .., and whether it still holds that. -/
namespace Go.Proofs.YtmcdcogedcbndaaGreat.Pure
open Go.RowKit Go.Proofs.YtmcdcogedcbndaaGreat.S Go.Proofs.YtmcdcogedcbndaaGreatW.PrintWords Go.Proofs.YtmcdcogedcbndaaGreatW.PrintLast
end Go.Proofs.YtmcdcogedcbndaaGreat.Pure
/- Letters that are ok, by both texts. -/
namespace Go.Proofs.YtmcdcogedcbndaaGreat.Pure
open Go.RowKit Go.Proofs.YtmcdcogedcbndaaGreat.S Go.Proofs.YtmcdcogedcbndaaGreatW.PrintWords Go.Proofs.YtmcdcogedcbndaaGreatW.PrintLast
theorem l1In_p (a b c : Int) : spec_l1In.f a b c = some (decide (b ≤ a) && decide (a ≤ c)) := by
 unfold spec_l1In.f
 by_cases h : b ≤ a <;> simp [h]
def sizeV (a : Int) : Int := if 0 ≤ a ∧ a ≤ 127 then 1 else if 128 ≤ a ∧ a ≤ 2047 then 2 else if 55296 ≤ a ∧ a ≤ 57343 then 0 else if 2048 ≤ a ∧ a ≤ 65535 then 3 else if 65536 ≤ a ∧ a ≤ 1114111 then 4 else 0
theorem size_f (a : Int) : spec_l1Size.f a = some (sizeV a) := by
 simp only [spec_l1Size.f, l1In_p, Option.bind_some, sizeV]
 grind
theorem size_let (a : Int) : sizeV a = 0 ↔ isLetV a = false := by
 simp only [isLetV, sizeV]
 grind
theorem size_p (a : Int) : ∃ s, spec_l1Size.f a = some s ∧ (s = 0 ↔ isLetV a = false) := ⟨_, size_f a, size_let a⟩
theorem ok_l (l : List Int) (hn : l.length ≤ 1099511627776) : ∀ (d k i : Nat), l.length - i = d → i ≤ l.length → d < k →
  spec_l1Ok.l0 k l (i : Int) = some ((l.drop i).all isLetV && decide (l.length ≤ 80))
 | 0, k, i, hd, hi, hk => by
  obtain ⟨k, rfl⟩ : ∃ m, k = m + 1 := ⟨k - 1, by omega⟩
  have e : i = l.length := by omega
  subst e
  rw [spec_l1Ok.l0, if_neg (by omega), List.drop_length]
  simp only [List.all_nil, Bool.true_and, Option.some.injEq, decide_eq_decide]
  omega
 | d + 1, k, i, hd, hi, hk => by
  obtain ⟨k, rfl⟩ : ∃ m, k = m + 1 := ⟨k - 1, by omega⟩
  have hlt : i < l.length := by omega
  obtain ⟨s, hs, hz⟩ := size_p l[i]
  rw [spec_l1Ok.l0, if_pos (by omega), if_pos (by omega), w64 (by omega) (by omega), rd_get hlt, hs, Option.bind_some, List.drop_eq_getElem_cons hlt, List.all_cons]
  have := ok_l l hn d k (i + 1) (by omega) (by omega) (by omega)
  rw [show ((i : Int) + 1) = ((i + 1 : Nat) : Int) by omega, this]
  by_cases h : s = 0
  · rw [if_pos h, hz.1 h]; simp
  ·
   have : isLetV l[i] = true := by
    cases e : isLetV l[i]
    · exact absurd (hz.2 e) h
    · rfl
   rw [if_neg h, this, Bool.true_and]
theorem ok_p {l : List Int} {k : Nat} (hn : l.length ≤ 1099511627776) (hk : l.length < k) : spec_l1Ok.f k l = some (okV l) := by
 unfold spec_l1Ok.f
 have := ok_l l hn l.length k 0 (by omega) (by omega) hk
 rw [show ((0 : Nat) : Int) = 0 from rfl] at this
 rw [this, List.drop_zero, okV, Bool.and_comm]
theorem ok_len {l : List Int} (h : okV l = true) : l.length ≤ 80 := by
 simp [okV] at h; exact h.1
end Go.Proofs.YtmcdcogedcbndaaGreat.Pure
/- What both texts ask ahead of filling; where a line must end. -/
namespace Go.Proofs.YtmcdcogedcbndaaGreat.Pure
open Go.RowKit Go.Proofs.YtmcdcogedcbndaaGreat.S Go.Proofs.YtmcdcogedcbndaaGreatW.PrintWords Go.Proofs.YtmcdcogedcbndaaGreatW.PrintLast
theorem idx_l (bs : List Int) (fr n : Nat) (hb : bs.length ≤ 1000) : ∀ (d k i : Nat), bs.length - fr - i = d → fr + i ≤ bs.length → d < k → (∃ p, fr + i ≤ p ∧ p < bs.length ∧ bs.getD p 0 = 2) →
  ∃ x : Nat, slices_Index_int_int.l0 k (bs.drop fr) 2 ((bs.drop fr).length : Int) (i : Int) = some (x : Int) ∧ x < bs.length ∧ mustN bs n (bs.length - (fr + i)) (fr + i) = fr + x + 1
 | 0, k, i, hd, hi, hk, hp => by
  obtain ⟨p, h1, h2, _⟩ := hp
  omega
 | d + 1, k, i, hd, hi, hk, hp => by
  obtain ⟨k, rfl⟩ : ∃ m, k = m + 1 := ⟨k - 1, by omega⟩
  have hlt : fr + i < bs.length := by omega
  have e : rd (bs.drop fr) (i : Int) = bs.getD (fr + i) 0 := by rw [rd_nat]; simp [List.getD_eq_getElem?_getD]
  have hl : (bs.drop fr).length = bs.length - fr := by simp
  rw [slices_Index_int_int.l0, if_pos (by omega), if_pos (by omega), if_pos (by omega), e, show bs.length - (fr + i) = (bs.length - (fr + (i + 1))) + 1 by omega, mustN]
  by_cases h : bs.getD (fr + i) 0 = 2
  ·
   rw [if_pos h.symm, if_pos h]
   exact ⟨i, rfl, by omega, rfl⟩
  ·
   rw [if_neg (fun x => h x.symm), if_neg h, w64 (by omega) (by omega), show ((i : Int) + 1) = ((i + 1 : Nat) : Int) by omega]
   obtain ⟨p, h1, h2, h3⟩ := hp
   exact idx_l bs fr n hb d k (i + 1) (by omega) (by omega) (by omega) ⟨p, by (by_cases q : p = fr + i; (subst q; exact absurd h3 h); omega), h2, h3⟩
theorem idx_p {bs : List Int} {fr n k : Nat} (hb : bs.length ≤ 1000) (hk : bs.length < k) (hp : ∃ p, fr ≤ p ∧ p < bs.length ∧ bs.getD p 0 = 2) : ∃ x : Nat, slices_Index_int_int.f k (bs.drop fr) 2 = some (x : Int) ∧ x < bs.length ∧ mustV bs n fr = fr + x + 1 := by
 obtain ⟨p, h1, h2, h3⟩ := hp
 exact idx_l bs fr n hb _ k 0 rfl (by omega) (by omega) ⟨p, by omega, h2, h3⟩
theorem bs_last {rs : List Int} (h : 0 < rs.length) : (bsV rs).getD (rs.length - 1) 0 = 2 := by
 rw [bsV_get (by omega), brV, if_pos (by omega)]
def fillV (rs : List Int) (sp : List Sp) (wide : Int) : Bool := okV rs && (spansV sp (rs.length : Int) && decide (0 ≤ wide ∧ wide ≤ 20000))
theorem allS_p {rs : List Int} {sp : List Sp} {wide : Int} {k : Nat} (hn : rs.length ≤ 1099511627776) (hs : sp.length ≤ 1099511627776) (hk : rs.length < k) (hk2 : sp.length < k) : spec_l7All.f k rs sp wide = some (fillV rs sp wide) := by
 unfold spec_l7All.f fillV
 rw [ok_p hn hk, Option.bind_some]
 cases ho : okV rs
 · rw [if_neg (by decide), Bool.false_and]
 ·
  have := ok_len ho
  rw [if_pos rfl, spansS_p hs (by omega) (by omega) hk2, Option.bind_some, Bool.true_and]
  cases spansV sp (rs.length : Int)
  · rw [if_neg (by decide), Bool.false_and]
  · rw [if_pos rfl, l1In_f, Option.bind_some, Bool.true_and]
theorem allI_p {rs : List Int} {sp : List Sp} {wide : Int} {k : Nat} (hs : sp.length ≤ 1099511627776) (hk2 : sp.length < k) : impl_fillable.f k rs sp wide = some (fillV rs sp wide) := by
 unfold impl_fillable.f fillV
 rw [show impl_lettersOk.f rs = some (okV rs) from rfl, Option.bind_some]
 cases ho : okV rs
 · rw [if_neg (by decide), Bool.false_and]
 ·
  rw [if_pos rfl, spansI_p hs hk2, Option.bind_some, Bool.true_and]
  cases spansV sp (rs.length : Int)
  · rw [if_neg (by decide), Bool.false_and]
  ·
   rw [if_pos rfl, Bool.true_and]
   unfold impl_isWide.f
   by_cases h0 : wide ≥ 0
   ·
    rw [if_pos h0, Option.bind_some]
    congr 1
    rw [decide_eq_decide]
    omega
   · rw [if_neg h0, Option.bind_some, decide_eq_false (by omega)]
theorem fill_ok {rs : List Int} {sp : List Sp} {wide : Int} (h : fillV rs sp wide = true) : rs.length ≤ 80 ∧ SpB sp ∧ sp.length ≤ 12 ∧ okV rs = true := by
 unfold fillV at h
 rw [Bool.and_eq_true, Bool.and_eq_true] at h
 refine ⟨ok_len h.1, spB_of h.2.1, ?_, h.1⟩
 have := h.2.1
 unfold spansV at this
 rw [Bool.and_eq_true, Bool.and_eq_true, decide_eq_true_eq] at this
 exact this.2.1
end Go.Proofs.YtmcdcogedcbndaaGreat.Pure
/- FillFits by the program. -/
namespace Go.Proofs.YtmcdcogedcbndaaGreat.Pure
open Go.RowKit Go.Proofs.YtmcdcogedcbndaaGreat.S Go.Proofs.YtmcdcogedcbndaaGreatW.PrintWords Go.Proofs.YtmcdcogedcbndaaGreatW.PrintLast
def fitB (rs ws : List Int) (wide : Int) : Nat → List Int → Bool
 | _, [] => true
 | fr, e :: r => if (bsV rs).getD (e.toNat - 1) 0 = 0 ∨ wide < lwV rs ws fr e.toNat ∨ mustV (bsV rs) rs.length fr < e.toNat then false else fitB rs ws wide e.toNat r
end Go.Proofs.YtmcdcogedcbndaaGreat.Pure
namespace Go.Proofs.YtmcdcogedcbndaaGreat.S
open Go.RowKit Go.Proofs.YtmcdcogedcbndaaGreatW.PrintWords Go.Proofs.YtmcdcogedcbndaaGreatW.PrintLast
set_option linter.unusedVariables false
set_option linter.unusedSimpArgs false
def costV (bs : List Int) (W : Nat → Nat → Int) (wide : Int) (i j : Nat) : Int := if bs.getD (j - 1) 0 = 2 then 0 else (wide - W i j) * (wide - W i j)
def fitV (W : Nat → Nat → Int) (wide : Int) (i j : Nat) : Bool := decide (W i j ≤ wide)
def forcedN (F : Nat → Nat → Bool) (J : Nat → Bool) (n fr : Nat) : Nat → Nat → Nat → Nat
 | 0, _, tq => tq
 | g + 1, i, tq => if i < n ∧ J i = true then forcedN F J n fr g (i + 1) tq else if fr < tq ∧ F fr i = false then tq else forcedN F J n fr g (i + 1) i
def nextN (bs : List Int) (F : Nat → Nat → Bool) (fr : Nat) : Nat → Nat → Int → Int
 | 0, _, b => b
 | g + 1, i, b => nextN bs F fr g (i + 1) (if ¬ bs.getD (i - 1) 0 = 0 ∧ F fr i = true then (i : Int) else b)
def nextV (bs : List Int) (F : Nat → Nat → Bool) (J : Nat → Bool) (n fr : Nat) : Int :=
 if 0 < nextN bs F fr (mustV bs n fr - fr) (fr + 1) (-1) then nextN bs F fr (mustV bs n fr - fr) (fr + 1) (-1)
 else if (forcedN F J n fr (n - fr) (fr + 1) fr : Int) < (mustV bs n fr : Int) then (forcedN F J n fr (n - fr) (fr + 1) fr : Int) else (mustV bs n fr : Int)
def greedyN (N : Nat → Int) (n : Nat) : Nat → Nat → Option (List Int)
 | 0, at_ => if at_ < n then none else some []
 | g + 1, at_ => if at_ < n then (if 0 ≤ N at_ ∧ N at_ ≤ (n : Int) then (greedyN N n g (N at_).toNat).bind fun l => some (N at_ :: l) else none) else some []
theorem sq_fit (d : Int) (h : d.natAbs ≤ 1000000000) : 0 ≤ d * d ∧ d * d ≤ 1000000000000000000 := by
 have e := Int.natAbs_mul_self (a := d)
 have h2 := Nat.mul_le_mul h h
 omega
def TB (t g m : Nat) (T : Nat → Int × Int) (W : World) : Prop :=
 ∃ cells : Array Value, W.heap[g]? = some (.cells cells t (0, 0)) ∧ cells.size = m * 2 ∧ ∀ i, i < m → cells[i * 2]? = some (.int .i64 (T i).1) ∧ cells[i * 2 + 1]? = some (.int .i64 (T i).2)
def updV (T : Nat → Int × Int) (a : Nat) (v : Int × Int) : Nat → Int × Int := fun j => if j = a then v else T j
theorem updV_at (T : Nat → Int × Int) (a : Nat) (v : Int × Int) : updV T a v a = v := if_pos rfl
theorem updV_ne (T : Nat → Int × Int) {a b : Nat} (v : Int × Int) (h : b ≠ a) : updV T a v b = T b := if_neg h
theorem updV_updV (T : Nat → Int × Int) (a : Nat) (u v : Int × Int) : updV (updV T a u) a v = updV T a v := by
 funext j
 unfold updV
 split <;> rfl
theorem TB.cells {t g m : Nat} {T : Nat → Int × Int} {W : World} (h : TB t g m T W) {i : Nat} (hi : i < m) : W.cell? ⟨g, i * 2, none⟩ = some (.int .i64 (T i).1) ∧ W.cell? ⟨g, i * 2 + 1, none⟩ = some (.int .i64 (T i).2) ∧ W.frozen? ⟨g, i * 2, none⟩ = false ∧ W.frozen? ⟨g, i * 2 + 1, none⟩ = false := by
 obtain ⟨cells, h1, _, h3⟩ := h
 exact ⟨(blk_cell h1 _).trans (h3 i hi).1, (blk_cell h1 _).trans (h3 i hi).2, blk_frozen h1 _, blk_frozen h1 _⟩
theorem TB.below {t g m : Nat} {T : Nat → Int × Int} {W W' : World} (h : TB t g m T W) (hb : Below W.heap.size W W') : TB t g m T W' := by
 obtain ⟨cells, h1, h2, h3⟩ := h
 exact ⟨cells, blk_below h1 hb, h2, h3⟩
theorem TB.set {t g m : Nat} {T : Nat → Int × Int} {W : World} (h : TB t g m T W) {i : Nat} (hi : i < m) (a b : Int) : TB t g m (updV T i (a, b)) ((W.setCell ⟨g, i * 2, none⟩ (.int .i64 a)).setCell ⟨g, i * 2 + 1, none⟩ (.int .i64 b)) := by
 obtain ⟨cells, h1, h2, h3⟩ := h
 refine ⟨_, blk_set (blk_set h1 _ _) _ _, by simpa using h2, fun j hj => ?_⟩
 have e1 := (h3 j hj).1
 have e2 := (h3 j hj).2
 by_cases hji : j = i
 ·
  subst hji
  rw [updV_at]
  simp only [Array.getElem?_setIfInBounds, Array.size_setIfInBounds]
  exact ⟨by rw [if_neg (by omega), if_pos trivial, if_pos (by omega)], by rw [if_pos trivial, if_pos (by omega)]⟩
 ·
  rw [updV_ne _ _ hji]
  simp only [Array.getElem?_setIfInBounds, Array.size_setIfInBounds]
  exact ⟨by rw [if_neg (by omega), if_neg (by omega)]; exact e1, by rw [if_neg (by omega), if_neg (by omega)]; exact e2⟩
theorem TB.set1 {t g m : Nat} {T : Nat → Int × Int} {W : World} (h : TB t g m T W) {i : Nat} (hi : i < m) (b : Int) : TB t g m (updV T i ((T i).1, b)) (W.setCell ⟨g, i * 2 + 1, none⟩ (.int .i64 b)) := by
 obtain ⟨cells, h1, h2, h3⟩ := h
 refine ⟨_, blk_set h1 _ _, by simpa using h2, fun j hj => ?_⟩
 have e1 := (h3 j hj).1
 have e2 := (h3 j hj).2
 by_cases hji : j = i
 ·
  subst hji
  rw [updV_at]
  simp only [Array.getElem?_setIfInBounds]
  exact ⟨by rw [if_neg (by omega)]; exact e1, by rw [if_pos trivial, if_pos (by omega)]⟩
 ·
  rw [updV_ne _ _ hji]
  simp only [Array.getElem?_setIfInBounds]
  exact ⟨by rw [if_neg (by omega)]; exact e1, by rw [if_neg (by omega)]; exact e2⟩
theorem made_getElem (z : Array Value) (n i : Nat) (hi : i < n) : (madeCells z n)[i]? = some (z[i % z.size]!) := by
 unfold madeCells
 rw [Array.getElem?_map, Array.getElem?_range, if_pos hi]
 rfl
theorem TB.made (t m : Nat) (W : World) : TB t W.heap.size m (fun _ => (0, 0)) (W.alloc (.cells (madeCells #[.int .i64 0, .int .i64 0] (m * 2)) t)) := by
 refine ⟨_, blk_new W _, size_madeCells _ _, fun i hi => ⟨?_, ?_⟩⟩
 ·
  rw [made_getElem _ _ _ (by omega)]
  have : i * 2 % #[Value.int IntKind.i64 0, Value.int IntKind.i64 0].size = 0 := by show i * 2 % 2 = 0; omega
  rw [this]
  rfl
 ·
  rw [made_getElem _ _ _ (by omega)]
  have : (i * 2 + 1) % #[Value.int IntKind.i64 0, Value.int IntKind.i64 0].size = 1 := by show (i * 2 + 1) % 2 = 1; omega
  rw [this]
  rfl
theorem make_tab {P : Program} {rest : List Oper} {ops : Array Oper} {o : Oper} {a : Act} {Q : Exit → Act → World → Prop} {W : World} (e : TypeId) (hgd : o.guard = none) (t : TypeId) (x y : Operand) (ho : o.op = .makeSlice t x y) (m : Nat) (hx : a.eval x = .int .i64 m) (hy : a.eval y = .int .i64 m) (ht : P.underlying t = some (.slice e)) (hinfo : (P.info? e).map (fun i => (i.zero, i.size, i.bytes)) = some (some (.agg #[.int .i64 0, .int .i64 0]), 2, 16)) (hm : m ≤ 100000)
  (h : wpList P ops Q rest (a.put o.dst (.slice (some ⟨W.heap.size, 0, none⟩) m m)) (W.alloc (.cells (madeCells #[.int .i64 0, .int .i64 0] (m * 2)) e))) : wpList P ops Q (o :: rest) a W := by
 obtain ⟨i0, hi, hzz⟩ := Option.map_eq_some_iff.1 hinfo
 simp only [Prod.mk.injEq] at hzz
 obtain ⟨hz0, hz1, hz2⟩ := hzz
 have hr := run_make (P := P) W t e i0 _ ht hi hz0 .i64 .i64 (m : Int) (m : Int) (by omega) (by omega) (by rw [hz2]; omega) (by omega)
 simp only [Int.toNat_natCast] at hr
 rw [hz1] at hr
 exact Kd.event_run hgd (by simp [execOp, ho, hx, hy, hr]; rfl) h
def stepB (bs : List Int) (F : Nat → Nat → Bool) (C : Nat → Nat → Int) (n : Nat) (T : Nat → Int × Int) (at_ e : Nat) (cur : Int × Int) : Int × Int :=
 if bs.getD (e - 1) 0 = 0 ∨ F at_ e = false ∨ (e < n ∧ (T e).2 < 0) then cur else if cur.2 < 0 ∨ C at_ e + (T e).1 < cur.1 then (C at_ e + (T e).1, (e : Int)) else cur
def rowB (bs : List Int) (F : Nat → Nat → Bool) (C : Nat → Nat → Int) (n : Nat) (T : Nat → Int × Int) (at_ : Nat) : Nat → Nat → Int × Int → Int × Int
 | 0, _, cur => cur
 | g + 1, e, cur => rowB bs F C n T at_ g (e + 1) (stepB bs F C n T at_ e cur)
def tabB (bs : List Int) (F : Nat → Nat → Bool) (C : Nat → Nat → Int) (n : Nat) : Nat → Nat → Int × Int
 | 0 => fun _ => (0, 0)
 | d + 1 => updV (tabB bs F C n d) (n - 1 - d) (rowB bs F C n (tabB bs F C n d) (n - 1 - d) (mustV bs n (n - 1 - d) - (n - 1 - d)) (n - 1 - d + 1) (0, -1))
theorem tabB_lo (bs : List Int) (F : Nat → Nat → Bool) (C : Nat → Nat → Int) (n : Nat) : ∀ (d j : Nat), j + d < n → tabB bs F C n d j = (0, 0)
 | 0, _, _ => rfl
 | d + 1, j, h => by
  rw [tabB, updV_ne _ _ (by omega)]
  exact tabB_lo bs F C n d j (by omega)
def outB (T : Nat → Int × Int) (n : Nat) : Nat → Nat → Option (Option (List Int))
 | 0, at_ => if at_ < n then none else some (some [])
 | g + 1, at_ => if at_ < n then (if (T at_).2 < 0 then some none else if (T at_).2 ≤ (n : Int) then (outB T n g (T at_).2.toNat).bind fun l => some (l.map fun l => (T at_).2 :: l) else none) else some (some [])
def linesV (bs : List Int) (W : Nat → Nat → Int) (J : Nat → Bool) (wide : Int) (n : Nat) (mode : Int) : Option (List Int) :=
 if mode = 1 then (outB (tabB bs (fitV W wide) (costV bs W wide) n n) n n 0).bind fun o => match o with | some l => some l | none => greedyN (nextV bs (fitV W wide) J n) n n 0
 else greedyN (nextV bs (fitV W wide) J n) n n 0
def okB (bs : List Int) (W : Nat → Nat → Int) (wide : Int) (n : Nat) : Prop :=
 (∀ j, j ≤ n → ∀ i, i ≤ j → (wide - W i j).natAbs ≤ 1000000000) ∧ ∀ d, d ≤ n → ∀ j, j ≤ n → 0 ≤ (tabB bs (fitV W wide) (costV bs W wide) n d j).1 ∧ (tabB bs (fitV W wide) (costV bs W wide) n d j).1 ≤ 1000000000000000
instance (bs : List Int) (W : Nat → Nat → Int) (wide : Int) (n : Nat) : Decidable (okB bs W wide n) := by unfold okB; infer_instance
def linesO (bs : List Int) (W : Nat → Nat → Int) (J : Nat → Bool) (wide : Int) (n : Nat) (mode : Int) : Option (List Int) :=
 if n ≤ 1000 ∧ bs.length = n ∧ okB bs W wide n then linesV bs W J wide n mode else none
def pairL (l : List Value) : Option (DataW (Int × Int) × List MemPlace) :=
 match l with
 | [.int .i64 a, .int .i64 b] => some (.held (a, b), [])
 | _ => none
def pairElem (v : Value) : Option (DataW (Int × Int) × List MemPlace) :=
 match v with
 | .agg cs => pairL cs.toList
 | _ => none
theorem pairElem_inv {v : Value} {z : DataW (Int × Int) × List MemPlace} (h : pairElem v = some z) : ∃ a b, v = .agg #[.int .i64 a, .int .i64 b] ∧ z = (.held (a, b), []) := by
 unfold pairElem at h
 split at h
 ·
  rename_i cs
  unfold pairL at h
  split at h
  ·
   rename_i a b he
   cases h
   refine ⟨a, b, ?_, rfl⟩
   congr 1
   exact Array.toList_inj.mp he
  · cases h
 · cases h
def MapP (w : World) (b n : Nat) (f : Int → Option (Int × Int)) : Prop := ∃ D : DataW (Int × Int), w.ownsMap Tryz.prog 3 pairElem b n D ∧ Maps.IsMap D ∧ ∀ a, (Lit.int .i64 a).wf = true → ∀ zd, D.atKey (.int .i64 a) zd = (match f a with | some v => .held v | none => zd)
theorem MapP.made (w : World) : MapP (w.alloc (.map #[] 0)) w.heap.size 0 (fun _ => none) :=
 ⟨_, World.ownsMap_made _ _ _ _, Maps.isMap_empty, fun _ _ _ => rfl⟩
theorem MapP.kept {w w' : World} {b n : Nat} {f : Int → Option (Int × Int)} (h : MapP w b n f) {row : Option Nat} (hg : w.grownBy w' row) (hne : some b ≠ row) : MapP w' b n f := by
 obtain ⟨D, h1, h2, h3⟩ := h
 exact ⟨D, h1.kept hg hne, h2, h3⟩
theorem MapP.below {w w' : World} {b n : Nat} {f : Int → Option (Int × Int)} (h : MapP w b n f) (hb : Below w.heap.size w w') : MapP w' b n f := h.kept (grown_of_below hb none) (by simp)
theorem MapP.lt {w : World} {b n : Nat} {f : Int → Option (Int × Int)} (h : MapP w b n f) : b < w.heap.size := by
 obtain ⟨D, h1, _⟩ := h
 exact h1.lt
theorem MapP.obj {w : World} {b n : Nat} {f : Int → Option (Int × Int)} (h : MapP w b n f) : ∃ es c, w.heap[b]? = some (.map es c) := by
 obtain ⟨D, ⟨es, c, h1, _⟩, _⟩ := h
 exact ⟨es, c, h1⟩
theorem mapP_zero (w : World) : (zeroValue 143).run Tryz.prog w = .ok (.agg #[.int .i64 0, .int .i64 0]) w := by kernel_rfl
theorem MapP.look {w : World} {b n : Nat} {f : Int → Option (Int × Int)} (h : MapP w b n f) (a : Int) (ha : (Lit.int .i64 a).wf = true) :
  (Instr.lookup 82 (.map (some b)) (.int .i64 a) true).run Tryz.prog w = .ok (.tuple #[.agg #[.int .i64 ((f a).getD (0, 0)).1, .int .i64 ((f a).getD (0, 0)).2], .bool (f a).isSome]) w := by
 obtain ⟨D, h1, h2, h3⟩ := h
 obtain ⟨es, clock, hb, F, _, rfl⟩ := h1
 have h3' := h3 a ha
 rcases Maps.fit_look true (Maps.int_keyed Tryz.underlying3) Tryz.underlying82 (mapP_zero w) hb F (Maps.keyOf_int_mk Tryz.underlying3 ha) with ⟨hrun, _, hat⟩ | ⟨e0, y, _, _, hrun, hRv, hat, _⟩
 ·
  cases hf : f a with
  | none => simpa using hrun
  | some v =>
   have e1 := (h3' .nil).symm.trans (hat .nil)
   rw [hf] at e1
   cases e1
 ·
  obtain ⟨c, d, hc, hc2⟩ := pairElem_inv hRv
  have e1 := (h3' .nil).symm.trans (hat .nil)
  subst hc2
  cases hf : f a with
  | none => rw [hf] at e1; cases e1
  | some v =>
   rw [hf] at e1
   simp at e1
   subst e1
   rw [hc] at hrun
   simpa using hrun
theorem MapP.put {w : World} {b n : Nat} {f : Int → Option (Int × Int)} (h : MapP w b n f) (hn : n < 1000000) (k : Int) (v : Int × Int) (hk : (Lit.int .i64 k).wf = true) :
  ∃ w', (Instr.mapUpdate 82 (.map (some b)) (.int .i64 k) (.agg #[.int .i64 v.1, .int .i64 v.2])).run Tryz.prog w = .ok () w' ∧ MapP w' b (n + 1) (fun a => if a = k then some v else f a) ∧ w.grownBy w' (some b) := by
 obtain ⟨D, h1, h2, h3⟩ := h
 obtain ⟨w', hrun, r1, r2⟩ := h1.update (Maps.int_keyed Tryz.underlying3) Tryz.underlying82 (by unfold maxLen; omega) (Maps.keyOf_int_mk Tryz.underlying3 hk) (show pairElem (.agg #[.int .i64 v.1, .int .i64 v.2]) = some (.held (v.1, v.2), []) from rfl)
 refine ⟨w', hrun, ⟨_, r1, h2.put _ _, fun a ha zd => ?_⟩, r2⟩
 show _ = (match (if a = k then some v else f a) with | some v => DataW.held v | none => zd)
 by_cases e : a = k
 ·
  subst e
  rw [if_pos rfl, Maps.atKey_put_same h2 (show WideAt.IsKeyLit (.int .i64 a) from trivial)]
 · rw [if_neg e, Maps.atKey_put_other (fun h => e (by injection h)), h3 a ha]
def cntF (f : Int → Option (Int × Int)) : Nat → Nat
 | 0 => 0
 | m + 1 => cntF f m + (if (f (m : Int)).isSome = true then 1 else 0)
theorem cntF_le (f : Int → Option (Int × Int)) : ∀ m, cntF f m ≤ m
 | 0 => Nat.le_refl _
 | m + 1 => by
  rw [cntF]
  have := cntF_le f m
  split <;> omega
theorem cntF_lo (f : Int → Option (Int × Int)) (k : Nat) (v : Int × Int) : ∀ m, m ≤ k → cntF (fun a => if a = (k : Int) then some v else f a) m = cntF f m
 | 0, _ => rfl
 | m + 1, h => by
  rw [cntF, cntF, cntF_lo f k v m (by omega)]
  rw [if_neg (show ¬ (m : Int) = (k : Int) by omega)]
theorem cntF_put (f : Int → Option (Int × Int)) (k : Nat) (v : Int × Int) (hf : f (k : Int) = none) : ∀ m, k < m → cntF (fun a => if a = (k : Int) then some v else f a) m = cntF f m + 1
 | 0, h => absurd h (Nat.not_lt_zero _)
 | m + 1, h => by
  rw [cntF, cntF]
  by_cases e : k = m
  ·
   subst e
   rw [cntF_lo f k v k (Nat.le_refl _), if_pos rfl, hf]
   rfl
  ·
   rw [cntF_put f k v hf m (by omega), if_neg (show ¬ (m : Int) = (k : Int) by omega)]
   omega
def KnO (P : Nat → Int × Int) (n mb : Nat) (f : Int → Option (Int × Int)) (W : World) : Prop := MapP W mb (cntF f n) f ∧ ∀ a v, f a = some v → ∃ j : Nat, a = (j : Int) ∧ j < n ∧ v = P j
theorem KnO.below {P : Nat → Int × Int} {n mb : Nat} {f : Int → Option (Int × Int)} {W W' : World} (h : KnO P n mb f W) (hb : Below W.heap.size W W') : KnO P n mb f W' := ⟨h.1.below hb, h.2⟩
def stepP (bs : List Int) (F : Nat → Nat → Bool) (C : Nat → Nat → Int) (P : Nat → Int × Int) (at_ e : Nat) (cur : Int × Int) : Int × Int :=
 if bs.getD (e - 1) 0 = 0 ∨ F at_ e = false ∨ (P e).2 = 0 then cur else if cur.2 = 0 ∨ (P e).1 + C at_ e < cur.1 then ((P e).1 + C at_ e, (e : Int)) else cur
def rowP (bs : List Int) (F : Nat → Nat → Bool) (C : Nat → Nat → Int) (P : Nat → Int × Int) (at_ : Nat) : Nat → Nat → Int × Int → Int × Int
 | 0, _, cur => cur
 | g + 1, e, cur => rowP bs F C P at_ g (e + 1) (stepP bs F C P at_ e cur)
def IsPlan (bs : List Int) (F : Nat → Nat → Bool) (C : Nat → Nat → Int) (M : Nat → Nat) (n : Nat) (P : Nat → Int × Int) : Prop :=
 P n = (0, (n : Int)) ∧ ∀ i, i < n → P i = rowP bs F C P i (M i - i) (i + 1) (0, 0)
section
open Go.RowKit Go.Shelf
attribute [local go_sem] Oper.semAt_some
def upto {α : Type} (f : Nat → α) (k : Nat) : List α := (List.range k).map f
theorem upto_succ {α : Type} (f : Nat → α) (k : Nat) : upto f (k + 1) = upto f k ++ [f k] := by simp [upto, List.range_succ]
theorem upto_length {α : Type} (f : Nat → α) (k : Nat) : (upto f k).length = k := by simp [upto]
def backF (zs : List Int) (n : Nat) (j : Nat) : Nat × Int := (n - 1 - j, zs[n - 1 - j]?.getD 0)
theorem back1_in (F : Fence) (n : Nat) (h7 : F.fn 166) (hro : F.round = none) (hn : 1 ≤ n) (l Bs n₀ b off len cap : Nat) (zs : List Int) (hreach : len ≤ 1000) (hb : b < n₀) (J Jx : List (Nat × Int) → World → Prop)
  (hY : ∀ pre x W, J pre W → pre.length < len → YieldAt F (n - 1) Tryz.prog l #[.int .i64 (x.1 : Int), .int .i64 x.2] W fun e W' =>
   (e = .returned (.bool true) ∧ J (pre ++ [x]) W' ∧ Below n₀ W W') ∨ (e = .returned (.bool false) ∧ Jx (pre ++ [x]) W'))
  (W : World) (hBn : Bs < n₀) (hBs : W.cell? ⟨Bs, 0, none⟩ = some (.slice (some ⟨b, off, none⟩) len cap)) (hc : ∀ j, j < len → W.cell? ⟨b, off + j, none⟩ = some (.int .i64 (zs[j]?.getD 0))) (h0 : J [] W) :
  CallsIn F n Tryz.prog 166 #[.func (.yield l) #[] #[], .pointer (some ⟨Bs, 0, none⟩)] W fun e W' => (∃ v, e = .returned v) ∧
   ((∃ ys, ys = upto (backF zs len) len ∧ J ys W') ∨ (∃ pre, (∃ k, k ≤ len ∧ pre = upto (backF zs len) k) ∧ Jx pre W')) := by
 refine callsIn_of_wp Tryz.func166 rfl h7 ?_ hro
 simp only [Tryz.ntmps166, List.size_toArray, List.length_cons, List.length_nil, Nat.reduceAdd, Nat.reduceSub, Array.replicate_succ, Array.replicate_zero, List.push_toArray, List.append_toArray, List.nil_append, List.cons_append]
 have hz1 : wrap64 ((len : Int) - 1) = (len : Int) - 1 := by unfold wrap64; omega
 gi_wp2
 gi_loopw [3] (fun i wr => ∃ k : Nat, k ≤ len ∧ i = .int .i64 ((len : Int) - 1 - (k : Int)) ∧ J (upto (backF zs len) k) wr ∧ Below n₀ W wr)
  (fun i _ => (intOf i + 1).toNat)
 case atStart => exact ⟨0, Nat.zero_le _, by simp [hz1], h0, Below.refl _ _⟩
 case round =>
  obtain ⟨k, hk, rfl, hJs, hnx⟩ := hrel
  have hBs' := (hnx.cell (p := ⟨Bs, 0, none⟩) hBn).trans hBs
  by_cases hlt : k < len
  ·
   obtain ⟨m, hm⟩ : ∃ m : Nat, len - 1 - k = m := ⟨_, rfl⟩
   have hmi : (len : Int) - 1 - (k : Int) = (m : Int) := by omega
   have hml : m < len := by omega
   rw [hmi]
   have hcx : wr.cell? ⟨b, off + m, none⟩ = some (.int .i64 (zs[m]?.getD 0)) := (hnx.cell (p := ⟨b, off + m, none⟩) hb).trans (hc m hml)
   obtain ⟨fn, tmps, assign, body, hy, hR⟩ := hY _ (m, zs[m]?.getD 0) wr hJs (by rw [upto_length]; exact hlt)
   dsimp only at hy
   have hbk : backF zs len k = (m, zs[m]?.getD 0) := by unfold backF; rw [hm]
   gi_wp2
   refine hR.mono ?_
   rintro e W3 (⟨rfl, hJ3, hk3⟩ | ⟨rfl, hJx3⟩)
   ·
    gi_wp2
    go_roundw
    case rel => exact ⟨k + 1, by omega, by first | (simp; omega) | (congr 1; unfold wrap64; omega), by rw [upto_succ, hbk]; exact hJ3, hnx.trans hk3⟩
    case measure => simp [intOf]; first | done | (unfold wrap64; omega)
   ·
    gi_wp2
    refine bodyPost_ret (results_none rfl _ _ _) rfl ?_
    exact ⟨⟨_, rfl⟩, .inr ⟨_, ⟨k + 1, by omega, rfl⟩, by rw [upto_succ, hbk]; exact hJx3⟩⟩
  ·
   obtain rfl : k = len := by omega
   have hmi : (k : Int) - 1 - (k : Int) = -1 := by omega
   rw [hmi]
   gi_wp2
   go_end0
   exact ⟨⟨_, rfl⟩, .inl ⟨_, rfl, hJs⟩⟩
theorem backward_calls (a : Option Addr) (len cap : Nat) (w : World) :
  Calls Tryz.prog 164 #[.slice a len cap] w fun e w' => e = .returned (.func (.func 166) #[] #[.pointer (some ⟨w.heap.size, 0, none⟩)]) ∧ w' = w.alloc (.cells #[.slice a len cap] 22) := by
 go_enter Tryz.func164, Tryz.ntmps164
 go_wp2
 go_ret
 exact ⟨rfl, rfl⟩
theorem back_stops (n : Nat) (hn : 1 ≤ n) (Bs n₀ : Nat) (b off cap : Nat) (zs : List Int) (hreach : zs.length ≤ 1000) (w : World) (hBn : Bs < n₀) (hb : b < n₀) (hn₀ : n₀ ≤ w.heap.size)
  (hBs : w.cell? ⟨Bs, 0, none⟩ = some (.slice (some ⟨b, off, none⟩) zs.length cap)) (hc : ∀ j, j < zs.length → w.cell? ⟨b, off + j, none⟩ = some (.int .i64 (zs[j]?.getD 0))) :
  SeqStopsK Fence.wide n Tryz.prog 166 #[.pointer (some ⟨Bs, 0, none⟩)] (fun x : Nat × Int => #[Value.int .i64 (x.1 : Int), Value.int .i64 x.2]) (Below n₀) (fun ys => ys = upto (backF zs zs.length) zs.length) (fun pre => ∃ k, k ≤ zs.length ∧ pre = upto (backF zs zs.length) k) zs.length w := fun l J Jx W hW _ _ hY h0 => by
 have h1 := (hW.cell (p := ⟨Bs, 0, none⟩) (Nat.lt_of_lt_of_le hBn hn₀)).trans hBs
 refine (back1_in Fence.wide n trivial rfl hn l Bs n₀ b off zs.length cap zs hreach hb J Jx hY W hBn h1 (fun j hj => (hW.cell (p := ⟨b, off + j, none⟩) (Nat.lt_of_lt_of_le hb hn₀)).trans (hc j hj)) h0).mono ?_
 rintro e W' ⟨he, h | h⟩
 · exact ⟨he, .inl h⟩
 ·
  obtain ⟨pre, hk, hj⟩ := h
  exact ⟨he, .inr ⟨pre, hk, hj⟩⟩
end
end Go.Proofs.YtmcdcogedcbndaaGreat.S
