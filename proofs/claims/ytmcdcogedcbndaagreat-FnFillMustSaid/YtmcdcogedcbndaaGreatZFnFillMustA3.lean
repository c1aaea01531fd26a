/- Of drawn letters, spans, width and way: each place where a line must end is an end of the lines that the program tells, and these are the reference's. No condition beyond the statement's own. (text 4 of 7 of this claim: functions of the program and of the reference as plain Lean functions, what a call of each comes to, and what follows.) -/
import Derived.Test.YtmcdcogedcbndaaGreatZFnFillMustA0
import Derived.Test.YtmcdcogedcbndaaGreatZFnFillMustA2
set_option maxHeartbeats 16000000
set_option maxRecDepth 100000
set_option linter.unusedVariables false
set_option linter.unusedSimpArgs false
namespace Go.Proofs.YtmcdcogedcbndaaGreat.S
open Go.RowKit Go.Proofs.YtmcdcogedcbndaaGreatW.PrintWords Go.Proofs.YtmcdcogedcbndaaGreatW.PrintLast
set_option linter.unusedVariables false
set_option linter.unusedSimpArgs false
def spec_l6Wides.l0 : Nat → List Int → List (S50) → List Int → Int → Option (List Int)
 | 0, _, _, _, _ => none
 | k + 1, x0, x1, x5, x6 => if x6 < (x0.length : Int) then ((spec_l2At.f k x0 x6).bind fun t163 => (if t163 = x6 then ((spec_l6At.f x1 x6).bind fun bt164 => ((spec_l2Wide.f k x0 x6).bind fun t166 => (if x5.length < 17592186044416 then (spec_l6Wides.l0 k x0 x1 (x5 ++ [wrap64 (t166 * bt164.1)]) (wrap64 (x6 + 1))) else (none)))) else (if x5.length < 17592186044416 then (spec_l6Wides.l0 k x0 x1 (x5 ++ [0]) (wrap64 (x6 + 1))) else (none)))) else (some x5)
def spec_l6Wides.f (k : Nat) (l0 : List Int) (l1 : List (S50)) : Option (List Int) := spec_l6Wides.l0 k l0 l1 (([] : List Int)) 0
theorem spec_l6Wides.mono_l : ∀ k, (∀ y0 y1 y2 y3, LeO (spec_l6Wides.l0 k y0 y1 y2 y3) (spec_l6Wides.l0 (k + 1) y0 y1 y2 y3))
 | 0 => fun _ _ _ _ r h => by simp [spec_l6Wides.l0] at h
 | k + 1 => by
  have ih0 := spec_l6Wides.mono_l k
  ·
   intro y0 y1 y2 y3; unfold spec_l6Wides.l0
   repeat' first
   | (with_reducible exact ih0 _ _ _ _)
   | (with_reducible exact spec_l2At.mono _ _ _)
   | (with_reducible exact spec_l2Wide.mono _ _ _)
   | (with_reducible exact LeO.refl _)
   | (with_reducible exact LeO.none _)
   | (with_reducible refine LeO.ite ?_ ?_)
   | (with_reducible refine LeO.bind ?_ (fun _ => ?_))
   | exact ih0 _ _ _ _
   | exact spec_l2At.mono _ _ _
   | exact spec_l2Wide.mono _ _ _
   | exact LeO.none _
   | refine LeO.ite ?_ ?_
   | refine LeO.bind ?_ (fun _ => ?_)
theorem spec_l6Wides.mono : ∀ a0 a1 k, LeO (spec_l6Wides.f k a0 a1) (spec_l6Wides.f (k + 1) a0 a1) := by
 intro a0 a1 k; have ih0 := spec_l6Wides.mono_l k; unfold spec_l6Wides.f
 repeat' first
   | (with_reducible exact ih0 _ _ _ _)
   | (with_reducible exact spec_l2At.mono _ _ _)
   | (with_reducible exact spec_l2Wide.mono _ _ _)
   | (with_reducible exact LeO.refl _)
   | (with_reducible exact LeO.none _)
   | (with_reducible refine LeO.ite ?_ ?_)
   | (with_reducible refine LeO.bind ?_ (fun _ => ?_))
   | exact ih0 _ _ _ _
   | exact spec_l2At.mono _ _ _
   | exact spec_l2Wide.mono _ _ _
   | exact LeO.none _
   | refine LeO.ite ?_ ?_
   | refine LeO.bind ?_ (fun _ => ?_)
theorem spec_l6Wides.calls (k : Nat) (A0 : Option Addr) (c0 : Nat) (l0 : List Int) (A1 : Option Addr) (c1 : Nat) (l1 : List (S50)) (r : List Int) (w : World) (hr0 : Kd.C (Kd.int .i64) w A0 l0.length l0) (hc0 : l0.length ≤ c0) (hr1 : Kd.C k50 w A1 l1.length l1) (hc1 : l1.length ≤ c1) (h : spec_l6Wides.f k l0 l1 = some r) :
  Calls Tryz.prog 90 #[.slice A0 l0.length c0, .slice A1 l1.length c1] w fun e w' => ∃ v0_ : Value, e = .returned (v0_) ∧ Kd.R (Kd.int .i64) 3 w' w.heap.size (fun _ => True) v0_ r ∧ Below w.heap.size w w' := by
 have HR0 := az hr0; have HC0 := az hc0; clear hr0 hc0; have HR1 := az hr1; have HC1 := az hc1; clear hr1 hc1; have HB := az (Below.refl w.heap.size w); have H : (spec_l6Wides.l0 k l0 l1 (([] : List Int)) 0) = some r := h; clear h; obtain ⟨y160, hy160⟩ : ∃ y_ : List Int, y_ = (([] : List Int)) := ⟨_, rfl⟩; replace H : (spec_l6Wides.l0 k l0 l1 y160 0) = some r := by first | (rw [hy160]; with_reducible exact H) | (have H2_ := (Option.bind_some _ _).symm.trans H; rw [hy160]; with_reducible exact H2_) | (have H2_ := (Option.bind_some _ _).symm.trans H; with_reducible exact H2_) | with_reducible exact H | (rw [hy160]; exact H) | exact H
 have Ny160 := az hy160; clear hy160; have H' := az H; clear H; go_enter Tryz.func90, Tryz.ntmps90; go_wp2_with (first | ((with_reducible refine gate_dst (N := 10) rfl ?_); refine Kd.R_lit (Kd.int .i64) _ 3 ?hg (N := 10) ?hd (xs := ([] : List Int)) (inner := []) (ok := fun _ => True) (okp := fun _ => True) ?hr ?hp (fun _ hk => hk) trivial (Below.refl _ _) (Nat.le_refl _) (by simp) ?_; (case hd => rfl); (case hg => rfl); (case hr => first | (go_simp; done) | (go_simp; rfl)); (case hp => exact (Reps.none _ _)); intro v161 w3 ho4 hb hg_ hnew_; clear hg_ hnew_; (first | rw [← Ny160.out] at ho4 | (simp only [Int.reduceToNat] at ho4; rw [← Ny160.out] at ho4)); have n0_ := az (Kd.R_lower ho4 (below_size (zA HB.out))); have n1_ := az (below_step (zA HB.out) hb); clear HB; have HO162 := n0_; have HB := n1_; clear n0_ n1_; clear hb ho4)); go_loopg [5, 6] k (fun kq v5 v6 w' => ∃ (x5_1 : List Int) (x6_1 : Int), v6 = .int .i64 x6_1 ∧ Aside0 (spec_l6Wides.l0 kq l0 l1 x5_1 x6_1 = some r) ∧ Aside0 (kq ≤ k) ∧ Aside0 (Kd.R (Kd.int .i64) 3 w' w.heap.size (fun _ => True) v5 x5_1) ∧ Aside0 (Below w.heap.size w w'))
 case atStart => exact ⟨(y160), (0), zB, H', ⟨Nat.le_refl _⟩, ⟨zF HO162.out⟩, ⟨zA HB.out⟩⟩
 case round =>
  clear H'; (try clear c1); (try clear p2); obtain ⟨x5_1, x6_1, rfl, HA, HK1, HO_5, HB⟩ := hrel
  cases gk with
  | zero => exact absurd HA.out (by simp [spec_l6Wides.l0])
  | succ k1 =>
   have H := HA.out; clear HA; simp only [spec_l6Wides.l0] at H; by_cases c5 : x6_1 < (l0.length : Int)
   ·
    rw [if_pos c5] at H; have c5b0 : decide (x6_1 < (l0.length : Int)) = true := decide_eq_true c5; clear c5; replace H := Option.bind_eq_some_iff.mp H; obtain ⟨t163, A60, H⟩ := H; replace H : (if t163 = x6_1 then ((spec_l6At.f l1 x6_1).bind fun bt164 => ((spec_l2Wide.f k1 l0 x6_1).bind fun t166 => (if x5_1.length < 17592186044416 then (spec_l6Wides.l0 k1 l0 l1 (x5_1 ++ [wrap64 (t166 * bt164.1)]) (wrap64 (x6_1 + 1))) else (none)))) else (if x5_1.length < 17592186044416 then (spec_l6Wides.l0 k1 l0 l1 (x5_1 ++ [0]) (wrap64 (x6_1 + 1))) else (none))) = some r := H; have A6 := az A60; clear A60; by_cases c7 : t163 = x6_1
    ·
     rw [if_pos c7] at H; have c7b0 : (t163 == x6_1) = true := beq_iff_eq.mpr c7; have c7b1 : (t163 != x6_1) = false := bne_eq_false_iff_eq.mpr c7; clear c7; replace H := Option.bind_eq_some_iff.mp H; obtain ⟨⟨t164, t165⟩, A80, H⟩ := H; replace H : ((spec_l2Wide.f k1 l0 x6_1).bind fun t166 => (if x5_1.length < 17592186044416 then (spec_l6Wides.l0 k1 l0 l1 (x5_1 ++ [wrap64 (t166 * t164)]) (wrap64 (x6_1 + 1))) else (none))) = some r := H; have A8 := az A80; clear A80; replace H := Option.bind_eq_some_iff.mp H; obtain ⟨t166, A90, H⟩ := H; replace H : (if x5_1.length < 17592186044416 then (spec_l6Wides.l0 k1 l0 l1 (x5_1 ++ [wrap64 (t166 * t164)]) (wrap64 (x6_1 + 1))) else (none)) = some r := H; have A9 := az A90; clear A90; by_cases c10 : x5_1.length < 17592186044416
     ·
      rw [if_pos c10] at H; have LMc10 := az c10; clear c10; obtain ⟨y167, hy167⟩ : ∃ y_ : List Int, y_ = (x5_1 ++ [wrap64 (t166 * t164)]) := ⟨_, rfl⟩; replace H : (spec_l6Wides.l0 k1 l0 l1 y167 (wrap64 (x6_1 + 1))) = some r := by first | (rw [hy167]; with_reducible exact H) | (have H2_ := (Option.bind_some _ _).symm.trans H; rw [hy167]; with_reducible exact H2_) | (have H2_ := (Option.bind_some _ _).symm.trans H; with_reducible exact H2_) | with_reducible exact H | (rw [hy167]; exact H) | exact H
      have Ny167 := az hy167; clear hy167; have H' := az H; clear H; go_wp2_with (first | ((with_reducible refine gate_callee (f := 120) rfl ?_); refine goesL_ (some 19) rfl rfl Tryz.func120 (by kernel_rfl) rfl #[.slice A0 l0.length c0, .int .i64 x6_1] rfl zC ?_; (with_reducible refine (spec_l2At.calls k1 _ _ l0 x6_1 t163 _ ?side1 ?side2 A6.out).mono ?_); (case side1 => exact (zO HR0.out HB.out)); (case side2 => exact HC0.out); rintro e w11 ⟨rfl, hb⟩; refine ⟨_, rfl, ?_⟩; have n0_ := az (Kd.R_below (zF HO_5.out) hb); have n1_ := az (below_step (zA HB.out) hb); clear HO_5; clear HB; have HO_5 := n0_; have HB := n1_; clear n0_ n1_; (try clear hb); (try clear hb2); (try clear hk); (try clear hi)) | ((with_reducible refine gate_callee (f := 121) rfl ?_); refine goesL_ (some 25) rfl rfl Tryz.func121 (by kernel_rfl) rfl #[.slice A1 l1.length c1, .int .i64 x6_1] rfl zC ?_; (with_reducible refine (spec_l6At.calls _ _ l1 x6_1 t164 t165 _ ?side1 ?side2 A8.out).mono ?_); (case side1 => exact (zO HR1.out HB.out)); (case side2 => exact HC1.out); rintro e w' ⟨rfl, ⟨nd, rfl⟩⟩; refine ⟨_, rfl, ?_⟩) | ((with_reducible refine gate_callee (f := 122) rfl ?_); refine goesL_ (some 30) rfl rfl Tryz.func122 (by kernel_rfl) rfl #[.slice A0 l0.length c0, .int .i64 x6_1] rfl zC ?_; (with_reducible refine (spec_l2Wide.calls k1 _ _ l0 x6_1 t166 _ ?side1 ?side2 A9.out).mono ?_); (case side1 => repeat (first | exact (Kd.C_below HR0.out (zA HB.out)) | (with_reducible refine Kd.C_alloc ?_ _) | (with_reducible refine Kd.C_drewN ?_ _) | (with_reducible refine Kd.C_drew ?_))); (case side2 => exact HC0.out); rintro e w12 ⟨rfl, hb⟩; refine ⟨_, rfl, ?_⟩; have n0_ := az (Kd.R_below (zF HO_5.out) hb); have n1_ := az (below_step (zA HB.out) hb); clear HO_5; clear HB; have HO_5 := n0_; have HB := n1_; clear n0_ n1_; (try clear hb); (try clear hb2); (try clear hk); (try clear hi)) | ((with_reducible refine gate_builtin (b := .append) (xs := #[.tmp 33, .tmp 35]) rfl ?_); at_builtin; refine Kd.R_append (Kd.int .i64) (w0 := w) w.heap.size rfl (.tmp 33) (.tmp 35) 22 3 (.int .i64 0) 8 rfl Tryz.underlying22 info3 rfl (by decide) (by omega) u5 x5_1 (wrap64 (t166 * t164)) [.int .i64 (wrap64 (t166 * t164))] (fun _ => True) (fun _ => False) rfl rfl ?aP (fun _ hk => hk.elim) ?aF ?aO ?aB ?aS ?aL ?_; (case aP => exact rfl); (case aB => exact (zA HB.out)); (case aF => exact (fun _ _ => trivial)); (case aO => exact (zF HO_5.out)); (case aS => exact (below_size (zA HB.out))); (case aL => have := LMc10.out; omega); intro v168 w13 ho hb hg hat; rw [← Ny167.out] at ho; have n0_ := az (hb); have n1_ := az (ho); clear HB; clear HO_5; have HB := n0_; have HO169 := n1_; clear n0_ n1_; clear ho hb hg hat))
      go_roundg k1
      case measure => have := HK1.out; omega
      case rel => exact ⟨(y167), (wrap64 (x6_1 + 1)), zB, H', ⟨zE HK1.out⟩, ⟨zF HO169.out⟩, ⟨zA HB.out⟩⟩
     ·
      rw [if_neg c10] at H; exact absurd H (by simp)
    ·
     rw [if_neg c7] at H; have c7b0 : (t163 == x6_1) = false := beq_eq_false_iff_ne.mpr c7; have c7b1 : (t163 != x6_1) = true := bne_iff_ne.mpr c7; by_cases c14 : x5_1.length < 17592186044416
     ·
      rw [if_pos c14] at H; have LMc14 := az c14; clear c14; obtain ⟨y170, hy170⟩ : ∃ y_ : List Int, y_ = (x5_1 ++ [0]) := ⟨_, rfl⟩; replace H : (spec_l6Wides.l0 k1 l0 l1 y170 (wrap64 (x6_1 + 1))) = some r := by first | (rw [hy170]; with_reducible exact H) | (have H2_ := (Option.bind_some _ _).symm.trans H; rw [hy170]; with_reducible exact H2_) | (have H2_ := (Option.bind_some _ _).symm.trans H; with_reducible exact H2_) | with_reducible exact H | (rw [hy170]; exact H) | exact H
      have Ny170 := az hy170; clear hy170; have H' := az H; clear H; go_wp2_with (first | ((with_reducible refine gate_callee (f := 120) rfl ?_); refine goesL_ (some 19) rfl rfl Tryz.func120 (by kernel_rfl) rfl #[.slice A0 l0.length c0, .int .i64 x6_1] rfl zC ?_; (with_reducible refine (spec_l2At.calls k1 _ _ l0 x6_1 t163 _ ?side1 ?side2 A6.out).mono ?_); (case side1 => exact (zO HR0.out HB.out)); (case side2 => exact HC0.out); rintro e w15 ⟨rfl, hb⟩; refine ⟨_, rfl, ?_⟩; have n0_ := az (Kd.R_below (zF HO_5.out) hb); have n1_ := az (below_step (zA HB.out) hb); clear HO_5; clear HB; have HO_5 := n0_; have HB := n1_; clear n0_ n1_; (try clear hb); (try clear hb2); (try clear hk); (try clear hi)) | ((with_reducible refine gate_builtin (b := .append) (xs := #[.tmp 33, .tmp 35]) rfl ?_); at_builtin; refine Kd.R_append (Kd.int .i64) (w0 := w) w.heap.size rfl (.tmp 33) (.tmp 35) 22 3 (.int .i64 0) 8 rfl Tryz.underlying22 info3 rfl (by decide) (by omega) u5 x5_1 0 [.int .i64 0] (fun _ => True) (fun _ => False) rfl rfl ?aP (fun _ hk => hk.elim) ?aF ?aO ?aB ?aS ?aL ?_; (case aP => exact rfl); (case aB => exact (zA HB.out)); (case aF => exact (fun _ _ => trivial)); (case aO => exact (zF HO_5.out)); (case aS => exact (below_size (zA HB.out))); (case aL => have := LMc14.out; omega); intro v171 w16 ho hb hg hat; rw [← Ny170.out] at ho; have n0_ := az (hb); have n1_ := az (ho); clear HB; clear HO_5; have HB := n0_; have HO172 := n1_; clear n0_ n1_; clear ho hb hg hat)); go_roundg k1
      case measure => have := HK1.out; omega
      case rel => exact ⟨(y170), (wrap64 (x6_1 + 1)), zB, H', ⟨zE HK1.out⟩, ⟨zF HO172.out⟩, ⟨zA HB.out⟩⟩
     ·
      rw [if_neg c14] at H; exact absurd H (by simp)
   ·
    rw [if_neg c5] at H; have c5b0 : decide (x6_1 < (l0.length : Int)) = false := decide_eq_false c5; clear c5; obtain rfl := Option.some.inj H; go_wp2; go_ret; exact ⟨_, zG, zF HO_5.out, zA HB.out⟩
mutual
def spec_l5Signs.j0 : Nat → Int → Bool → Option (Int)
 | 0, _, _ => none
 | k + 1, x3, x4 => if x4 = true then (some 8) else (if x3 = 41 then (spec_l5Signs.j1 k x3 (x3 == 41)) else (if x3 = 93 then (spec_l5Signs.j1 k x3 (x3 == 93)) else (spec_l5Signs.j1 k x3 (x3 == 125))))
def spec_l5Signs.j1 : Nat → Int → Bool → Option (Int)
 | 0, _, _ => none
 | k + 1, x3, x8 => if x8 = true then (some 9) else (if x3 = 33 then (spec_l5Signs.j2 k x3 (x3 == 33)) else (spec_l5Signs.j2 k x3 (x3 == 63)))
def spec_l5Signs.j2 : Nat → Int → Bool → Option (Int)
 | 0, _, _ => none
 | k + 1, x3, x12 => if x12 = true then (some 10) else (if x3 = 34 then (some 11) else (if x3 = 45 then (some 12) else (if x3 = 44 then (spec_l5Signs.j3 k x3 (x3 == 44)) else (if x3 = 46 then (spec_l5Signs.j3 k x3 (x3 == 46)) else (if x3 = 58 then (spec_l5Signs.j3 k x3 (x3 == 58)) else (if x3 = 59 then (spec_l5Signs.j3 k x3 (x3 == 59)) else (spec_l5Signs.j3 k x3 (x3 == 47))))))))
def spec_l5Signs.j3 : Nat → Int → Bool → Option (Int)
 | 0, _, _ => none
 | k + 1, x3, x19 => if x19 = true then (some 13) else (if x3 = 9 then (some 14) else (if x3 = 173 then (some 14) else (some 1)))
end
def spec_l5Signs.f (k : Nat) (a0 : Int) : Option (Int) := if a0 = 40 then (spec_l5Signs.j0 k a0 (a0 == 40)) else (if a0 = 91 then (spec_l5Signs.j0 k a0 (a0 == 91)) else (spec_l5Signs.j0 k a0 (a0 == 123)))
theorem spec_l5Signs.mono_l : ∀ k, (∀ y0 y1, LeO (spec_l5Signs.j0 k y0 y1) (spec_l5Signs.j0 (k + 1) y0 y1)) ∧ (∀ y0 y1, LeO (spec_l5Signs.j1 k y0 y1) (spec_l5Signs.j1 (k + 1) y0 y1)) ∧ (∀ y0 y1, LeO (spec_l5Signs.j2 k y0 y1) (spec_l5Signs.j2 (k + 1) y0 y1)) ∧ (∀ y0 y1, LeO (spec_l5Signs.j3 k y0 y1) (spec_l5Signs.j3 (k + 1) y0 y1))
 | 0 => ⟨fun _ _ r h => by simp [spec_l5Signs.j0] at h, fun _ _ r h => by simp [spec_l5Signs.j1] at h, fun _ _ r h => by simp [spec_l5Signs.j2] at h, fun _ _ r h => by simp [spec_l5Signs.j3] at h⟩
 | k + 1 => by
  obtain ⟨ih0, ih1, ih2, ih3⟩ := spec_l5Signs.mono_l k; refine ⟨?_, ?_, ?_, ?_⟩
  ·
   intro y0 y1; unfold spec_l5Signs.j0
   repeat' first
   | (with_reducible exact ih0 _ _)
   | (with_reducible exact ih1 _ _)
   | (with_reducible exact ih2 _ _)
   | (with_reducible exact ih3 _ _)
   | (with_reducible exact LeO.refl _)
   | (with_reducible exact LeO.none _)
   | (with_reducible refine LeO.ite ?_ ?_)
   | (with_reducible refine LeO.bind ?_ (fun _ => ?_))
   | exact ih0 _ _
   | exact ih1 _ _
   | exact ih2 _ _
   | exact ih3 _ _
   | exact LeO.none _
   | refine LeO.ite ?_ ?_
   | refine LeO.bind ?_ (fun _ => ?_)
  ·
   intro y0 y1; unfold spec_l5Signs.j1
   repeat' first
   | (with_reducible exact ih0 _ _)
   | (with_reducible exact ih1 _ _)
   | (with_reducible exact ih2 _ _)
   | (with_reducible exact ih3 _ _)
   | (with_reducible exact LeO.refl _)
   | (with_reducible exact LeO.none _)
   | (with_reducible refine LeO.ite ?_ ?_)
   | (with_reducible refine LeO.bind ?_ (fun _ => ?_))
   | exact ih0 _ _
   | exact ih1 _ _
   | exact ih2 _ _
   | exact ih3 _ _
   | exact LeO.none _
   | refine LeO.ite ?_ ?_
   | refine LeO.bind ?_ (fun _ => ?_)
  ·
   intro y0 y1; unfold spec_l5Signs.j2
   repeat' first
   | (with_reducible exact ih0 _ _)
   | (with_reducible exact ih1 _ _)
   | (with_reducible exact ih2 _ _)
   | (with_reducible exact ih3 _ _)
   | (with_reducible exact LeO.refl _)
   | (with_reducible exact LeO.none _)
   | (with_reducible refine LeO.ite ?_ ?_)
   | (with_reducible refine LeO.bind ?_ (fun _ => ?_))
   | exact ih0 _ _
   | exact ih1 _ _
   | exact ih2 _ _
   | exact ih3 _ _
   | exact LeO.none _
   | refine LeO.ite ?_ ?_
   | refine LeO.bind ?_ (fun _ => ?_)
  ·
   intro y0 y1; unfold spec_l5Signs.j3
   repeat' first
   | (with_reducible exact ih0 _ _)
   | (with_reducible exact ih1 _ _)
   | (with_reducible exact ih2 _ _)
   | (with_reducible exact ih3 _ _)
   | (with_reducible exact LeO.refl _)
   | (with_reducible exact LeO.none _)
   | (with_reducible refine LeO.ite ?_ ?_)
   | (with_reducible refine LeO.bind ?_ (fun _ => ?_))
   | exact ih0 _ _
   | exact ih1 _ _
   | exact ih2 _ _
   | exact ih3 _ _
   | exact LeO.none _
   | refine LeO.ite ?_ ?_
   | refine LeO.bind ?_ (fun _ => ?_)
theorem spec_l5Signs.mono : ∀ a0 k, LeO (spec_l5Signs.f k a0) (spec_l5Signs.f (k + 1) a0) := by
 intro a0 k; obtain ⟨ih0, ih1, ih2, ih3⟩ := spec_l5Signs.mono_l k; unfold spec_l5Signs.f
 repeat' first
   | (with_reducible exact ih0 _ _)
   | (with_reducible exact ih1 _ _)
   | (with_reducible exact ih2 _ _)
   | (with_reducible exact ih3 _ _)
   | (with_reducible exact LeO.refl _)
   | (with_reducible exact LeO.none _)
   | (with_reducible refine LeO.ite ?_ ?_)
   | (with_reducible refine LeO.bind ?_ (fun _ => ?_))
   | exact ih0 _ _
   | exact ih1 _ _
   | exact ih2 _ _
   | exact ih3 _ _
   | exact LeO.none _
   | refine LeO.ite ?_ ?_
   | refine LeO.bind ?_ (fun _ => ?_)
theorem spec_l5Signs.calls (k : Nat) (a0 : Int) (r : Int) (w : World) (h : spec_l5Signs.f k a0 = some r) :
  Calls Tryz.prog 139 #[.int .i64 a0] w fun e w' => e = .returned (.int .i64 r) ∧ Drawn0 w w' := by
 have H : (if a0 = 40 then (spec_l5Signs.j0 k a0 (a0 == 40)) else (if a0 = 91 then (spec_l5Signs.j0 k a0 (a0 == 91)) else (spec_l5Signs.j0 k a0 (a0 == 123)))) = some r := h; clear h; have HC2 := az H; clear H; go_enter Tryz.func139, Tryz.ntmps139; go_upto_if 4 with (fail)
 go_cut [4] (fun v4 wc => ∃ (kq : Nat) (x4_1 : Bool), v4 = .bool x4_1 ∧ Aside0 (spec_l5Signs.j0 kq a0 x4_1 = some r) ∧ Aside0 (kq ≤ k) ∧ Drawn0 w wc)
 case first =>
  have H := HC2.out; clear HC2; by_cases c3 : a0 = 40
  ·
   rw [if_pos c3] at H; have c3b0 : (a0 == 40) = true := beq_iff_eq.mpr c3; have c3b1 : (a0 != 40) = false := bne_eq_false_iff_eq.mpr c3; clear c3; (first | rw [c3b0] | (simp only [i64_w, i32_w]; rw [c3b0]) | skip); have H' := az H; clear H; go_wp2; go_meet
   case rel => exact ⟨_, ((a0 == 40)), zB, H', ⟨zJ⟩, zD⟩
  ·
   rw [if_neg c3] at H; have c3b0 : (a0 == 40) = false := beq_eq_false_iff_ne.mpr c3; have c3b1 : (a0 != 40) = true := bne_iff_ne.mpr c3; (first | rw [c3b0] | (simp only [i64_w, i32_w]; rw [c3b0]) | skip); by_cases c4 : a0 = 91
   ·
    rw [if_pos c4] at H; have c4b0 : (a0 == 91) = true := beq_iff_eq.mpr c4; have c4b1 : (a0 != 91) = false := bne_eq_false_iff_eq.mpr c4; clear c4; have H' := az H; clear H; go_wp2; go_meet
    case rel => exact ⟨_, ((a0 == 91)), zB, H', ⟨zJ⟩, zD⟩
   ·
    rw [if_neg c4] at H; have c4b0 : (a0 == 91) = false := beq_eq_false_iff_ne.mpr c4; have c4b1 : (a0 != 91) = true := bne_iff_ne.mpr c4; have H' := az H; clear H; go_wp2; go_meet
    case rel => exact ⟨_, ((a0 == 123)), zB, H', ⟨zJ⟩, zD⟩
 case rest =>
  clear HC2; (try clear c1); (try clear p2); (try clear c3); (try clear c3b0); (try clear c3b1); (try clear c4); (try clear c4b0); (try clear c4b1); obtain ⟨kq, x4_1, rfl, HA, HJ1, ⟨mc1, rfl⟩⟩ := hcut
  cases kq with
  | zero => exact absurd HA.out (by simp [spec_l5Signs.j0])
  | succ kj1 =>
   have H := HA.out; clear HA; simp only [spec_l5Signs.j0] at H; by_cases c5 : x4_1 = true
   ·
    subst c5; have H1 : (some 8) = some r := by rw [if_pos rfl] at H; exact H
    clear H; have H := H1; clear H1; obtain rfl := Option.some.inj H; go_wp2; go_ret; exact ⟨zB, zD⟩
   ·
    replace c5 := Bool.eq_false_iff.mpr c5; subst c5; have H1 : (if a0 = 41 then (spec_l5Signs.j1 kj1 a0 (a0 == 41)) else (if a0 = 93 then (spec_l5Signs.j1 kj1 a0 (a0 == 93)) else (spec_l5Signs.j1 kj1 a0 (a0 == 125)))) = some r := by rw [if_neg (show ¬ (false = true) by decide)] at H; exact H
    clear H; have H := H1; clear H1; have HC6 := az H; clear H; go_upto_if 8 with (fail)
    go_cut [8] (fun v8 wc => ∃ (kq : Nat) (x8_5 : Bool), v8 = .bool x8_5 ∧ Aside0 (spec_l5Signs.j1 kq a0 x8_5 = some r) ∧ Aside0 (kq ≤ kj1) ∧ Drawn0 w wc)
    case first =>
     have H := HC6.out; clear HC6; by_cases c7 : a0 = 41
     ·
      rw [if_pos c7] at H; have c7b0 : (a0 == 41) = true := beq_iff_eq.mpr c7; have c7b1 : (a0 != 41) = false := bne_eq_false_iff_eq.mpr c7; clear c7; (first | rw [c7b0] | (simp only [i64_w, i32_w]; rw [c7b0]) | skip); have H' := az H; clear H; go_wp2; go_meet
      case rel => exact ⟨_, ((a0 == 41)), zB, H', ⟨zK HJ1.out⟩, zD⟩
     ·
      rw [if_neg c7] at H; have c7b0 : (a0 == 41) = false := beq_eq_false_iff_ne.mpr c7; have c7b1 : (a0 != 41) = true := bne_iff_ne.mpr c7; (first | rw [c7b0] | (simp only [i64_w, i32_w]; rw [c7b0]) | skip); by_cases c8 : a0 = 93
      ·
       rw [if_pos c8] at H; have c8b0 : (a0 == 93) = true := beq_iff_eq.mpr c8; have c8b1 : (a0 != 93) = false := bne_eq_false_iff_eq.mpr c8; clear c8; have H' := az H; clear H; go_wp2; go_meet
       case rel => exact ⟨_, ((a0 == 93)), zB, H', ⟨zK HJ1.out⟩, zD⟩
      ·
       rw [if_neg c8] at H; have c8b0 : (a0 == 93) = false := beq_eq_false_iff_ne.mpr c8; have c8b1 : (a0 != 93) = true := bne_iff_ne.mpr c8; have H' := az H; clear H; go_wp2; go_meet
       case rel => exact ⟨_, ((a0 == 125)), zB, H', ⟨zK HJ1.out⟩, zD⟩
    case rest =>
     clear HC6; (try clear c1); (try clear p2); (try clear c3); (try clear c3b0); (try clear c3b1); (try clear c4); (try clear c4b0); (try clear c4b1); (try clear c5); (try clear c7); (try clear c7b0); (try clear c7b1); (try clear c8); (try clear c8b0); (try clear c8b1); (try clear p2); obtain ⟨kq, x8_5, rfl, HA, HJ5, ⟨mc5, rfl⟩⟩ := hcut
     cases kq with
     | zero => exact absurd HA.out (by simp [spec_l5Signs.j1])
     | succ kj5 =>
      have H := HA.out; clear HA; simp only [spec_l5Signs.j1] at H; by_cases c9 : x8_5 = true
      ·
       subst c9; have H1 : (some 9) = some r := by rw [if_pos rfl] at H; exact H
       clear H; have H := H1; clear H1; obtain rfl := Option.some.inj H; go_wp2; go_ret; exact ⟨zB, zD⟩
      ·
       replace c9 := Bool.eq_false_iff.mpr c9; subst c9; have H1 : (if a0 = 33 then (spec_l5Signs.j2 kj5 a0 (a0 == 33)) else (spec_l5Signs.j2 kj5 a0 (a0 == 63))) = some r := by rw [if_neg (show ¬ (false = true) by decide)] at H; exact H
       clear H; have H := H1; clear H1; have HC10 := az H; clear H; go_upto_if 12 with (fail)
       go_cut [12] (fun v12 wc => ∃ (kq : Nat) (x12_9 : Bool), v12 = .bool x12_9 ∧ Aside0 (spec_l5Signs.j2 kq a0 x12_9 = some r) ∧ Aside0 (kq ≤ kj5) ∧ Drawn0 w wc)
       case first =>
        have H := HC10.out; clear HC10; by_cases c11 : a0 = 33
        ·
         rw [if_pos c11] at H; have c11b0 : (a0 == 33) = true := beq_iff_eq.mpr c11; have c11b1 : (a0 != 33) = false := bne_eq_false_iff_eq.mpr c11; clear c11; (first | rw [c11b0] | (simp only [i64_w, i32_w]; rw [c11b0]) | skip); have H' := az H; clear H; go_wp2; go_meet
         case rel => exact ⟨_, ((a0 == 33)), zB, H', ⟨zM HJ1.out HJ5.out⟩, zD⟩
        ·
         rw [if_neg c11] at H; have c11b0 : (a0 == 33) = false := beq_eq_false_iff_ne.mpr c11; have c11b1 : (a0 != 33) = true := bne_iff_ne.mpr c11; (first | rw [c11b0] | (simp only [i64_w, i32_w]; rw [c11b0]) | skip); have H' := az H; clear H; go_wp2; go_meet
         case rel => exact ⟨_, ((a0 == 63)), zB, H', ⟨zM HJ1.out HJ5.out⟩, zD⟩
       case rest =>
        clear HC10; (try clear c1); (try clear p2); (try clear c3); (try clear c3b0); (try clear c3b1); (try clear c4); (try clear c4b0); (try clear c4b1); (try clear c5); (try clear c7); (try clear c7b0); (try clear c7b1); (try clear c8); (try clear c8b0); (try clear c8b1); (try clear c9); (try clear c11); (try clear c11b0); (try clear c11b1); (try clear p2); obtain ⟨kq, x12_9, rfl, HA, HJ9, ⟨mc9, rfl⟩⟩ := hcut
        cases kq with
        | zero => exact absurd HA.out (by simp [spec_l5Signs.j2])
        | succ kj9 =>
         have H := HA.out; clear HA; simp only [spec_l5Signs.j2] at H; by_cases c12 : x12_9 = true
         ·
          subst c12; have H1 : (some 10) = some r := by rw [if_pos rfl] at H; exact H
          clear H; have H := H1; clear H1; obtain rfl := Option.some.inj H; go_wp2; go_ret; exact ⟨zB, zD⟩
         ·
          replace c12 := Bool.eq_false_iff.mpr c12; subst c12; have H1 : (if a0 = 34 then (some 11) else (if a0 = 45 then (some 12) else (if a0 = 44 then (spec_l5Signs.j3 kj9 a0 (a0 == 44)) else (if a0 = 46 then (spec_l5Signs.j3 kj9 a0 (a0 == 46)) else (if a0 = 58 then (spec_l5Signs.j3 kj9 a0 (a0 == 58)) else (if a0 = 59 then (spec_l5Signs.j3 kj9 a0 (a0 == 59)) else (spec_l5Signs.j3 kj9 a0 (a0 == 47)))))))) = some r := by rw [if_neg (show ¬ (false = true) by decide)] at H; exact H
          clear H; have H := H1; clear H1; by_cases c13 : a0 = 34
          ·
           rw [if_pos c13] at H; have c13b0 : (a0 == 34) = true := beq_iff_eq.mpr c13; have c13b1 : (a0 != 34) = false := bne_eq_false_iff_eq.mpr c13; clear c13; obtain rfl := Option.some.inj H; go_wp2; go_ret; exact ⟨zB, zD⟩
          ·
           rw [if_neg c13] at H; have c13b0 : (a0 == 34) = false := beq_eq_false_iff_ne.mpr c13; have c13b1 : (a0 != 34) = true := bne_iff_ne.mpr c13; by_cases c14 : a0 = 45
           ·
            rw [if_pos c14] at H; have c14b0 : (a0 == 45) = true := beq_iff_eq.mpr c14; have c14b1 : (a0 != 45) = false := bne_eq_false_iff_eq.mpr c14; clear c14; obtain rfl := Option.some.inj H; go_wp2; go_ret; exact ⟨zB, zD⟩
           ·
            rw [if_neg c14] at H; have c14b0 : (a0 == 45) = false := beq_eq_false_iff_ne.mpr c14; have c14b1 : (a0 != 45) = true := bne_iff_ne.mpr c14; have HC15 := az H; clear H; go_upto_if 19 with (fail)
            go_cut [19] (fun v19 wc => ∃ (kq : Nat) (x19_14 : Bool), v19 = .bool x19_14 ∧ Aside0 (spec_l5Signs.j3 kq a0 x19_14 = some r) ∧ Aside0 (kq ≤ kj9) ∧ Drawn0 w wc)
            case first =>
             have H := HC15.out; clear HC15; by_cases c16 : a0 = 44
             ·
              rw [if_pos c16] at H; have c16b0 : (a0 == 44) = true := beq_iff_eq.mpr c16; have c16b1 : (a0 != 44) = false := bne_eq_false_iff_eq.mpr c16; clear c16; (first | rw [c16b0] | (simp only [i64_w, i32_w]; rw [c16b0]) | skip); have H' := az H; clear H; go_wp2; go_meet
              case rel => exact ⟨_, ((a0 == 44)), zB, H', ⟨zS HJ1.out HJ5.out HJ9.out⟩, zD⟩
             ·
              rw [if_neg c16] at H; have c16b0 : (a0 == 44) = false := beq_eq_false_iff_ne.mpr c16; have c16b1 : (a0 != 44) = true := bne_iff_ne.mpr c16; (first | rw [c16b0] | (simp only [i64_w, i32_w]; rw [c16b0]) | skip); by_cases c17 : a0 = 46
              ·
               rw [if_pos c17] at H; have c17b0 : (a0 == 46) = true := beq_iff_eq.mpr c17; have c17b1 : (a0 != 46) = false := bne_eq_false_iff_eq.mpr c17; clear c17; have H' := az H; clear H; go_wp2; go_meet
               case rel => exact ⟨_, ((a0 == 46)), zB, H', ⟨zS HJ1.out HJ5.out HJ9.out⟩, zD⟩
              ·
               rw [if_neg c17] at H; have c17b0 : (a0 == 46) = false := beq_eq_false_iff_ne.mpr c17; have c17b1 : (a0 != 46) = true := bne_iff_ne.mpr c17; by_cases c18 : a0 = 58
               ·
                rw [if_pos c18] at H; have c18b0 : (a0 == 58) = true := beq_iff_eq.mpr c18; have c18b1 : (a0 != 58) = false := bne_eq_false_iff_eq.mpr c18; clear c18; have H' := az H; clear H; go_wp2; go_meet
                case rel => exact ⟨_, ((a0 == 58)), zB, H', ⟨zS HJ1.out HJ5.out HJ9.out⟩, zD⟩
               ·
                rw [if_neg c18] at H; have c18b0 : (a0 == 58) = false := beq_eq_false_iff_ne.mpr c18; have c18b1 : (a0 != 58) = true := bne_iff_ne.mpr c18; by_cases c19 : a0 = 59
                ·
                 rw [if_pos c19] at H; have c19b0 : (a0 == 59) = true := beq_iff_eq.mpr c19; have c19b1 : (a0 != 59) = false := bne_eq_false_iff_eq.mpr c19; clear c19; have H' := az H; clear H; go_wp2; go_meet
                 case rel => exact ⟨_, ((a0 == 59)), zB, H', ⟨zS HJ1.out HJ5.out HJ9.out⟩, zD⟩
                ·
                 rw [if_neg c19] at H; have c19b0 : (a0 == 59) = false := beq_eq_false_iff_ne.mpr c19; have c19b1 : (a0 != 59) = true := bne_iff_ne.mpr c19; have H' := az H; clear H; go_wp2; go_meet
                 case rel => exact ⟨_, ((a0 == 47)), zB, H', ⟨zS HJ1.out HJ5.out HJ9.out⟩, zD⟩
            case rest =>
             clear HC15; (try clear c1); (try clear p2); (try clear c3); (try clear c3b0); (try clear c3b1); (try clear c4); (try clear c4b0); (try clear c4b1); (try clear c5); (try clear c7); (try clear c7b0); (try clear c7b1); (try clear c8); (try clear c8b0); (try clear c8b1); (try clear c9); (try clear c11); (try clear c11b0); (try clear c11b1); (try clear c12); (try clear c13); (try clear c13b0); (try clear c13b1); (try clear c14); (try clear c14b0); (try clear c14b1); (try clear c16); (try clear c16b0); (try clear c16b1); (try clear c17); (try clear c17b0); (try clear c17b1); (try clear c18); (try clear c18b0); (try clear c18b1); (try clear c19); (try clear c19b0); (try clear c19b1); (try clear p2); obtain ⟨kq, x19_14, rfl, HA, HJ14, ⟨mc14, rfl⟩⟩ := hcut
             cases kq with
             | zero => exact absurd HA.out (by simp [spec_l5Signs.j3])
             | succ kj14 =>
              have H := HA.out; clear HA; simp only [spec_l5Signs.j3] at H; by_cases c20 : x19_14 = true
              ·
               subst c20; have H1 : (some 13) = some r := by rw [if_pos rfl] at H; exact H
               clear H; have H := H1; clear H1; obtain rfl := Option.some.inj H; go_wp2; go_ret; exact ⟨zB, zD⟩
              ·
               replace c20 := Bool.eq_false_iff.mpr c20; subst c20; have H1 : (if a0 = 9 then (some 14) else (if a0 = 173 then (some 14) else (some 1))) = some r := by rw [if_neg (show ¬ (false = true) by decide)] at H; exact H
               clear H; have H := H1; clear H1; by_cases c21 : a0 = 9
               ·
                rw [if_pos c21] at H; have c21b0 : (a0 == 9) = true := beq_iff_eq.mpr c21; have c21b1 : (a0 != 9) = false := bne_eq_false_iff_eq.mpr c21; clear c21; obtain rfl := Option.some.inj H; go_wp2; go_ret; exact ⟨zB, zD⟩
               ·
                rw [if_neg c21] at H; have c21b0 : (a0 == 9) = false := beq_eq_false_iff_ne.mpr c21; have c21b1 : (a0 != 9) = true := bne_iff_ne.mpr c21; by_cases c22 : a0 = 173
                ·
                 rw [if_pos c22] at H; have c22b0 : (a0 == 173) = true := beq_iff_eq.mpr c22; have c22b1 : (a0 != 173) = false := bne_eq_false_iff_eq.mpr c22; clear c22; obtain rfl := Option.some.inj H; go_wp2; go_ret; exact ⟨zB, zD⟩
                ·
                 rw [if_neg c22] at H; have c22b0 : (a0 == 173) = false := beq_eq_false_iff_ne.mpr c22; have c22b1 : (a0 != 173) = true := bne_iff_ne.mpr c22; obtain rfl := Option.some.inj H; go_wp2; go_ret; exact ⟨zB, zD⟩
mutual
def spec_RuneLine.j0 : Nat → Int → Bool → Option (Int)
 | 0, _, _ => none
 | k + 1, x0, x15 => if x15 = true then (some 7) else ((spec_l1In.f x0 48 57).bind fun t175 => (if t175 = true then (spec_RuneLine.j1 k x0 true) else ((spec_l1In.f x0 1632 1641).bind fun t176 => (spec_RuneLine.j1 k x0 t176))))
def spec_RuneLine.j1 : Nat → Int → Bool → Option (Int)
 | 0, _, _ => none
 | k + 1, x0, x28 => if x28 = true then (some 2) else ((spec_l1In.f x0 19968 40959).bind fun t177 => (if t177 = true then (some 15) else ((spec_l5Signs.f k x0).bind fun t178 => (some t178))))
end
def spec_RuneLine.f (k : Nat) (a0 : Int) : Option (Int) := if a0 = 10 then (some 4) else (if a0 = 32 then (some 3) else (if a0 = 160 then (some 5) else (if a0 = 8203 then (some 6) else ((spec_RuneBidi.f k a0).bind fun t173 => (if t173 = 9 then (spec_RuneLine.j0 k a0 true) else (if a0 = 8205 then (spec_RuneLine.j0 k a0 true) else ((spec_RuneBidi.f k a0).bind fun t174 => (spec_RuneLine.j0 k a0 (decide (t174 ≥ 14))))))))))
theorem spec_RuneLine.mono_l : ∀ k, (∀ y0 y1, LeO (spec_RuneLine.j0 k y0 y1) (spec_RuneLine.j0 (k + 1) y0 y1)) ∧ (∀ y0 y1, LeO (spec_RuneLine.j1 k y0 y1) (spec_RuneLine.j1 (k + 1) y0 y1))
 | 0 => ⟨fun _ _ r h => by simp [spec_RuneLine.j0] at h, fun _ _ r h => by simp [spec_RuneLine.j1] at h⟩
 | k + 1 => by
  obtain ⟨ih0, ih1⟩ := spec_RuneLine.mono_l k; refine ⟨?_, ?_⟩
  ·
   intro y0 y1; unfold spec_RuneLine.j0
   repeat' first
   | (with_reducible exact ih0 _ _)
   | (with_reducible exact ih1 _ _)
   | (with_reducible exact spec_RuneBidi.mono _ _)
   | (with_reducible exact spec_l5Signs.mono _ _)
   | (with_reducible exact LeO.refl _)
   | (with_reducible exact LeO.none _)
   | (with_reducible refine LeO.ite ?_ ?_)
   | (with_reducible refine LeO.bind ?_ (fun _ => ?_))
   | exact ih0 _ _
   | exact ih1 _ _
   | exact spec_RuneBidi.mono _ _
   | exact spec_l5Signs.mono _ _
   | exact LeO.none _
   | refine LeO.ite ?_ ?_
   | refine LeO.bind ?_ (fun _ => ?_)
  ·
   intro y0 y1; unfold spec_RuneLine.j1
   repeat' first
   | (with_reducible exact ih0 _ _)
   | (with_reducible exact ih1 _ _)
   | (with_reducible exact spec_RuneBidi.mono _ _)
   | (with_reducible exact spec_l5Signs.mono _ _)
   | (with_reducible exact LeO.refl _)
   | (with_reducible exact LeO.none _)
   | (with_reducible refine LeO.ite ?_ ?_)
   | (with_reducible refine LeO.bind ?_ (fun _ => ?_))
   | exact ih0 _ _
   | exact ih1 _ _
   | exact spec_RuneBidi.mono _ _
   | exact spec_l5Signs.mono _ _
   | exact LeO.none _
   | refine LeO.ite ?_ ?_
   | refine LeO.bind ?_ (fun _ => ?_)
theorem spec_RuneLine.mono : ∀ a0 k, LeO (spec_RuneLine.f k a0) (spec_RuneLine.f (k + 1) a0) := by
 intro a0 k; obtain ⟨ih0, ih1⟩ := spec_RuneLine.mono_l k; unfold spec_RuneLine.f
 repeat' first
   | (with_reducible exact ih0 _ _)
   | (with_reducible exact ih1 _ _)
   | (with_reducible exact spec_RuneBidi.mono _ _)
   | (with_reducible exact spec_l5Signs.mono _ _)
   | (with_reducible exact LeO.refl _)
   | (with_reducible exact LeO.none _)
   | (with_reducible refine LeO.ite ?_ ?_)
   | (with_reducible refine LeO.bind ?_ (fun _ => ?_))
   | exact ih0 _ _
   | exact ih1 _ _
   | exact spec_RuneBidi.mono _ _
   | exact spec_l5Signs.mono _ _
   | exact LeO.none _
   | refine LeO.ite ?_ ?_
   | refine LeO.bind ?_ (fun _ => ?_)
theorem spec_RuneLine.calls (k : Nat) (a0 : Int) (r : Int) (w : World) (h : spec_RuneLine.f k a0 = some r) :
  Calls Tryz.prog 125 #[.int .i64 a0] w fun e w' => e = .returned (.int .i64 r) ∧ Below w.heap.size w w' := by
 have HB := az (Below.refl w.heap.size w); have H : (if a0 = 10 then (some 4) else (if a0 = 32 then (some 3) else (if a0 = 160 then (some 5) else (if a0 = 8203 then (some 6) else ((spec_RuneBidi.f k a0).bind fun t173 => (if t173 = 9 then (spec_RuneLine.j0 k a0 true) else (if a0 = 8205 then (spec_RuneLine.j0 k a0 true) else ((spec_RuneBidi.f k a0).bind fun t174 => (spec_RuneLine.j0 k a0 (decide (t174 ≥ 14))))))))))) = some r := h; clear h; by_cases c2 : a0 = 10
 ·
  rw [if_pos c2] at H; have c2b0 : (a0 == 10) = true := beq_iff_eq.mpr c2; have c2b1 : (a0 != 10) = false := bne_eq_false_iff_eq.mpr c2; clear c2; obtain rfl := Option.some.inj H; go_enter Tryz.func125, Tryz.ntmps125; go_wp2; go_ret; exact ⟨zG, zA HB.out⟩
 ·
  rw [if_neg c2] at H; have c2b0 : (a0 == 10) = false := beq_eq_false_iff_ne.mpr c2; have c2b1 : (a0 != 10) = true := bne_iff_ne.mpr c2; by_cases c3 : a0 = 32
  ·
   rw [if_pos c3] at H; have c3b0 : (a0 == 32) = true := beq_iff_eq.mpr c3; have c3b1 : (a0 != 32) = false := bne_eq_false_iff_eq.mpr c3; clear c3; obtain rfl := Option.some.inj H; go_enter Tryz.func125, Tryz.ntmps125; go_wp2; go_ret; exact ⟨zG, zA HB.out⟩
  ·
   rw [if_neg c3] at H; have c3b0 : (a0 == 32) = false := beq_eq_false_iff_ne.mpr c3; have c3b1 : (a0 != 32) = true := bne_iff_ne.mpr c3; by_cases c4 : a0 = 160
   ·
    rw [if_pos c4] at H; have c4b0 : (a0 == 160) = true := beq_iff_eq.mpr c4; have c4b1 : (a0 != 160) = false := bne_eq_false_iff_eq.mpr c4; clear c4; obtain rfl := Option.some.inj H; go_enter Tryz.func125, Tryz.ntmps125; go_wp2; go_ret; exact ⟨zG, zA HB.out⟩
   ·
    rw [if_neg c4] at H; have c4b0 : (a0 == 160) = false := beq_eq_false_iff_ne.mpr c4; have c4b1 : (a0 != 160) = true := bne_iff_ne.mpr c4; by_cases c5 : a0 = 8203
    ·
     rw [if_pos c5] at H; have c5b0 : (a0 == 8203) = true := beq_iff_eq.mpr c5; have c5b1 : (a0 != 8203) = false := bne_eq_false_iff_eq.mpr c5; clear c5; obtain rfl := Option.some.inj H; go_enter Tryz.func125, Tryz.ntmps125; go_wp2; go_ret; exact ⟨zG, zA HB.out⟩
    ·
     rw [if_neg c5] at H; have c5b0 : (a0 == 8203) = false := beq_eq_false_iff_ne.mpr c5; have c5b1 : (a0 != 8203) = true := bne_iff_ne.mpr c5; have HC6 := az H; clear H; go_enter Tryz.func125, Tryz.ntmps125; go_upto_region 9 with (fail)
     go_cut [15] (fun v15 wc => ∃ (kq : Nat) (x15_5 : Bool), v15 = .bool x15_5 ∧ Aside0 (spec_RuneLine.j0 kq a0 x15_5 = some r) ∧ Aside0 (kq ≤ k) ∧ Aside0 (Below w.heap.size w wc))
     case first =>
      have H := HC6.out; clear HC6; replace H := Option.bind_eq_some_iff.mp H; obtain ⟨t173, A70, H⟩ := H; replace H : (if t173 = 9 then (spec_RuneLine.j0 k a0 true) else (if a0 = 8205 then (spec_RuneLine.j0 k a0 true) else ((spec_RuneBidi.f k a0).bind fun t174 => (spec_RuneLine.j0 k a0 (decide (t174 ≥ 14)))))) = some r := H; have A7 := az A70; clear A70; by_cases c8 : t173 = 9
      ·
       rw [if_pos c8] at H; have c8b0 : (t173 == 9) = true := beq_iff_eq.mpr c8; have c8b1 : (t173 != 9) = false := bne_eq_false_iff_eq.mpr c8; clear c8; (first | rw [c8b0] | (simp only [i64_w, i32_w]; rw [c8b0]) | skip); have H' := az H; clear H; go_wp2_with (first | ((with_reducible refine gate_callee (f := 137) rfl ?_); refine goesL_ (some 17) rfl rfl Tryz.func137 (by kernel_rfl) rfl #[.int .i64 a0] rfl zC ?_; (with_reducible refine (spec_RuneBidi.calls k a0 t173 _ A7.out).mono ?_); rintro e w9 ⟨rfl, hb⟩; refine ⟨_, rfl, ?_⟩; have n0_ := az (below_step (zA HB.out) hb); clear HB; have HB := n0_; clear n0_; (try clear hb); (try clear hb2); (try clear hk); (try clear hi))); go_meet
       case rel => exact ⟨_, (true), zB, H', ⟨zJ⟩, ⟨zA HB.out⟩⟩
      ·
       rw [if_neg c8] at H; have c8b0 : (t173 == 9) = false := beq_eq_false_iff_ne.mpr c8; have c8b1 : (t173 != 9) = true := bne_iff_ne.mpr c8; (first | rw [c8b0] | (simp only [i64_w, i32_w]; rw [c8b0]) | skip); by_cases c10 : a0 = 8205
       ·
        rw [if_pos c10] at H; have c10b0 : (a0 == 8205) = true := beq_iff_eq.mpr c10; have c10b1 : (a0 != 8205) = false := bne_eq_false_iff_eq.mpr c10; clear c10; have H' := az H; clear H; go_wp2_with (first | ((with_reducible refine gate_callee (f := 137) rfl ?_); refine goesL_ (some 17) rfl rfl Tryz.func137 (by kernel_rfl) rfl #[.int .i64 a0] rfl zC ?_; (with_reducible refine (spec_RuneBidi.calls k a0 t173 _ A7.out).mono ?_); rintro e w11 ⟨rfl, hb⟩; refine ⟨_, rfl, ?_⟩; have n0_ := az (below_step (zA HB.out) hb); clear HB; have HB := n0_; clear n0_; (try clear hb); (try clear hb2); (try clear hk); (try clear hi))); go_meet
        case rel => exact ⟨_, (true), zB, H', ⟨zJ⟩, ⟨zA HB.out⟩⟩
       ·
        rw [if_neg c10] at H; have c10b0 : (a0 == 8205) = false := beq_eq_false_iff_ne.mpr c10; have c10b1 : (a0 != 8205) = true := bne_iff_ne.mpr c10; replace H := Option.bind_eq_some_iff.mp H; obtain ⟨t174, A120, H⟩ := H; replace H : (spec_RuneLine.j0 k a0 (decide (t174 ≥ 14))) = some r := H; have A12 := az A120; clear A120; have H' := az H; clear H; go_wp2_with (first | ((with_reducible refine gate_callee (f := 137) rfl ?_); refine goesL_ (some 17) rfl rfl Tryz.func137 (by kernel_rfl) rfl #[.int .i64 a0] rfl zC ?_; (with_reducible refine (spec_RuneBidi.calls k a0 t173 _ A7.out).mono ?_); rintro e w13 ⟨rfl, hb⟩; refine ⟨_, rfl, ?_⟩; have n0_ := az (below_step (zA HB.out) hb); clear HB; have HB := n0_; clear n0_; (try clear hb); (try clear hb2); (try clear hk); (try clear hi)) | (go_at_call 137; (with_reducible refine (spec_RuneBidi.calls k a0 t174 _ A12.out).mono ?_); rintro e w14 ⟨rfl, hb⟩; have n0_ := az (below_step (zA HB.out) hb); clear HB; have HB := n0_; clear n0_; (try clear hb); (try clear hb2); (try clear hk); (try clear hi))); go_meet
        case rel => exact ⟨_, (decide (t174 ≥ 14)), zB, H', ⟨zJ⟩, ⟨zA HB.out⟩⟩
     case rest =>
      clear HC6; (try clear c1); (try clear c2); (try clear c2b0); (try clear c2b1); (try clear p2); (try clear c3); (try clear c3b0); (try clear c3b1); (try clear c4); (try clear c4b0); (try clear c4b1); (try clear c5); (try clear c5b0); (try clear c5b1); (try clear c8); (try clear c8b0); (try clear c8b1); (try clear c10); (try clear c10b0); (try clear c10b1); (try clear c12); (try clear c13); obtain ⟨kq, x15_5, rfl, HA, HJ5, HB⟩ := hcut
      cases kq with
      | zero => exact absurd HA.out (by simp [spec_RuneLine.j0])
      | succ kj5 =>
       have H := HA.out; clear HA; simp only [spec_RuneLine.j0] at H; by_cases c15 : x15_5 = true
       ·
        subst c15; have H1 : (some 7) = some r := by rw [if_pos rfl] at H; exact H
        clear H; have H := H1; clear H1; obtain rfl := Option.some.inj H; go_wp2; go_ret; exact ⟨zG, zA HB.out⟩
       ·
        replace c15 := Bool.eq_false_iff.mpr c15; subst c15; have H1 : ((spec_l1In.f a0 48 57).bind fun t175 => (if t175 = true then (spec_RuneLine.j1 kj5 a0 true) else ((spec_l1In.f a0 1632 1641).bind fun t176 => (spec_RuneLine.j1 kj5 a0 t176)))) = some r := by rw [if_neg (show ¬ (false = true) by decide)] at H; exact H
        clear H; have H := H1; clear H1; have HC16 := az H; clear H; go_upto_region 11 with (fail)
        go_cut [28] (fun v28 wc => ∃ (kq : Nat) (x28_15 : Bool), v28 = .bool x28_15 ∧ Aside0 (spec_RuneLine.j1 kq a0 x28_15 = some r) ∧ Aside0 (kq ≤ kj5) ∧ Aside0 (Below w.heap.size w wc))
        case first =>
         have H := HC16.out; clear HC16; replace H := Option.bind_eq_some_iff.mp H; obtain ⟨t175, A170, H⟩ := H; replace H : (if t175 = true then (spec_RuneLine.j1 kj5 a0 true) else ((spec_l1In.f a0 1632 1641).bind fun t176 => (spec_RuneLine.j1 kj5 a0 t176))) = some r := H; have A17 := az A170; clear A170; by_cases c18 : t175 = true
         ·
          subst c18; have H1 : (spec_RuneLine.j1 kj5 a0 true) = some r := by rw [if_pos rfl] at H; exact H
          clear H; have H := H1; clear H1; have H' := az H; clear H; go_wp2_with (first | ((with_reducible refine gate_callee (f := 36) rfl ?_); refine goesL_ (some 30) rfl rfl Tryz.func36 (by kernel_rfl) rfl #[.int .i64 a0, .int .i64 48, .int .i64 57] rfl zC ?_; (with_reducible refine (spec_l1In.calls a0 48 57 true _ A17.out).mono ?_); rintro e w' ⟨rfl, ⟨nd, rfl⟩⟩; refine ⟨_, rfl, ?_⟩)); go_meet
          case rel => exact ⟨_, (true), zB, H', ⟨zK HJ5.out⟩, ⟨zA HB.out⟩⟩
         ·
          replace c18 := Bool.eq_false_iff.mpr c18; subst c18; have H1 : ((spec_l1In.f a0 1632 1641).bind fun t176 => (spec_RuneLine.j1 kj5 a0 t176)) = some r := by rw [if_neg (show ¬ (false = true) by decide)] at H; exact H
          clear H; have H := H1; clear H1; replace H := Option.bind_eq_some_iff.mp H; obtain ⟨t176, A190, H⟩ := H; replace H : (spec_RuneLine.j1 kj5 a0 t176) = some r := H; have A19 := az A190; clear A190; have H' := az H; clear H; go_wp2_with (first | ((with_reducible refine gate_callee (f := 36) rfl ?_); refine goesL_ (some 30) rfl rfl Tryz.func36 (by kernel_rfl) rfl #[.int .i64 a0, .int .i64 48, .int .i64 57] rfl zC ?_; (with_reducible refine (spec_l1In.calls a0 48 57 false _ A17.out).mono ?_); rintro e w' ⟨rfl, ⟨nd, rfl⟩⟩; refine ⟨_, rfl, ?_⟩) | (go_at_call 36; (with_reducible refine (spec_l1In.calls a0 1632 1641 t176 _ A19.out).mono ?_); rintro e w' ⟨rfl, ⟨nd, rfl⟩⟩)); go_meet
          case rel => exact ⟨_, (t176), zB, H', ⟨zK HJ5.out⟩, ⟨zA HB.out⟩⟩
        case rest =>
         clear HC16; (try clear c1); (try clear c2); (try clear c2b0); (try clear c2b1); (try clear p2); (try clear c3); (try clear c3b0); (try clear c3b1); (try clear c4); (try clear c4b0); (try clear c4b1); (try clear c5); (try clear c5b0); (try clear c5b1); (try clear c8); (try clear c8b0); (try clear c8b1); (try clear c10); (try clear c10b0); (try clear c10b1); (try clear c12); (try clear c13); (try clear c15); (try clear c18); (try clear p2); obtain ⟨kq, x28_15, rfl, HA, HJ15, HB⟩ := hcut
         cases kq with
         | zero => exact absurd HA.out (by simp [spec_RuneLine.j1])
         | succ kj15 =>
          have H := HA.out; clear HA; simp only [spec_RuneLine.j1] at H; by_cases c20 : x28_15 = true
          ·
           subst c20; have H1 : (some 2) = some r := by rw [if_pos rfl] at H; exact H
           clear H; have H := H1; clear H1; obtain rfl := Option.some.inj H; go_wp2; go_ret; exact ⟨zG, zA HB.out⟩
          ·
           replace c20 := Bool.eq_false_iff.mpr c20; subst c20; have H1 : ((spec_l1In.f a0 19968 40959).bind fun t177 => (if t177 = true then (some 15) else ((spec_l5Signs.f kj15 a0).bind fun t178 => (some t178)))) = some r := by rw [if_neg (show ¬ (false = true) by decide)] at H; exact H
           clear H; have H := H1; clear H1; replace H := Option.bind_eq_some_iff.mp H; obtain ⟨t177, A210, H⟩ := H; replace H : (if t177 = true then (some 15) else ((spec_l5Signs.f kj15 a0).bind fun t178 => (some t178))) = some r := H; have A21 := az A210; clear A210; by_cases c22 : t177 = true
           ·
            subst c22; have H1 : (some 15) = some r := by rw [if_pos rfl] at H; exact H
            clear H; have H := H1; clear H1; obtain rfl := Option.some.inj H; go_wp2_with (first | ((with_reducible refine gate_callee (f := 36) rfl ?_); refine goesL_ (some 37) rfl rfl Tryz.func36 (by kernel_rfl) rfl #[.int .i64 a0, .int .i64 19968, .int .i64 40959] rfl zC ?_; (with_reducible refine (spec_l1In.calls a0 19968 40959 true _ A21.out).mono ?_); rintro e w' ⟨rfl, ⟨nd, rfl⟩⟩; refine ⟨_, rfl, ?_⟩)); go_ret; exact ⟨zG, zA HB.out⟩
           ·
            replace c22 := Bool.eq_false_iff.mpr c22; subst c22; have H1 : ((spec_l5Signs.f kj15 a0).bind fun t178 => (some t178)) = some r := by rw [if_neg (show ¬ (false = true) by decide)] at H; exact H
            clear H; have H := H1; clear H1; replace H := Option.bind_eq_some_iff.mp H; obtain ⟨t178, A230, H⟩ := H; replace H : (some t178) = some r := H; have A23 := az A230; clear A230; obtain rfl := Option.some.inj H; go_wp2_with (first | ((with_reducible refine gate_callee (f := 36) rfl ?_); refine goesL_ (some 37) rfl rfl Tryz.func36 (by kernel_rfl) rfl #[.int .i64 a0, .int .i64 19968, .int .i64 40959] rfl zC ?_; (with_reducible refine (spec_l1In.calls a0 19968 40959 false _ A21.out).mono ?_); rintro e w' ⟨rfl, ⟨nd, rfl⟩⟩; refine ⟨_, rfl, ?_⟩) | ((with_reducible refine gate_callee (f := 139) rfl ?_); refine goesL_ (some 39) rfl rfl Tryz.func139 (by kernel_rfl) rfl #[.int .i64 a0] rfl zC ?_; (with_reducible refine (spec_l5Signs.calls kj15 a0 t178 _ A23.out).mono ?_); rintro e w' ⟨rfl, ⟨nd, rfl⟩⟩; refine ⟨_, rfl, ?_⟩)); go_ret; exact ⟨zG, zA HB.out⟩
def spec_l5Counts.l0 : Nat → List Int → List Int → Int → Option (List Int)
 | 0, _, _, _ => none
 | k + 1, x0, x3, x4 => if x4 < (x0.length : Int) then (if 0 ≤ x4 then ((spec_RuneLine.f k (rd x0 x4)).bind fun t183 => (if t183 = 7 then (if x4 > 0 then (if 0 ≤ (wrap64 (x4 - 1)) then (if (wrap64 (x4 - 1)) < (x3.length : Int) then (if (rd x3 (wrap64 (x4 - 1))) = 3 then (if x3.length < 17592186044416 then (spec_l5Counts.l0 k x0 (x3 ++ [1]) (wrap64 (x4 + 1))) else (none)) else (if (rd x3 (wrap64 (x4 - 1))) = 4 then (if x3.length < 17592186044416 then (spec_l5Counts.l0 k x0 (x3 ++ [1]) (wrap64 (x4 + 1))) else (none)) else (if (rd x3 (wrap64 (x4 - 1))) = 6 then (if x3.length < 17592186044416 then (spec_l5Counts.l0 k x0 (x3 ++ [1]) (wrap64 (x4 + 1))) else (none)) else (if x3.length < 17592186044416 then (spec_l5Counts.l0 k x0 (x3 ++ [rd x3 (wrap64 (x4 - 1))]) (wrap64 (x4 + 1))) else (none))))) else (none)) else (none)) else (if x3.length < 17592186044416 then (spec_l5Counts.l0 k x0 (x3 ++ [1]) (wrap64 (x4 + 1))) else (none))) else (if x3.length < 17592186044416 then (spec_l5Counts.l0 k x0 (x3 ++ [t183]) (wrap64 (x4 + 1))) else (none)))) else (none)) else (some x3)
def spec_l5Counts.f (k : Nat) (l0 : List Int) : Option (List Int) := spec_l5Counts.l0 k l0 (([] : List Int)) 0
theorem spec_l5Counts.mono_l : ∀ k, (∀ y0 y1 y2, LeO (spec_l5Counts.l0 k y0 y1 y2) (spec_l5Counts.l0 (k + 1) y0 y1 y2))
 | 0 => fun _ _ _ r h => by simp [spec_l5Counts.l0] at h
 | k + 1 => by
  have ih0 := spec_l5Counts.mono_l k
  ·
   intro y0 y1 y2; unfold spec_l5Counts.l0
   repeat' first
   | (with_reducible exact ih0 _ _ _)
   | (with_reducible exact spec_RuneLine.mono _ _)
   | (with_reducible exact LeO.refl _)
   | (with_reducible exact LeO.none _)
   | (with_reducible refine LeO.ite ?_ ?_)
   | (with_reducible refine LeO.bind ?_ (fun _ => ?_))
   | exact ih0 _ _ _
   | exact spec_RuneLine.mono _ _
   | exact LeO.none _
   | refine LeO.ite ?_ ?_
   | refine LeO.bind ?_ (fun _ => ?_)
theorem spec_l5Counts.mono : ∀ a0 k, LeO (spec_l5Counts.f k a0) (spec_l5Counts.f (k + 1) a0) := by
 intro a0 k; have ih0 := spec_l5Counts.mono_l k; unfold spec_l5Counts.f
 repeat' first
   | (with_reducible exact ih0 _ _ _)
   | (with_reducible exact spec_RuneLine.mono _ _)
   | (with_reducible exact LeO.refl _)
   | (with_reducible exact LeO.none _)
   | (with_reducible refine LeO.ite ?_ ?_)
   | (with_reducible refine LeO.bind ?_ (fun _ => ?_))
   | exact ih0 _ _ _
   | exact spec_RuneLine.mono _ _
   | exact LeO.none _
   | refine LeO.ite ?_ ?_
   | refine LeO.bind ?_ (fun _ => ?_)
theorem spec_l5Counts.calls (k : Nat) (A0 : Option Addr) (c0 : Nat) (l0 : List Int) (r : List Int) (w : World) (hr0 : Kd.C (Kd.int .i64) w A0 l0.length l0) (hc0 : l0.length ≤ c0) (h : spec_l5Counts.f k l0 = some r) :
  Calls Tryz.prog 123 #[.slice A0 l0.length c0] w fun e w' => ∃ v0_ : Value, e = .returned (v0_) ∧ Kd.R (Kd.int .i64) 3 w' w.heap.size (fun _ => True) v0_ r ∧ Below w.heap.size w w' := by
 have HR0 := az hr0; have HC0 := az hc0; clear hr0 hc0; have HB := az (Below.refl w.heap.size w); have H : (spec_l5Counts.l0 k l0 (([] : List Int)) 0) = some r := h; clear h; obtain ⟨y179, hy179⟩ : ∃ y_ : List Int, y_ = (([] : List Int)) := ⟨_, rfl⟩; replace H : (spec_l5Counts.l0 k l0 y179 0) = some r := by first | (rw [hy179]; with_reducible exact H) | (have H2_ := (Option.bind_some _ _).symm.trans H; rw [hy179]; with_reducible exact H2_) | (have H2_ := (Option.bind_some _ _).symm.trans H; with_reducible exact H2_) | with_reducible exact H | (rw [hy179]; exact H) | exact H
 have Ny179 := az hy179; clear hy179; have H' := az H; clear H; go_enter Tryz.func123, Tryz.ntmps123; go_wp2_with (first | ((with_reducible refine gate_dst (N := 6) rfl ?_); refine Kd.R_lit (Kd.int .i64) _ 3 ?hg (N := 6) ?hd (xs := ([] : List Int)) (inner := []) (ok := fun _ => True) (okp := fun _ => True) ?hr ?hp (fun _ hk => hk) trivial (Below.refl _ _) (Nat.le_refl _) (by simp) ?_; (case hd => rfl); (case hg => rfl); (case hr => first | (go_simp; done) | (go_simp; rfl)); (case hp => exact (Reps.none _ _)); intro v180 w2 ho3 hb hg_ hnew_; clear hg_ hnew_; (first | rw [← Ny179.out] at ho3 | (simp only [Int.reduceToNat] at ho3; rw [← Ny179.out] at ho3)); have n0_ := az (Kd.R_lower ho3 (below_size (zA HB.out))); have n1_ := az (below_step (zA HB.out) hb); clear HB; have HO181 := n0_; have HB := n1_; clear n0_ n1_; clear hb ho3)); go_loopg [3, 4] k (fun kq v3 v4 w' => ∃ (x3_1 : List Int) (x4_1 : Int), v4 = .int .i64 x4_1 ∧ Aside0 (spec_l5Counts.l0 kq l0 x3_1 x4_1 = some r) ∧ Aside0 (kq ≤ k) ∧ Aside0 (Kd.R (Kd.int .i64) 3 w' w.heap.size (fun _ => True) v3 x3_1) ∧ Aside0 (Below w.heap.size w w'))
 case atStart => exact ⟨(y179), (0), zB, H', ⟨Nat.le_refl _⟩, ⟨zF HO181.out⟩, ⟨zA HB.out⟩⟩
 case round =>
  clear H'; (try clear c1); (try clear p2); obtain ⟨x3_1, x4_1, rfl, HA, HK1, HO_3, HB⟩ := hrel
  cases gk with
  | zero => exact absurd HA.out (by simp [spec_l5Counts.l0])
  | succ k1 =>
   have H := HA.out; clear HA; simp only [spec_l5Counts.l0] at H; by_cases c4 : x4_1 < (l0.length : Int)
   ·
    rw [if_pos c4] at H; have c4b0 : decide (x4_1 < (l0.length : Int)) = true := decide_eq_true c4; clear c4; by_cases c5 : 0 ≤ x4_1
    ·
     rw [if_pos c5] at H; have c5b0 : decide (0 ≤ x4_1) = true := decide_eq_true c5; clear c5; replace H := Option.bind_eq_some_iff.mp H; obtain ⟨t183, A60, H⟩ := H; replace H : (if t183 = 7 then (if x4_1 > 0 then (if 0 ≤ (wrap64 (x4_1 - 1)) then (if (wrap64 (x4_1 - 1)) < (x3_1.length : Int) then (if (rd x3_1 (wrap64 (x4_1 - 1))) = 3 then (if x3_1.length < 17592186044416 then (spec_l5Counts.l0 k1 l0 (x3_1 ++ [1]) (wrap64 (x4_1 + 1))) else (none)) else (if (rd x3_1 (wrap64 (x4_1 - 1))) = 4 then (if x3_1.length < 17592186044416 then (spec_l5Counts.l0 k1 l0 (x3_1 ++ [1]) (wrap64 (x4_1 + 1))) else (none)) else (if (rd x3_1 (wrap64 (x4_1 - 1))) = 6 then (if x3_1.length < 17592186044416 then (spec_l5Counts.l0 k1 l0 (x3_1 ++ [1]) (wrap64 (x4_1 + 1))) else (none)) else (if x3_1.length < 17592186044416 then (spec_l5Counts.l0 k1 l0 (x3_1 ++ [rd x3_1 (wrap64 (x4_1 - 1))]) (wrap64 (x4_1 + 1))) else (none))))) else (none)) else (none)) else (if x3_1.length < 17592186044416 then (spec_l5Counts.l0 k1 l0 (x3_1 ++ [1]) (wrap64 (x4_1 + 1))) else (none))) else (if x3_1.length < 17592186044416 then (spec_l5Counts.l0 k1 l0 (x3_1 ++ [t183]) (wrap64 (x4_1 + 1))) else (none))) = some r := H; have A6 := az A60; clear A60; by_cases c7 : t183 = 7
     ·
      rw [if_pos c7] at H; have c7b0 : (t183 == 7) = true := beq_iff_eq.mpr c7; have c7b1 : (t183 != 7) = false := bne_eq_false_iff_eq.mpr c7; clear c7; by_cases c8 : x4_1 > 0
      ·
       rw [if_pos c8] at H; have c8b0 : decide (0 < x4_1) = true := decide_eq_true c8; clear c8; obtain ⟨ji9, hji9⟩ : ∃ j_ : Int, (wrap64 (x4_1 - 1)) = j_ := ⟨_, rfl⟩; replace H : (if 0 ≤ (ji9) then (if (ji9) < (x3_1.length : Int) then (if (rd x3_1 (ji9)) = 3 then (if x3_1.length < 17592186044416 then (spec_l5Counts.l0 k1 l0 (x3_1 ++ [1]) (wrap64 (x4_1 + 1))) else (none)) else (if (rd x3_1 (ji9)) = 4 then (if x3_1.length < 17592186044416 then (spec_l5Counts.l0 k1 l0 (x3_1 ++ [1]) (wrap64 (x4_1 + 1))) else (none)) else (if (rd x3_1 (ji9)) = 6 then (if x3_1.length < 17592186044416 then (spec_l5Counts.l0 k1 l0 (x3_1 ++ [1]) (wrap64 (x4_1 + 1))) else (none)) else (if x3_1.length < 17592186044416 then (spec_l5Counts.l0 k1 l0 (x3_1 ++ [rd x3_1 (ji9)]) (wrap64 (x4_1 + 1))) else (none))))) else (none)) else (none)) = some r := by first | (rw [hji9] at H; exact H) | (simp only [hji9] at H ⊢; exact H)
       (try rw [hji9] at A6); have hji9w : (IntKind.i64.wrap (x4_1 - 1)) = ji9 := (i64_w _).trans hji9; by_cases c10 : 0 ≤ (ji9)
       ·
        rw [if_pos c10] at H; have c10b0 : decide (0 ≤ (ji9)) = true := decide_eq_true c10; clear c10; by_cases c11 : (ji9) < (x3_1.length : Int)
        ·
         rw [if_pos c11] at H; have c11b0 : decide ((ji9) < (x3_1.length : Int)) = true := decide_eq_true c11; clear c11; by_cases c12 : (rd x3_1 (ji9)) = 3
         ·
          rw [if_pos c12] at H; have c12b0 : ((rd x3_1 (ji9)) == 3) = true := beq_iff_eq.mpr c12; have c12b1 : ((rd x3_1 (ji9)) != 3) = false := bne_eq_false_iff_eq.mpr c12; clear c12; by_cases c13 : x3_1.length < 17592186044416
          ·
           rw [if_pos c13] at H; have LMc13 := az c13; clear c13; obtain ⟨y185, hy185⟩ : ∃ y_ : List Int, y_ = (x3_1 ++ [1]) := ⟨_, rfl⟩; replace H : (spec_l5Counts.l0 k1 l0 y185 (wrap64 (x4_1 + 1))) = some r := by first | (rw [hy185]; with_reducible exact H) | (have H2_ := (Option.bind_some _ _).symm.trans H; rw [hy185]; with_reducible exact H2_) | (have H2_ := (Option.bind_some _ _).symm.trans H; with_reducible exact H2_) | with_reducible exact H | (rw [hy185]; exact H) | exact H
           have Ny185 := az hy185; clear hy185; have H' := az H; clear H; have p182 : 0 ≤ (x4_1 : Int) := of_decide_eq_true (by assumption); have q182 : x4_1 < (l0.length : Int) := of_decide_eq_true (by assumption); obtain ⟨ad182, e182, hx182_0⟩ := Kd.at_int HR0.out x4_1 p182 q182
           cases e182
           replace hx182_0 := (HB.out.cell (World.block_lt_of_cell? w _ hx182_0)).trans hx182_0; replace p182 := eq_true p182; replace q182 := eq_true q182; go_wp2_with (first | ((with_reducible refine gate_callee (f := 125) rfl ?_); refine goesL_ (some 17) rfl rfl Tryz.func125 (by kernel_rfl) rfl #[.int .i64 (rd l0 x4_1)] rfl zC ?_; (with_reducible refine (spec_RuneLine.calls k1 (rd l0 x4_1) t183 _ A6.out).mono ?_); rintro e w14 ⟨rfl, hb⟩; refine ⟨_, rfl, ?_⟩; have n0_ := az (Kd.R_below (zF HO_3.out) hb); have n1_ := az (below_step (zA HB.out) hb); clear HO_3; clear HB; have HO_3 := n0_; have HB := n1_; clear n0_ n1_; (try clear hb); (try clear hb2); (try clear hk); (try clear hi); obtain ⟨Ao15, co15, eo15⟩ := Kd.R_slice HO_3.out; subst eo15; have p184 : 0 ≤ ((ji9) : Int) := of_decide_eq_true (by assumption); have q184 : (ji9) < (x3_1.length : Int) := of_decide_eq_true (by assumption); obtain ⟨ad184, e184, hx184_0⟩ := Kd.at_int (Kd.R_reads' HO_3.out).2.2 (ji9) p184 q184; cases e184; replace p184 := eq_true p184; replace q184 := eq_true q184) | ((with_reducible refine gate_builtin (b := .append) (xs := #[.tmp 51, .tmp 53]) rfl ?_); at_builtin; refine Kd.R_append (Kd.int .i64) (w0 := w) w.heap.size rfl (.tmp 51) (.tmp 53) 22 3 (.int .i64 0) 8 rfl Tryz.underlying22 info3 rfl (by decide) (by omega) (.slice (some ad184) x3_1.length co15) x3_1 1 [.int .i64 1] (fun _ => True) (fun _ => False) rfl rfl ?aP (fun _ hk => hk.elim) ?aF ?aO ?aB ?aS ?aL ?_; (case aP => exact rfl); (case aB => exact (zA HB.out)); (case aF => exact (fun _ _ => trivial)); (case aO => exact (zF HO_3.out)); (case aS => exact (below_size (zA HB.out))); (case aL => have := LMc13.out; omega); intro v186 w16 ho hb hg hat; rw [← Ny185.out] at ho; have n0_ := az (hb); have n1_ := az (ho); clear HB; clear HO_3; have HB := n0_; have HO187 := n1_; clear n0_ n1_; clear ho hb hg hat)); go_roundg k1
           case measure => have := HK1.out; omega
           case rel => exact ⟨(y185), (wrap64 (x4_1 + 1)), zB, H', ⟨zE HK1.out⟩, ⟨zF HO187.out⟩, ⟨zA HB.out⟩⟩
          ·
           rw [if_neg c13] at H; exact absurd H (by simp)
         ·
          rw [if_neg c12] at H; have c12b0 : ((rd x3_1 (ji9)) == 3) = false := beq_eq_false_iff_ne.mpr c12; have c12b1 : ((rd x3_1 (ji9)) != 3) = true := bne_iff_ne.mpr c12; by_cases c17 : (rd x3_1 (ji9)) = 4
          ·
           rw [if_pos c17] at H; have c17b0 : ((rd x3_1 (ji9)) == 4) = true := beq_iff_eq.mpr c17; have c17b1 : ((rd x3_1 (ji9)) != 4) = false := bne_eq_false_iff_eq.mpr c17; clear c17; by_cases c18 : x3_1.length < 17592186044416
           ·
            rw [if_pos c18] at H; have LMc18 := az c18; clear c18; obtain ⟨y189, hy189⟩ : ∃ y_ : List Int, y_ = (x3_1 ++ [1]) := ⟨_, rfl⟩; replace H : (spec_l5Counts.l0 k1 l0 y189 (wrap64 (x4_1 + 1))) = some r := by first | (rw [hy189]; with_reducible exact H) | (have H2_ := (Option.bind_some _ _).symm.trans H; rw [hy189]; with_reducible exact H2_) | (have H2_ := (Option.bind_some _ _).symm.trans H; with_reducible exact H2_) | with_reducible exact H | (rw [hy189]; exact H) | exact H
            have Ny189 := az hy189; clear hy189; have H' := az H; clear H; have p182 : 0 ≤ (x4_1 : Int) := of_decide_eq_true (by assumption); have q182 : x4_1 < (l0.length : Int) := of_decide_eq_true (by assumption); obtain ⟨ad182, e182, hx182_0⟩ := Kd.at_int HR0.out x4_1 p182 q182
            cases e182
            replace hx182_0 := (HB.out.cell (World.block_lt_of_cell? w _ hx182_0)).trans hx182_0; replace p182 := eq_true p182; replace q182 := eq_true q182; go_wp2_with (first | ((with_reducible refine gate_callee (f := 125) rfl ?_); refine goesL_ (some 17) rfl rfl Tryz.func125 (by kernel_rfl) rfl #[.int .i64 (rd l0 x4_1)] rfl zC ?_; (with_reducible refine (spec_RuneLine.calls k1 (rd l0 x4_1) t183 _ A6.out).mono ?_); rintro e w19 ⟨rfl, hb⟩; refine ⟨_, rfl, ?_⟩; have n0_ := az (Kd.R_below (zF HO_3.out) hb); have n1_ := az (below_step (zA HB.out) hb); clear HO_3; clear HB; have HO_3 := n0_; have HB := n1_; clear n0_ n1_; (try clear hb); (try clear hb2); (try clear hk); (try clear hi); obtain ⟨Ao20, co20, eo20⟩ := Kd.R_slice HO_3.out; subst eo20; have p184 : 0 ≤ ((ji9) : Int) := of_decide_eq_true (by assumption); have q184 : (ji9) < (x3_1.length : Int) := of_decide_eq_true (by assumption); obtain ⟨ad184, e184, hx184_0⟩ := Kd.at_int (Kd.R_reads' HO_3.out).2.2 (ji9) p184 q184; cases e184; replace p184 := eq_true p184; replace q184 := eq_true q184; have p188 : 0 ≤ ((ji9) : Int) := of_decide_eq_true (by assumption); have q188 : (ji9) < (x3_1.length : Int) := of_decide_eq_true (by assumption); obtain ⟨ad188, e188, hx188_0⟩ := Kd.at_int (Kd.R_reads' HO_3.out).2.2 (ji9) p188 q188; obtain rfl : ad184 = ad188 := (by injection e188); replace p188 := eq_true p188; replace q188 := eq_true q188) | ((with_reducible refine gate_builtin (b := .append) (xs := #[.tmp 51, .tmp 53]) rfl ?_); at_builtin; refine Kd.R_append (Kd.int .i64) (w0 := w) w.heap.size rfl (.tmp 51) (.tmp 53) 22 3 (.int .i64 0) 8 rfl Tryz.underlying22 info3 rfl (by decide) (by omega) (.slice (some ad184) x3_1.length co20) x3_1 1 [.int .i64 1] (fun _ => True) (fun _ => False) rfl rfl ?aP (fun _ hk => hk.elim) ?aF ?aO ?aB ?aS ?aL ?_; (case aP => exact rfl); (case aB => exact (zA HB.out)); (case aF => exact (fun _ _ => trivial)); (case aO => exact (zF HO_3.out)); (case aS => exact (below_size (zA HB.out))); (case aL => have := LMc18.out; omega); intro v190 w21 ho hb hg hat; rw [← Ny189.out] at ho; have n0_ := az (hb); have n1_ := az (ho); clear HB; clear HO_3; have HB := n0_; have HO191 := n1_; clear n0_ n1_; clear ho hb hg hat)); go_roundg k1
            case measure => have := HK1.out; omega
            case rel => exact ⟨(y189), (wrap64 (x4_1 + 1)), zB, H', ⟨zE HK1.out⟩, ⟨zF HO191.out⟩, ⟨zA HB.out⟩⟩
           ·
            rw [if_neg c18] at H; exact absurd H (by simp)
          ·
           rw [if_neg c17] at H; have c17b0 : ((rd x3_1 (ji9)) == 4) = false := beq_eq_false_iff_ne.mpr c17; have c17b1 : ((rd x3_1 (ji9)) != 4) = true := bne_iff_ne.mpr c17; by_cases c22 : (rd x3_1 (ji9)) = 6
           ·
            rw [if_pos c22] at H; have c22b0 : ((rd x3_1 (ji9)) == 6) = true := beq_iff_eq.mpr c22; have c22b1 : ((rd x3_1 (ji9)) != 6) = false := bne_eq_false_iff_eq.mpr c22; clear c22; by_cases c23 : x3_1.length < 17592186044416
            ·
             rw [if_pos c23] at H; have LMc23 := az c23; clear c23; obtain ⟨y193, hy193⟩ : ∃ y_ : List Int, y_ = (x3_1 ++ [1]) := ⟨_, rfl⟩; replace H : (spec_l5Counts.l0 k1 l0 y193 (wrap64 (x4_1 + 1))) = some r := by first | (rw [hy193]; with_reducible exact H) | (have H2_ := (Option.bind_some _ _).symm.trans H; rw [hy193]; with_reducible exact H2_) | (have H2_ := (Option.bind_some _ _).symm.trans H; with_reducible exact H2_) | with_reducible exact H | (rw [hy193]; exact H) | exact H
             have Ny193 := az hy193; clear hy193; have H' := az H; clear H; have p182 : 0 ≤ (x4_1 : Int) := of_decide_eq_true (by assumption); have q182 : x4_1 < (l0.length : Int) := of_decide_eq_true (by assumption); obtain ⟨ad182, e182, hx182_0⟩ := Kd.at_int HR0.out x4_1 p182 q182
             cases e182
             replace hx182_0 := (HB.out.cell (World.block_lt_of_cell? w _ hx182_0)).trans hx182_0; replace p182 := eq_true p182; replace q182 := eq_true q182; go_wp2_with (first | ((with_reducible refine gate_callee (f := 125) rfl ?_); refine goesL_ (some 17) rfl rfl Tryz.func125 (by kernel_rfl) rfl #[.int .i64 (rd l0 x4_1)] rfl zC ?_; (with_reducible refine (spec_RuneLine.calls k1 (rd l0 x4_1) t183 _ A6.out).mono ?_); rintro e w24 ⟨rfl, hb⟩; refine ⟨_, rfl, ?_⟩; have n0_ := az (Kd.R_below (zF HO_3.out) hb); have n1_ := az (below_step (zA HB.out) hb); clear HO_3; clear HB; have HO_3 := n0_; have HB := n1_; clear n0_ n1_; (try clear hb); (try clear hb2); (try clear hk); (try clear hi); obtain ⟨Ao25, co25, eo25⟩ := Kd.R_slice HO_3.out; subst eo25; have p184 : 0 ≤ ((ji9) : Int) := of_decide_eq_true (by assumption); have q184 : (ji9) < (x3_1.length : Int) := of_decide_eq_true (by assumption); obtain ⟨ad184, e184, hx184_0⟩ := Kd.at_int (Kd.R_reads' HO_3.out).2.2 (ji9) p184 q184; cases e184; replace p184 := eq_true p184; replace q184 := eq_true q184; have p188 : 0 ≤ ((ji9) : Int) := of_decide_eq_true (by assumption); have q188 : (ji9) < (x3_1.length : Int) := of_decide_eq_true (by assumption); obtain ⟨ad188, e188, hx188_0⟩ := Kd.at_int (Kd.R_reads' HO_3.out).2.2 (ji9) p188 q188; obtain rfl : ad184 = ad188 := (by injection e188); replace p188 := eq_true p188; replace q188 := eq_true q188; have p192 : 0 ≤ ((ji9) : Int) := of_decide_eq_true (by assumption); have q192 : (ji9) < (x3_1.length : Int) := of_decide_eq_true (by assumption); obtain ⟨ad192, e192, hx192_0⟩ := Kd.at_int (Kd.R_reads' HO_3.out).2.2 (ji9) p192 q192; obtain rfl : ad184 = ad192 := (by injection e192); replace p192 := eq_true p192; replace q192 := eq_true q192) | ((with_reducible refine gate_builtin (b := .append) (xs := #[.tmp 51, .tmp 53]) rfl ?_); at_builtin; refine Kd.R_append (Kd.int .i64) (w0 := w) w.heap.size rfl (.tmp 51) (.tmp 53) 22 3 (.int .i64 0) 8 rfl Tryz.underlying22 info3 rfl (by decide) (by omega) (.slice (some ad184) x3_1.length co25) x3_1 1 [.int .i64 1] (fun _ => True) (fun _ => False) rfl rfl ?aP (fun _ hk => hk.elim) ?aF ?aO ?aB ?aS ?aL ?_; (case aP => exact rfl); (case aB => exact (zA HB.out)); (case aF => exact (fun _ _ => trivial)); (case aO => exact (zF HO_3.out)); (case aS => exact (below_size (zA HB.out))); (case aL => have := LMc23.out; omega); intro v194 w26 ho hb hg hat; rw [← Ny193.out] at ho; have n0_ := az (hb); have n1_ := az (ho); clear HB; clear HO_3; have HB := n0_; have HO195 := n1_; clear n0_ n1_; clear ho hb hg hat)); go_roundg k1
             case measure => have := HK1.out; omega
             case rel => exact ⟨(y193), (wrap64 (x4_1 + 1)), zB, H', ⟨zE HK1.out⟩, ⟨zF HO195.out⟩, ⟨zA HB.out⟩⟩
            ·
             rw [if_neg c23] at H; exact absurd H (by simp)
           ·
            rw [if_neg c22] at H; have c22b0 : ((rd x3_1 (ji9)) == 6) = false := beq_eq_false_iff_ne.mpr c22; have c22b1 : ((rd x3_1 (ji9)) != 6) = true := bne_iff_ne.mpr c22; by_cases c27 : x3_1.length < 17592186044416
            ·
             rw [if_pos c27] at H; have LMc27 := az c27; clear c27; obtain ⟨y197, hy197⟩ : ∃ y_ : List Int, y_ = (x3_1 ++ [rd x3_1 (ji9)]) := ⟨_, rfl⟩; replace H : (spec_l5Counts.l0 k1 l0 y197 (wrap64 (x4_1 + 1))) = some r := by first | (rw [hy197]; with_reducible exact H) | (have H2_ := (Option.bind_some _ _).symm.trans H; rw [hy197]; with_reducible exact H2_) | (have H2_ := (Option.bind_some _ _).symm.trans H; with_reducible exact H2_) | with_reducible exact H | (rw [hy197]; exact H) | exact H
             have Ny197 := az hy197; clear hy197; have H' := az H; clear H; have p182 : 0 ≤ (x4_1 : Int) := of_decide_eq_true (by assumption); have q182 : x4_1 < (l0.length : Int) := of_decide_eq_true (by assumption); obtain ⟨ad182, e182, hx182_0⟩ := Kd.at_int HR0.out x4_1 p182 q182
             cases e182
             replace hx182_0 := (HB.out.cell (World.block_lt_of_cell? w _ hx182_0)).trans hx182_0; replace p182 := eq_true p182; replace q182 := eq_true q182; go_wp2_with (first | ((with_reducible refine gate_callee (f := 125) rfl ?_); refine goesL_ (some 17) rfl rfl Tryz.func125 (by kernel_rfl) rfl #[.int .i64 (rd l0 x4_1)] rfl zC ?_; (with_reducible refine (spec_RuneLine.calls k1 (rd l0 x4_1) t183 _ A6.out).mono ?_); rintro e w28 ⟨rfl, hb⟩; refine ⟨_, rfl, ?_⟩; have n0_ := az (Kd.R_below (zF HO_3.out) hb); have n1_ := az (below_step (zA HB.out) hb); clear HO_3; clear HB; have HO_3 := n0_; have HB := n1_; clear n0_ n1_; (try clear hb); (try clear hb2); (try clear hk); (try clear hi); obtain ⟨Ao29, co29, eo29⟩ := Kd.R_slice HO_3.out; subst eo29; have p184 : 0 ≤ ((ji9) : Int) := of_decide_eq_true (by assumption); have q184 : (ji9) < (x3_1.length : Int) := of_decide_eq_true (by assumption); obtain ⟨ad184, e184, hx184_0⟩ := Kd.at_int (Kd.R_reads' HO_3.out).2.2 (ji9) p184 q184; cases e184; replace p184 := eq_true p184; replace q184 := eq_true q184; have p188 : 0 ≤ ((ji9) : Int) := of_decide_eq_true (by assumption); have q188 : (ji9) < (x3_1.length : Int) := of_decide_eq_true (by assumption); obtain ⟨ad188, e188, hx188_0⟩ := Kd.at_int (Kd.R_reads' HO_3.out).2.2 (ji9) p188 q188; obtain rfl : ad184 = ad188 := (by injection e188); replace p188 := eq_true p188; replace q188 := eq_true q188; have p192 : 0 ≤ ((ji9) : Int) := of_decide_eq_true (by assumption); have q192 : (ji9) < (x3_1.length : Int) := of_decide_eq_true (by assumption); obtain ⟨ad192, e192, hx192_0⟩ := Kd.at_int (Kd.R_reads' HO_3.out).2.2 (ji9) p192 q192; obtain rfl : ad184 = ad192 := (by injection e192); replace p192 := eq_true p192; replace q192 := eq_true q192; have p196 : 0 ≤ ((ji9) : Int) := of_decide_eq_true (by assumption); have q196 : (ji9) < (x3_1.length : Int) := of_decide_eq_true (by assumption); obtain ⟨ad196, e196, hx196_0⟩ := Kd.at_int (Kd.R_reads' HO_3.out).2.2 (ji9) p196 q196; obtain rfl : ad184 = ad196 := (by injection e196); replace p196 := eq_true p196; replace q196 := eq_true q196) | ((with_reducible refine gate_builtin (b := .append) (xs := #[.tmp 51, .tmp 53]) rfl ?_); at_builtin; refine Kd.R_append (Kd.int .i64) (w0 := w) w.heap.size rfl (.tmp 51) (.tmp 53) 22 3 (.int .i64 0) 8 rfl Tryz.underlying22 info3 rfl (by decide) (by omega) (.slice (some ad184) x3_1.length co29) x3_1 (rd x3_1 (ji9)) [.int .i64 (rd x3_1 (ji9))] (fun _ => True) (fun _ => False) rfl rfl ?aP (fun _ hk => hk.elim) ?aF ?aO ?aB ?aS ?aL ?_; (case aP => exact rfl); (case aB => exact (zA HB.out)); (case aF => exact (fun _ _ => trivial)); (case aO => exact (zF HO_3.out)); (case aS => exact (below_size (zA HB.out))); (case aL => have := LMc27.out; omega); intro v198 w30 ho hb hg hat; rw [← Ny197.out] at ho; have n0_ := az (hb); have n1_ := az (ho); clear HB; clear HO_3; have HB := n0_; have HO199 := n1_; clear n0_ n1_; clear ho hb hg hat)); go_roundg k1
             case measure => have := HK1.out; omega
             case rel => exact ⟨(y197), (wrap64 (x4_1 + 1)), zB, H', ⟨zE HK1.out⟩, ⟨zF HO199.out⟩, ⟨zA HB.out⟩⟩
            ·
             rw [if_neg c27] at H; exact absurd H (by simp)
        ·
         rw [if_neg c11] at H; exact absurd H (by simp)
       ·
        rw [if_neg c10] at H; exact absurd H (by simp)
      ·
       rw [if_neg c8] at H; have c8b0 : decide (0 < x4_1) = false := decide_eq_false c8; clear c8; by_cases c31 : x3_1.length < 17592186044416
       ·
        rw [if_pos c31] at H; have LMc31 := az c31; clear c31; obtain ⟨y200, hy200⟩ : ∃ y_ : List Int, y_ = (x3_1 ++ [1]) := ⟨_, rfl⟩; replace H : (spec_l5Counts.l0 k1 l0 y200 (wrap64 (x4_1 + 1))) = some r := by first | (rw [hy200]; with_reducible exact H) | (have H2_ := (Option.bind_some _ _).symm.trans H; rw [hy200]; with_reducible exact H2_) | (have H2_ := (Option.bind_some _ _).symm.trans H; with_reducible exact H2_) | with_reducible exact H | (rw [hy200]; exact H) | exact H
        have Ny200 := az hy200; clear hy200; have H' := az H; clear H; have p182 : 0 ≤ (x4_1 : Int) := of_decide_eq_true (by assumption); have q182 : x4_1 < (l0.length : Int) := of_decide_eq_true (by assumption); obtain ⟨ad182, e182, hx182_0⟩ := Kd.at_int HR0.out x4_1 p182 q182
        cases e182
        replace hx182_0 := (HB.out.cell (World.block_lt_of_cell? w _ hx182_0)).trans hx182_0; replace p182 := eq_true p182; replace q182 := eq_true q182; go_wp2_with (first | ((with_reducible refine gate_callee (f := 125) rfl ?_); refine goesL_ (some 17) rfl rfl Tryz.func125 (by kernel_rfl) rfl #[.int .i64 (rd l0 x4_1)] rfl zC ?_; (with_reducible refine (spec_RuneLine.calls k1 (rd l0 x4_1) t183 _ A6.out).mono ?_); rintro e w32 ⟨rfl, hb⟩; refine ⟨_, rfl, ?_⟩; have n0_ := az (Kd.R_below (zF HO_3.out) hb); have n1_ := az (below_step (zA HB.out) hb); clear HO_3; clear HB; have HO_3 := n0_; have HB := n1_; clear n0_ n1_; (try clear hb); (try clear hb2); (try clear hk); (try clear hi)) | ((with_reducible refine gate_builtin (b := .append) (xs := #[.tmp 51, .tmp 53]) rfl ?_); at_builtin; refine Kd.R_append (Kd.int .i64) (w0 := w) w.heap.size rfl (.tmp 51) (.tmp 53) 22 3 (.int .i64 0) 8 rfl Tryz.underlying22 info3 rfl (by decide) (by omega) u3 x3_1 1 [.int .i64 1] (fun _ => True) (fun _ => False) rfl rfl ?aP (fun _ hk => hk.elim) ?aF ?aO ?aB ?aS ?aL ?_; (case aP => exact rfl); (case aB => exact (zA HB.out)); (case aF => exact (fun _ _ => trivial)); (case aO => exact (zF HO_3.out)); (case aS => exact (below_size (zA HB.out))); (case aL => have := LMc31.out; omega); intro v201 w33 ho hb hg hat; rw [← Ny200.out] at ho; have n0_ := az (hb); have n1_ := az (ho); clear HB; clear HO_3; have HB := n0_; have HO202 := n1_; clear n0_ n1_; clear ho hb hg hat)); go_roundg k1
        case measure => have := HK1.out; omega
        case rel => exact ⟨(y200), (wrap64 (x4_1 + 1)), zB, H', ⟨zE HK1.out⟩, ⟨zF HO202.out⟩, ⟨zA HB.out⟩⟩
       ·
        rw [if_neg c31] at H; exact absurd H (by simp)
     ·
      rw [if_neg c7] at H; have c7b0 : (t183 == 7) = false := beq_eq_false_iff_ne.mpr c7; have c7b1 : (t183 != 7) = true := bne_iff_ne.mpr c7; by_cases c34 : x3_1.length < 17592186044416
      ·
       rw [if_pos c34] at H; have LMc34 := az c34; clear c34; obtain ⟨y203, hy203⟩ : ∃ y_ : List Int, y_ = (x3_1 ++ [t183]) := ⟨_, rfl⟩; replace H : (spec_l5Counts.l0 k1 l0 y203 (wrap64 (x4_1 + 1))) = some r := by first | (rw [hy203]; with_reducible exact H) | (have H2_ := (Option.bind_some _ _).symm.trans H; rw [hy203]; with_reducible exact H2_) | (have H2_ := (Option.bind_some _ _).symm.trans H; with_reducible exact H2_) | with_reducible exact H | (rw [hy203]; exact H) | exact H
       have Ny203 := az hy203; clear hy203; have H' := az H; clear H; have p182 : 0 ≤ (x4_1 : Int) := of_decide_eq_true (by assumption); have q182 : x4_1 < (l0.length : Int) := of_decide_eq_true (by assumption); obtain ⟨ad182, e182, hx182_0⟩ := Kd.at_int HR0.out x4_1 p182 q182
       cases e182
       replace hx182_0 := (HB.out.cell (World.block_lt_of_cell? w _ hx182_0)).trans hx182_0; replace p182 := eq_true p182; replace q182 := eq_true q182; go_wp2_with (first | ((with_reducible refine gate_callee (f := 125) rfl ?_); refine goesL_ (some 17) rfl rfl Tryz.func125 (by kernel_rfl) rfl #[.int .i64 (rd l0 x4_1)] rfl zC ?_; (with_reducible refine (spec_RuneLine.calls k1 (rd l0 x4_1) t183 _ A6.out).mono ?_); rintro e w35 ⟨rfl, hb⟩; refine ⟨_, rfl, ?_⟩; have n0_ := az (Kd.R_below (zF HO_3.out) hb); have n1_ := az (below_step (zA HB.out) hb); clear HO_3; clear HB; have HO_3 := n0_; have HB := n1_; clear n0_ n1_; (try clear hb); (try clear hb2); (try clear hk); (try clear hi)) | ((with_reducible refine gate_builtin (b := .append) (xs := #[.tmp 51, .tmp 53]) rfl ?_); at_builtin; refine Kd.R_append (Kd.int .i64) (w0 := w) w.heap.size rfl (.tmp 51) (.tmp 53) 22 3 (.int .i64 0) 8 rfl Tryz.underlying22 info3 rfl (by decide) (by omega) u3 x3_1 t183 [.int .i64 t183] (fun _ => True) (fun _ => False) rfl rfl ?aP (fun _ hk => hk.elim) ?aF ?aO ?aB ?aS ?aL ?_; (case aP => exact rfl); (case aB => exact (zA HB.out)); (case aF => exact (fun _ _ => trivial)); (case aO => exact (zF HO_3.out)); (case aS => exact (below_size (zA HB.out))); (case aL => have := LMc34.out; omega); intro v204 w36 ho hb hg hat; rw [← Ny203.out] at ho; have n0_ := az (hb); have n1_ := az (ho); clear HB; clear HO_3; have HB := n0_; have HO205 := n1_; clear n0_ n1_; clear ho hb hg hat)); go_roundg k1
       case measure => have := HK1.out; omega
       case rel => exact ⟨(y203), (wrap64 (x4_1 + 1)), zB, H', ⟨zE HK1.out⟩, ⟨zF HO205.out⟩, ⟨zA HB.out⟩⟩
      ·
       rw [if_neg c34] at H; exact absurd H (by simp)
    ·
     rw [if_neg c5] at H; exact absurd H (by simp)
   ·
    rw [if_neg c4] at H; have c4b0 : decide (x4_1 < (l0.length : Int)) = false := decide_eq_false c4; clear c4; obtain rfl := Option.some.inj H; go_wp2; go_ret; exact ⟨_, zG, zF HO_3.out, zA HB.out⟩
def spec_l5Before.l0 : Nat → List Int → Int → Option (Int)
 | 0, _, _ => none
 | k + 1, x0, x1 => if x1 ≥ 0 then (if 0 ≤ x1 then (if x1 < (x0.length : Int) then (if (rd x0 x1) = 3 then (spec_l5Before.l0 k x0 (wrap64 (x1 - 1))) else (some x1)) else (none)) else (none)) else (some x1)
def spec_l5Before.f (k : Nat) (l0 : List Int) (a1 : Int) : Option (Int) := spec_l5Before.l0 k l0 a1
theorem spec_l5Before.mono_l : ∀ k, (∀ y0 y1, LeO (spec_l5Before.l0 k y0 y1) (spec_l5Before.l0 (k + 1) y0 y1))
 | 0 => fun _ _ r h => by simp [spec_l5Before.l0] at h
 | k + 1 => by
  have ih0 := spec_l5Before.mono_l k
  ·
   intro y0 y1; unfold spec_l5Before.l0
   repeat' first
   | (with_reducible exact ih0 _ _)
   | (with_reducible exact LeO.refl _)
   | (with_reducible exact LeO.none _)
   | (with_reducible refine LeO.ite ?_ ?_)
   | (with_reducible refine LeO.bind ?_ (fun _ => ?_))
   | exact ih0 _ _
   | exact LeO.none _
   | refine LeO.ite ?_ ?_
   | refine LeO.bind ?_ (fun _ => ?_)
theorem spec_l5Before.mono : ∀ a0 a1 k, LeO (spec_l5Before.f k a0 a1) (spec_l5Before.f (k + 1) a0 a1) := by
 intro a0 a1 k; have ih0 := spec_l5Before.mono_l k; unfold spec_l5Before.f
 repeat' first
   | (with_reducible exact ih0 _ _)
   | (with_reducible exact LeO.refl _)
   | (with_reducible exact LeO.none _)
   | (with_reducible refine LeO.ite ?_ ?_)
   | (with_reducible refine LeO.bind ?_ (fun _ => ?_))
   | exact ih0 _ _
   | exact LeO.none _
   | refine LeO.ite ?_ ?_
   | refine LeO.bind ?_ (fun _ => ?_)
theorem spec_l5Before.calls (k : Nat) (A0 : Option Addr) (c0 : Nat) (l0 : List Int) (a1 : Int) (r : Int) (w : World) (hr0 : Kd.C (Kd.int .i64) w A0 l0.length l0) (hc0 : l0.length ≤ c0) (h : spec_l5Before.f k l0 a1 = some r) :
  Calls Tryz.prog 126 #[.slice A0 l0.length c0, .int .i64 a1] w fun e w' => e = .returned (.int .i64 r) ∧ Drawn0 w w' := by
 have HR0 := az hr0; have HC0 := az hc0; clear hr0 hc0; have H : (spec_l5Before.l0 k l0 a1) = some r := h; clear h; have H' := az H; clear H; go_enter Tryz.func126, Tryz.ntmps126; go_wp2; go_loopg [1] k (fun kq v1 w' => ∃ (x1_1 : Int), v1 = .int .i64 x1_1 ∧ Aside0 (spec_l5Before.l0 kq l0 x1_1 = some r) ∧ Aside0 (kq ≤ k) ∧ Drawn0 w w')
 case atStart => exact ⟨(a1), zB, H', ⟨Nat.le_refl _⟩, zD⟩
 case round =>
  clear H'; (try clear c1); (try clear p2); obtain ⟨x1_1, rfl, HA, HK1, ⟨m1, rfl⟩⟩ := hrel
  cases gk with
  | zero => exact absurd HA.out (by simp [spec_l5Before.l0])
  | succ k1 =>
   have H := HA.out; clear HA; simp only [spec_l5Before.l0] at H; by_cases c3 : x1_1 ≥ 0
   ·
    rw [if_pos c3] at H; have c3b0 : decide (0 ≤ x1_1) = true := decide_eq_true c3; clear c3; by_cases c4 : 0 ≤ x1_1
    ·
     rw [if_pos c4] at H; have c4b0 : decide (0 ≤ x1_1) = true := decide_eq_true c4; clear c4; by_cases c5 : x1_1 < (l0.length : Int)
     ·
      rw [if_pos c5] at H; have c5b0 : decide (x1_1 < (l0.length : Int)) = true := decide_eq_true c5; clear c5; by_cases c6 : (rd l0 x1_1) = 3
      ·
       rw [if_pos c6] at H; have c6b0 : ((rd l0 x1_1) == 3) = true := beq_iff_eq.mpr c6; have c6b1 : ((rd l0 x1_1) != 3) = false := bne_eq_false_iff_eq.mpr c6; clear c6; have H' := az H; clear H; have p206 : 0 ≤ (x1_1 : Int) := of_decide_eq_true (by assumption); have q206 : x1_1 < (l0.length : Int) := of_decide_eq_true (by assumption); obtain ⟨ad206, e206, hx206_0⟩ := Kd.at_int HR0.out x1_1 p206 q206
       cases e206
       replace p206 := eq_true p206; replace q206 := eq_true q206; go_wp2; go_roundg k1
       case measure => have := HK1.out; omega
       case rel => exact ⟨(wrap64 (x1_1 - 1)), zB, H', ⟨zE HK1.out⟩, zD⟩
      ·
       rw [if_neg c6] at H; have c6b0 : ((rd l0 x1_1) == 3) = false := beq_eq_false_iff_ne.mpr c6; have c6b1 : ((rd l0 x1_1) != 3) = true := bne_iff_ne.mpr c6; obtain rfl := Option.some.inj H; have p206 : 0 ≤ (x1_1 : Int) := of_decide_eq_true (by assumption); have q206 : x1_1 < (l0.length : Int) := of_decide_eq_true (by assumption); obtain ⟨ad206, e206, hx206_0⟩ := Kd.at_int HR0.out x1_1 p206 q206
       cases e206
       replace p206 := eq_true p206; replace q206 := eq_true q206; go_wp2; go_ret; exact ⟨zB, zD⟩
     ·
      rw [if_neg c5] at H; exact absurd H (by simp)
    ·
     rw [if_neg c4] at H; exact absurd H (by simp)
   ·
    rw [if_neg c3] at H; have c3b0 : decide (0 ≤ x1_1) = false := decide_eq_false c3; clear c3; obtain rfl := Option.some.inj H; go_wp2; go_ret; exact ⟨zB, zD⟩
def spec_l5Never.f (a0 : Int) : Option (Bool) := if a0 = 9 then (some true) else (if a0 = 10 then (some true) else (some (a0 == 13)))
theorem spec_l5Never.calls (a0 : Int) (r : Bool) (w : World) (h : spec_l5Never.f a0 = some r) :
  Calls Tryz.prog 140 #[.int .i64 a0] w fun e w' => e = .returned (.bool r) ∧ Drawn0 w w' := by
 have H : (if a0 = 9 then (some true) else (if a0 = 10 then (some true) else (some (a0 == 13)))) = some r := h
 clear h
 by_cases c2 : a0 = 9
 ·
  rw [if_pos c2] at H
  have c2b0 : (a0 == 9) = true := beq_iff_eq.mpr c2
  have c2b1 : (a0 != 9) = false := bne_eq_false_iff_eq.mpr c2
  clear c2
  obtain rfl := Option.some.inj H
  go_enter Tryz.func140, Tryz.ntmps140
  go_wp2
  go_ret
  exact ⟨zB, zD⟩
 ·
  rw [if_neg c2] at H
  have c2b0 : (a0 == 9) = false := beq_eq_false_iff_ne.mpr c2
  have c2b1 : (a0 != 9) = true := bne_iff_ne.mpr c2
  by_cases c3 : a0 = 10
  ·
   rw [if_pos c3] at H
   have c3b0 : (a0 == 10) = true := beq_iff_eq.mpr c3
   have c3b1 : (a0 != 10) = false := bne_eq_false_iff_eq.mpr c3
   clear c3
   obtain rfl := Option.some.inj H
   go_enter Tryz.func140, Tryz.ntmps140
   go_wp2
   go_ret
   exact ⟨zB, zD⟩
  ·
   rw [if_neg c3] at H
   have c3b0 : (a0 == 10) = false := beq_eq_false_iff_ne.mpr c3
   have c3b1 : (a0 != 10) = true := bne_iff_ne.mpr c3
   obtain rfl := Option.some.inj H
   go_enter Tryz.func140, Tryz.ntmps140
   go_wp2
   go_ret
   exact ⟨zB, zD⟩
def spec_l5Word.f (a0 : Int) : Option (Bool) := if a0 = 1 then (some true) else (some (a0 == 2))
theorem spec_l5Word.calls (a0 : Int) (r : Bool) (w : World) (h : spec_l5Word.f a0 = some r) :
  Calls Tryz.prog 145 #[.int .i64 a0] w fun e w' => e = .returned (.bool r) ∧ Drawn0 w w' := by
 have H : (if a0 = 1 then (some true) else (some (a0 == 2))) = some r := h
 clear h
 by_cases c2 : a0 = 1
 ·
  rw [if_pos c2] at H
  have c2b0 : (a0 == 1) = true := beq_iff_eq.mpr c2
  have c2b1 : (a0 != 1) = false := bne_eq_false_iff_eq.mpr c2
  clear c2
  obtain rfl := Option.some.inj H
  go_enter Tryz.func145, Tryz.ntmps145
  go_wp2
  go_ret
  exact ⟨zB, zD⟩
 ·
  rw [if_neg c2] at H
  have c2b0 : (a0 == 1) = false := beq_eq_false_iff_ne.mpr c2
  have c2b1 : (a0 != 1) = true := bne_iff_ne.mpr c2
  obtain rfl := Option.some.inj H
  go_enter Tryz.func145, Tryz.ntmps145
  go_wp2
  go_ret
  exact ⟨zB, zD⟩
mutual
def spec_l5Inner.j0 : Nat → Int → Int → Bool → Option (Int)
 | 0, _, _, _ => none
 | k + 1, x0, x1, x5 => if x5 = true then (some 0) else (if x1 = 2 then (if x0 = 12 then (spec_l5Inner.j1 k x0 x1 true) else (spec_l5Inner.j1 k x0 x1 (x0 == 13))) else (spec_l5Inner.j1 k x0 x1 false))
def spec_l5Inner.j1 : Nat → Int → Int → Bool → Option (Int)
 | 0, _, _, _ => none
 | k + 1, x0, x1, x12 => if x12 = true then (some 0) else (if x0 = 13 then (spec_l5Inner.j2 k x0 x1 (x1 == 1)) else (spec_l5Inner.j2 k x0 x1 false))
def spec_l5Inner.j2 : Nat → Int → Int → Bool → Option (Int)
 | 0, _, _, _ => none
 | k + 1, x0, x1, x23 => if x23 = true then (some 0) else ((spec_l5Word.f x0).bind fun t209 => (if t209 = true then (if x1 = 8 then (some 0) else (if x0 = 9 then ((spec_l5Word.f x1).bind fun t210 => (if t210 = true then (some 0) else (some 1))) else (some 1))) else (if x0 = 9 then ((spec_l5Word.f x1).bind fun t211 => (if t211 = true then (some 0) else (some 1))) else (some 1))))
end
def spec_l5Inner.f (k : Nat) (a0 : Int) (a1 : Int) : Option (Int) := (spec_l5Word.f a0).bind fun t207 => (if t207 = true then ((spec_l5Word.f a1).bind fun t208 => (spec_l5Inner.j0 k a0 a1 t208)) else (spec_l5Inner.j0 k a0 a1 false))
theorem spec_l5Inner.mono_l : ∀ k, (∀ y0 y1 y2, LeO (spec_l5Inner.j0 k y0 y1 y2) (spec_l5Inner.j0 (k + 1) y0 y1 y2)) ∧ (∀ y0 y1 y2, LeO (spec_l5Inner.j1 k y0 y1 y2) (spec_l5Inner.j1 (k + 1) y0 y1 y2)) ∧ (∀ y0 y1 y2, LeO (spec_l5Inner.j2 k y0 y1 y2) (spec_l5Inner.j2 (k + 1) y0 y1 y2))
 | 0 => ⟨fun _ _ _ r h => by simp [spec_l5Inner.j0] at h, fun _ _ _ r h => by simp [spec_l5Inner.j1] at h, fun _ _ _ r h => by simp [spec_l5Inner.j2] at h⟩
 | k + 1 => by
  obtain ⟨ih0, ih1, ih2⟩ := spec_l5Inner.mono_l k; refine ⟨?_, ?_, ?_⟩
  ·
   intro y0 y1 y2; unfold spec_l5Inner.j0
   repeat' first
   | (with_reducible exact ih0 _ _ _)
   | (with_reducible exact ih1 _ _ _)
   | (with_reducible exact ih2 _ _ _)
   | (with_reducible exact LeO.refl _)
   | (with_reducible exact LeO.none _)
   | (with_reducible refine LeO.ite ?_ ?_)
   | (with_reducible refine LeO.bind ?_ (fun _ => ?_))
   | exact ih0 _ _ _
   | exact ih1 _ _ _
   | exact ih2 _ _ _
   | exact LeO.none _
   | refine LeO.ite ?_ ?_
   | refine LeO.bind ?_ (fun _ => ?_)
  ·
   intro y0 y1 y2; unfold spec_l5Inner.j1
   repeat' first
   | (with_reducible exact ih0 _ _ _)
   | (with_reducible exact ih1 _ _ _)
   | (with_reducible exact ih2 _ _ _)
   | (with_reducible exact LeO.refl _)
   | (with_reducible exact LeO.none _)
   | (with_reducible refine LeO.ite ?_ ?_)
   | (with_reducible refine LeO.bind ?_ (fun _ => ?_))
   | exact ih0 _ _ _
   | exact ih1 _ _ _
   | exact ih2 _ _ _
   | exact LeO.none _
   | refine LeO.ite ?_ ?_
   | refine LeO.bind ?_ (fun _ => ?_)
  ·
   intro y0 y1 y2; unfold spec_l5Inner.j2
   repeat' first
   | (with_reducible exact ih0 _ _ _)
   | (with_reducible exact ih1 _ _ _)
   | (with_reducible exact ih2 _ _ _)
   | (with_reducible exact LeO.refl _)
   | (with_reducible exact LeO.none _)
   | (with_reducible refine LeO.ite ?_ ?_)
   | (with_reducible refine LeO.bind ?_ (fun _ => ?_))
   | exact ih0 _ _ _
   | exact ih1 _ _ _
   | exact ih2 _ _ _
   | exact LeO.none _
   | refine LeO.ite ?_ ?_
   | refine LeO.bind ?_ (fun _ => ?_)
theorem spec_l5Inner.mono : ∀ a0 a1 k, LeO (spec_l5Inner.f k a0 a1) (spec_l5Inner.f (k + 1) a0 a1) := by
 intro a0 a1 k; obtain ⟨ih0, ih1, ih2⟩ := spec_l5Inner.mono_l k; unfold spec_l5Inner.f
 repeat' first
   | (with_reducible exact ih0 _ _ _)
   | (with_reducible exact ih1 _ _ _)
   | (with_reducible exact ih2 _ _ _)
   | (with_reducible exact LeO.refl _)
   | (with_reducible exact LeO.none _)
   | (with_reducible refine LeO.ite ?_ ?_)
   | (with_reducible refine LeO.bind ?_ (fun _ => ?_))
   | exact ih0 _ _ _
   | exact ih1 _ _ _
   | exact ih2 _ _ _
   | exact LeO.none _
   | refine LeO.ite ?_ ?_
   | refine LeO.bind ?_ (fun _ => ?_)
theorem spec_l5Inner.calls (k : Nat) (a0 : Int) (a1 : Int) (r : Int) (w : World) (h : spec_l5Inner.f k a0 a1 = some r) :
  Calls Tryz.prog 141 #[.int .i64 a0, .int .i64 a1] w fun e w' => e = .returned (.int .i64 r) ∧ Drawn0 w w' := by
 have H : ((spec_l5Word.f a0).bind fun t207 => (if t207 = true then ((spec_l5Word.f a1).bind fun t208 => (spec_l5Inner.j0 k a0 a1 t208)) else (spec_l5Inner.j0 k a0 a1 false))) = some r := h; clear h; have HC3 := az H; clear H; go_enter Tryz.func141, Tryz.ntmps141; go_upto_region 1 with (fail)
 go_cut [5] (fun v5 wc => ∃ (kq : Nat) (x5_2 : Bool), v5 = .bool x5_2 ∧ Aside0 (spec_l5Inner.j0 kq a0 a1 x5_2 = some r) ∧ Aside0 (kq ≤ k) ∧ Drawn0 w wc)
 case first =>
  have H := HC3.out; clear HC3; replace H := Option.bind_eq_some_iff.mp H; obtain ⟨t207, A40, H⟩ := H; replace H : (if t207 = true then ((spec_l5Word.f a1).bind fun t208 => (spec_l5Inner.j0 k a0 a1 t208)) else (spec_l5Inner.j0 k a0 a1 false)) = some r := H; have A4 := az A40; clear A40; by_cases c5 : t207 = true
  ·
   subst c5; have H1 : ((spec_l5Word.f a1).bind fun t208 => (spec_l5Inner.j0 k a0 a1 t208)) = some r := by rw [if_pos rfl] at H; exact H
   clear H; have H := H1; clear H1; replace H := Option.bind_eq_some_iff.mp H; obtain ⟨t208, A60, H⟩ := H; replace H : (spec_l5Inner.j0 k a0 a1 t208) = some r := H; have A6 := az A60; clear A60; have H' := az H; clear H; go_wp2_with (first | ((with_reducible refine gate_callee (f := 145) rfl ?_); refine goesL_ (some 7) rfl rfl Tryz.func145 (by kernel_rfl) rfl #[.int .i64 a0] rfl zC ?_; (with_reducible refine (spec_l5Word.calls a0 true _ A4.out).mono ?_); rintro e w' ⟨rfl, ⟨nd, rfl⟩⟩; refine ⟨_, rfl, ?_⟩) | (go_at_call 145; (with_reducible refine (spec_l5Word.calls a1 t208 _ A6.out).mono ?_); rintro e w' ⟨rfl, ⟨nd, rfl⟩⟩)); go_meet
   case rel => exact ⟨_, (t208), zB, H', ⟨zJ⟩, zD⟩
  ·
   replace c5 := Bool.eq_false_iff.mpr c5; subst c5; have H1 : (spec_l5Inner.j0 k a0 a1 false) = some r := by rw [if_neg (show ¬ (false = true) by decide)] at H; exact H
   clear H; have H := H1; clear H1; have H' := az H; clear H; go_wp2_with (first | ((with_reducible refine gate_callee (f := 145) rfl ?_); refine goesL_ (some 7) rfl rfl Tryz.func145 (by kernel_rfl) rfl #[.int .i64 a0] rfl zC ?_; (with_reducible refine (spec_l5Word.calls a0 false _ A4.out).mono ?_); rintro e w' ⟨rfl, ⟨nd, rfl⟩⟩; refine ⟨_, rfl, ?_⟩)); go_meet
   case rel => exact ⟨_, (false), zB, H', ⟨zJ⟩, zD⟩
 case rest =>
  clear HC3; (try clear c1); (try clear p2); (try clear c5); obtain ⟨kq, x5_2, rfl, HA, HJ2, ⟨mc2, rfl⟩⟩ := hcut
  cases kq with
  | zero => exact absurd HA.out (by simp [spec_l5Inner.j0])
  | succ kj2 =>
   have H := HA.out; clear HA; simp only [spec_l5Inner.j0] at H; by_cases c7 : x5_2 = true
   ·
    subst c7; have H1 : (some 0) = some r := by rw [if_pos rfl] at H; exact H
    clear H; have H := H1; clear H1; obtain rfl := Option.some.inj H; go_wp2; go_ret; exact ⟨zB, zD⟩
   ·
    replace c7 := Bool.eq_false_iff.mpr c7; subst c7; have H1 : (if a1 = 2 then (if a0 = 12 then (spec_l5Inner.j1 kj2 a0 a1 true) else (spec_l5Inner.j1 kj2 a0 a1 (a0 == 13))) else (spec_l5Inner.j1 kj2 a0 a1 false)) = some r := by rw [if_neg (show ¬ (false = true) by decide)] at H; exact H
    clear H; have H := H1; clear H1; have HC8 := az H; clear H; go_upto_region 3 with (fail)
    go_cut [12] (fun v12 wc => ∃ (kq : Nat) (x12_7 : Bool), v12 = .bool x12_7 ∧ Aside0 (spec_l5Inner.j1 kq a0 a1 x12_7 = some r) ∧ Aside0 (kq ≤ kj2) ∧ Drawn0 w wc)
    case first =>
     have H := HC8.out; clear HC8; by_cases c9 : a1 = 2
     ·
      rw [if_pos c9] at H; have c9b0 : (a1 == 2) = true := beq_iff_eq.mpr c9; have c9b1 : (a1 != 2) = false := bne_eq_false_iff_eq.mpr c9; clear c9; (first | rw [c9b0] | (simp only [i64_w, i32_w]; rw [c9b0]) | skip); by_cases c10 : a0 = 12
      ·
       rw [if_pos c10] at H; have c10b0 : (a0 == 12) = true := beq_iff_eq.mpr c10; have c10b1 : (a0 != 12) = false := bne_eq_false_iff_eq.mpr c10; clear c10; have H' := az H; clear H; go_wp2; go_meet
       case rel => exact ⟨_, (true), zB, H', ⟨zK HJ2.out⟩, zD⟩
      ·
       rw [if_neg c10] at H; have c10b0 : (a0 == 12) = false := beq_eq_false_iff_ne.mpr c10; have c10b1 : (a0 != 12) = true := bne_iff_ne.mpr c10; have H' := az H; clear H; go_wp2; go_meet
       case rel => exact ⟨_, ((a0 == 13)), zB, H', ⟨zK HJ2.out⟩, zD⟩
     ·
      rw [if_neg c9] at H; have c9b0 : (a1 == 2) = false := beq_eq_false_iff_ne.mpr c9; have c9b1 : (a1 != 2) = true := bne_iff_ne.mpr c9; (first | rw [c9b0] | (simp only [i64_w, i32_w]; rw [c9b0]) | skip); have H' := az H; clear H; go_wp2; go_meet
      case rel => exact ⟨_, (false), zB, H', ⟨zK HJ2.out⟩, zD⟩
    case rest =>
     clear HC8; (try clear c1); (try clear c2); (try clear p2); (try clear c5); (try clear c7); (try clear c9); (try clear c9b0); (try clear c9b1); (try clear c10); (try clear c10b0); (try clear c10b1); (try clear p2); obtain ⟨kq, x12_7, rfl, HA, HJ7, ⟨mc7, rfl⟩⟩ := hcut
     cases kq with
     | zero => exact absurd HA.out (by simp [spec_l5Inner.j1])
     | succ kj7 =>
      have H := HA.out; clear HA; simp only [spec_l5Inner.j1] at H; by_cases c11 : x12_7 = true
      ·
       subst c11; have H1 : (some 0) = some r := by rw [if_pos rfl] at H; exact H
       clear H; have H := H1; clear H1; obtain rfl := Option.some.inj H; go_wp2; go_ret; exact ⟨zB, zD⟩
      ·
       replace c11 := Bool.eq_false_iff.mpr c11; subst c11; have H1 : (if a0 = 13 then (spec_l5Inner.j2 kj7 a0 a1 (a1 == 1)) else (spec_l5Inner.j2 kj7 a0 a1 false)) = some r := by rw [if_neg (show ¬ (false = true) by decide)] at H; exact H
       clear H; have H := H1; clear H1; have HC12 := az H; clear H; go_upto_region 5 with (fail)
       go_cut [23] (fun v23 wc => ∃ (kq : Nat) (x23_11 : Bool), v23 = .bool x23_11 ∧ Aside0 (spec_l5Inner.j2 kq a0 a1 x23_11 = some r) ∧ Aside0 (kq ≤ kj7) ∧ Drawn0 w wc)
       case first =>
        have H := HC12.out; clear HC12; by_cases c13 : a0 = 13
        ·
         rw [if_pos c13] at H; have c13b0 : (a0 == 13) = true := beq_iff_eq.mpr c13; have c13b1 : (a0 != 13) = false := bne_eq_false_iff_eq.mpr c13; clear c13; (first | rw [c13b0] | (simp only [i64_w, i32_w]; rw [c13b0]) | skip); have H' := az H; clear H; go_wp2; go_meet
         case rel => exact ⟨_, ((a1 == 1)), zB, H', ⟨zM HJ2.out HJ7.out⟩, zD⟩
        ·
         rw [if_neg c13] at H; have c13b0 : (a0 == 13) = false := beq_eq_false_iff_ne.mpr c13; have c13b1 : (a0 != 13) = true := bne_iff_ne.mpr c13; (first | rw [c13b0] | (simp only [i64_w, i32_w]; rw [c13b0]) | skip); have H' := az H; clear H; go_wp2; go_meet
         case rel => exact ⟨_, (false), zB, H', ⟨zM HJ2.out HJ7.out⟩, zD⟩
       case rest =>
        clear HC12; (try clear c1); (try clear c2); (try clear p2); (try clear c5); (try clear c7); (try clear c9); (try clear c9b0); (try clear c9b1); (try clear c10); (try clear c10b0); (try clear c10b1); (try clear c11); (try clear c13); (try clear c13b0); (try clear c13b1); (try clear p2); obtain ⟨kq, x23_11, rfl, HA, HJ11, ⟨mc11, rfl⟩⟩ := hcut
        cases kq with
        | zero => exact absurd HA.out (by simp [spec_l5Inner.j2])
        | succ kj11 =>
         have H := HA.out; clear HA; simp only [spec_l5Inner.j2] at H; by_cases c14 : x23_11 = true
         ·
          subst c14; have H1 : (some 0) = some r := by rw [if_pos rfl] at H; exact H
          clear H; have H := H1; clear H1; obtain rfl := Option.some.inj H; go_wp2; go_ret; exact ⟨zB, zD⟩
         ·
          replace c14 := Bool.eq_false_iff.mpr c14; subst c14; have H1 : ((spec_l5Word.f a0).bind fun t209 => (if t209 = true then (if a1 = 8 then (some 0) else (if a0 = 9 then ((spec_l5Word.f a1).bind fun t210 => (if t210 = true then (some 0) else (some 1))) else (some 1))) else (if a0 = 9 then ((spec_l5Word.f a1).bind fun t211 => (if t211 = true then (some 0) else (some 1))) else (some 1)))) = some r := by rw [if_neg (show ¬ (false = true) by decide)] at H; exact H
          clear H; have H := H1; clear H1; replace H := Option.bind_eq_some_iff.mp H; obtain ⟨t209, A150, H⟩ := H; replace H : (if t209 = true then (if a1 = 8 then (some 0) else (if a0 = 9 then ((spec_l5Word.f a1).bind fun t210 => (if t210 = true then (some 0) else (some 1))) else (some 1))) else (if a0 = 9 then ((spec_l5Word.f a1).bind fun t211 => (if t211 = true then (some 0) else (some 1))) else (some 1))) = some r := H; have A15 := az A150; clear A150; by_cases c16 : t209 = true
          ·
           subst c16; have H1 : (if a1 = 8 then (some 0) else (if a0 = 9 then ((spec_l5Word.f a1).bind fun t210 => (if t210 = true then (some 0) else (some 1))) else (some 1))) = some r := by rw [if_pos rfl] at H; exact H
           clear H; have H := H1; clear H1; by_cases c17 : a1 = 8
           ·
            rw [if_pos c17] at H; have c17b0 : (a1 == 8) = true := beq_iff_eq.mpr c17; have c17b1 : (a1 != 8) = false := bne_eq_false_iff_eq.mpr c17; clear c17; obtain rfl := Option.some.inj H; go_wp2_with (first | ((with_reducible refine gate_callee (f := 145) rfl ?_); refine goesL_ (some 32) rfl rfl Tryz.func145 (by kernel_rfl) rfl #[.int .i64 a0] rfl zC ?_; (with_reducible refine (spec_l5Word.calls a0 true _ A15.out).mono ?_); rintro e w' ⟨rfl, ⟨nd, rfl⟩⟩; refine ⟨_, rfl, ?_⟩)); go_ret; exact ⟨zB, zD⟩
           ·
            rw [if_neg c17] at H; have c17b0 : (a1 == 8) = false := beq_eq_false_iff_ne.mpr c17; have c17b1 : (a1 != 8) = true := bne_iff_ne.mpr c17; by_cases c18 : a0 = 9
            ·
             rw [if_pos c18] at H; have c18b0 : (a0 == 9) = true := beq_iff_eq.mpr c18; have c18b1 : (a0 != 9) = false := bne_eq_false_iff_eq.mpr c18; clear c18; replace H := Option.bind_eq_some_iff.mp H; obtain ⟨t210, A190, H⟩ := H; replace H : (if t210 = true then (some 0) else (some 1)) = some r := H; have A19 := az A190; clear A190; by_cases c20 : t210 = true
             ·
              subst c20; have H1 : (some 0) = some r := by rw [if_pos rfl] at H; exact H
              clear H; have H := H1; clear H1; obtain rfl := Option.some.inj H; go_wp2_with (first | ((with_reducible refine gate_callee (f := 145) rfl ?_); refine goesL_ (some 32) rfl rfl Tryz.func145 (by kernel_rfl) rfl #[.int .i64 a0] rfl zC ?_; (with_reducible refine (spec_l5Word.calls a0 true _ A15.out).mono ?_); rintro e w' ⟨rfl, ⟨nd, rfl⟩⟩; refine ⟨_, rfl, ?_⟩) | (go_at_call 145; (with_reducible refine (spec_l5Word.calls a1 true _ A19.out).mono ?_); rintro e w' ⟨rfl, ⟨nd, rfl⟩⟩)); go_ret; exact ⟨zB, zD⟩
             ·
              replace c20 := Bool.eq_false_iff.mpr c20; subst c20; have H1 : (some 1) = some r := by rw [if_neg (show ¬ (false = true) by decide)] at H; exact H
              clear H; have H := H1; clear H1; obtain rfl := Option.some.inj H; go_wp2_with (first | ((with_reducible refine gate_callee (f := 145) rfl ?_); refine goesL_ (some 32) rfl rfl Tryz.func145 (by kernel_rfl) rfl #[.int .i64 a0] rfl zC ?_; (with_reducible refine (spec_l5Word.calls a0 true _ A15.out).mono ?_); rintro e w' ⟨rfl, ⟨nd, rfl⟩⟩; refine ⟨_, rfl, ?_⟩) | (go_at_call 145; (with_reducible refine (spec_l5Word.calls a1 false _ A19.out).mono ?_); rintro e w' ⟨rfl, ⟨nd, rfl⟩⟩)); go_ret; exact ⟨zB, zD⟩
            ·
             rw [if_neg c18] at H; have c18b0 : (a0 == 9) = false := beq_eq_false_iff_ne.mpr c18; have c18b1 : (a0 != 9) = true := bne_iff_ne.mpr c18; obtain rfl := Option.some.inj H; go_wp2_with (first | ((with_reducible refine gate_callee (f := 145) rfl ?_); refine goesL_ (some 32) rfl rfl Tryz.func145 (by kernel_rfl) rfl #[.int .i64 a0] rfl zC ?_; (with_reducible refine (spec_l5Word.calls a0 true _ A15.out).mono ?_); rintro e w' ⟨rfl, ⟨nd, rfl⟩⟩; refine ⟨_, rfl, ?_⟩)); go_ret; exact ⟨zB, zD⟩
          ·
           replace c16 := Bool.eq_false_iff.mpr c16; subst c16; have H1 : (if a0 = 9 then ((spec_l5Word.f a1).bind fun t211 => (if t211 = true then (some 0) else (some 1))) else (some 1)) = some r := by rw [if_neg (show ¬ (false = true) by decide)] at H; exact H
           clear H; have H := H1; clear H1; by_cases c21 : a0 = 9
           ·
            rw [if_pos c21] at H; have c21b0 : (a0 == 9) = true := beq_iff_eq.mpr c21; have c21b1 : (a0 != 9) = false := bne_eq_false_iff_eq.mpr c21; clear c21; replace H := Option.bind_eq_some_iff.mp H; obtain ⟨t211, A220, H⟩ := H; replace H : (if t211 = true then (some 0) else (some 1)) = some r := H; have A22 := az A220; clear A220; by_cases c23 : t211 = true
            ·
             subst c23; have H1 : (some 0) = some r := by rw [if_pos rfl] at H; exact H
             clear H; have H := H1; clear H1; obtain rfl := Option.some.inj H; go_wp2_with (first | ((with_reducible refine gate_callee (f := 145) rfl ?_); refine goesL_ (some 32) rfl rfl Tryz.func145 (by kernel_rfl) rfl #[.int .i64 a0] rfl zC ?_; (with_reducible refine (spec_l5Word.calls a0 false _ A15.out).mono ?_); rintro e w' ⟨rfl, ⟨nd, rfl⟩⟩; refine ⟨_, rfl, ?_⟩) | (go_at_call 145; (with_reducible refine (spec_l5Word.calls a1 true _ A22.out).mono ?_); rintro e w' ⟨rfl, ⟨nd, rfl⟩⟩)); go_ret; exact ⟨zB, zD⟩
            ·
             replace c23 := Bool.eq_false_iff.mpr c23; subst c23; have H1 : (some 1) = some r := by rw [if_neg (show ¬ (false = true) by decide)] at H; exact H
             clear H; have H := H1; clear H1; obtain rfl := Option.some.inj H; go_wp2_with (first | ((with_reducible refine gate_callee (f := 145) rfl ?_); refine goesL_ (some 32) rfl rfl Tryz.func145 (by kernel_rfl) rfl #[.int .i64 a0] rfl zC ?_; (with_reducible refine (spec_l5Word.calls a0 false _ A15.out).mono ?_); rintro e w' ⟨rfl, ⟨nd, rfl⟩⟩; refine ⟨_, rfl, ?_⟩) | (go_at_call 145; (with_reducible refine (spec_l5Word.calls a1 false _ A22.out).mono ?_); rintro e w' ⟨rfl, ⟨nd, rfl⟩⟩)); go_ret; exact ⟨zB, zD⟩
           ·
            rw [if_neg c21] at H; have c21b0 : (a0 == 9) = false := beq_eq_false_iff_ne.mpr c21; have c21b1 : (a0 != 9) = true := bne_iff_ne.mpr c21; obtain rfl := Option.some.inj H; go_wp2_with (first | ((with_reducible refine gate_callee (f := 145) rfl ?_); refine goesL_ (some 32) rfl rfl Tryz.func145 (by kernel_rfl) rfl #[.int .i64 a0] rfl zC ?_; (with_reducible refine (spec_l5Word.calls a0 false _ A15.out).mono ?_); rintro e w' ⟨rfl, ⟨nd, rfl⟩⟩; refine ⟨_, rfl, ?_⟩)); go_ret; exact ⟨zB, zD⟩
mutual
def spec_l5Place.j0 : Nat → Int → Int → Int → Bool → Option (Int)
 | 0, _, _, _, _ => none
 | k + 1, x0, x1, x2, x10 => if x10 = true then (some 0) else (if x2 = 6 then (some 1) else (if x0 = 5 then (spec_l5Place.j1 k x0 x1 x2 true) else (if x1 = 5 then (if x0 = 3 then (spec_l5Place.j1 k x0 x1 x2 false) else (if x0 = 14 then (spec_l5Place.j1 k x0 x1 x2 false) else (spec_l5Place.j1 k x0 x1 x2 (x0 != 12)))) else (spec_l5Place.j1 k x0 x1 x2 false))))
def spec_l5Place.j1 : Nat → Int → Int → Int → Bool → Option (Int)
 | 0, _, _, _, _ => none
 | k + 1, x0, x1, x2, x24 => if x24 = true then (some 0) else ((spec_l5Never.f x1).bind fun t212 => (if t212 = true then (if x0 = 3 then ((spec_l5Never.f x1).bind fun t213 => (if t213 = true then (if x2 = 0 then (spec_l5Place.j2 k x0 x1 x2 false) else (spec_l5Place.j2 k x0 x1 x2 (x1 != 13))) else (spec_l5Place.j2 k x0 x1 x2 false))) else (spec_l5Place.j2 k x0 x1 x2 true)) else ((spec_l5Never.f x1).bind fun t214 => (if t214 = true then (if x2 = 0 then (spec_l5Place.j2 k x0 x1 x2 false) else (spec_l5Place.j2 k x0 x1 x2 (x1 != 13))) else (spec_l5Place.j2 k x0 x1 x2 false)))))
def spec_l5Place.j2 : Nat → Int → Int → Int → Bool → Option (Int)
 | 0, _, _, _, _ => none
 | k + 1, x0, x1, x2, x43 => if x43 = true then (some 0) else (if x2 = 8 then (some 0) else (if x0 = 3 then (some 1) else (if x0 = 11 then (some 0) else (if x1 = 11 then (some 0) else (if x1 = 14 then (some 0) else (if x1 = 12 then (some 0) else ((spec_l5Inner.f k x0 x1).bind fun t215 => (some t215))))))))
end
def spec_l5Place.f (k : Nat) (a0 : Int) (a1 : Int) (a2 : Int) : Option (Int) := if a0 = 4 then (some 2) else (if a1 = 4 then (spec_l5Place.j0 k a0 a1 a2 true) else (if a1 = 3 then (spec_l5Place.j0 k a0 a1 a2 true) else (spec_l5Place.j0 k a0 a1 a2 (a1 == 6))))
theorem spec_l5Place.mono_l : ∀ k, (∀ y0 y1 y2 y3, LeO (spec_l5Place.j0 k y0 y1 y2 y3) (spec_l5Place.j0 (k + 1) y0 y1 y2 y3)) ∧ (∀ y0 y1 y2 y3, LeO (spec_l5Place.j1 k y0 y1 y2 y3) (spec_l5Place.j1 (k + 1) y0 y1 y2 y3)) ∧ (∀ y0 y1 y2 y3, LeO (spec_l5Place.j2 k y0 y1 y2 y3) (spec_l5Place.j2 (k + 1) y0 y1 y2 y3))
 | 0 => ⟨fun _ _ _ _ r h => by simp [spec_l5Place.j0] at h, fun _ _ _ _ r h => by simp [spec_l5Place.j1] at h, fun _ _ _ _ r h => by simp [spec_l5Place.j2] at h⟩
 | k + 1 => by
  obtain ⟨ih0, ih1, ih2⟩ := spec_l5Place.mono_l k; refine ⟨?_, ?_, ?_⟩
  ·
   intro y0 y1 y2 y3; unfold spec_l5Place.j0
   repeat' first
   | (with_reducible exact ih0 _ _ _ _)
   | (with_reducible exact ih1 _ _ _ _)
   | (with_reducible exact ih2 _ _ _ _)
   | (with_reducible exact spec_l5Inner.mono _ _ _)
   | (with_reducible exact LeO.refl _)
   | (with_reducible exact LeO.none _)
   | (with_reducible refine LeO.ite ?_ ?_)
   | (with_reducible refine LeO.bind ?_ (fun _ => ?_))
   | exact ih0 _ _ _ _
   | exact ih1 _ _ _ _
   | exact ih2 _ _ _ _
   | exact spec_l5Inner.mono _ _ _
   | exact LeO.none _
   | refine LeO.ite ?_ ?_
   | refine LeO.bind ?_ (fun _ => ?_)
  ·
   intro y0 y1 y2 y3; unfold spec_l5Place.j1
   repeat' first
   | (with_reducible exact ih0 _ _ _ _)
   | (with_reducible exact ih1 _ _ _ _)
   | (with_reducible exact ih2 _ _ _ _)
   | (with_reducible exact spec_l5Inner.mono _ _ _)
   | (with_reducible exact LeO.refl _)
   | (with_reducible exact LeO.none _)
   | (with_reducible refine LeO.ite ?_ ?_)
   | (with_reducible refine LeO.bind ?_ (fun _ => ?_))
   | exact ih0 _ _ _ _
   | exact ih1 _ _ _ _
   | exact ih2 _ _ _ _
   | exact spec_l5Inner.mono _ _ _
   | exact LeO.none _
   | refine LeO.ite ?_ ?_
   | refine LeO.bind ?_ (fun _ => ?_)
  ·
   intro y0 y1 y2 y3; unfold spec_l5Place.j2
   repeat' first
   | (with_reducible exact ih0 _ _ _ _)
   | (with_reducible exact ih1 _ _ _ _)
   | (with_reducible exact ih2 _ _ _ _)
   | (with_reducible exact spec_l5Inner.mono _ _ _)
   | (with_reducible exact LeO.refl _)
   | (with_reducible exact LeO.none _)
   | (with_reducible refine LeO.ite ?_ ?_)
   | (with_reducible refine LeO.bind ?_ (fun _ => ?_))
   | exact ih0 _ _ _ _
   | exact ih1 _ _ _ _
   | exact ih2 _ _ _ _
   | exact spec_l5Inner.mono _ _ _
   | exact LeO.none _
   | refine LeO.ite ?_ ?_
   | refine LeO.bind ?_ (fun _ => ?_)
theorem spec_l5Place.mono : ∀ a0 a1 a2 k, LeO (spec_l5Place.f k a0 a1 a2) (spec_l5Place.f (k + 1) a0 a1 a2) := by
 intro a0 a1 a2 k; obtain ⟨ih0, ih1, ih2⟩ := spec_l5Place.mono_l k; unfold spec_l5Place.f
 repeat' first
   | (with_reducible exact ih0 _ _ _ _)
   | (with_reducible exact ih1 _ _ _ _)
   | (with_reducible exact ih2 _ _ _ _)
   | (with_reducible exact spec_l5Inner.mono _ _ _)
   | (with_reducible exact LeO.refl _)
   | (with_reducible exact LeO.none _)
   | (with_reducible refine LeO.ite ?_ ?_)
   | (with_reducible refine LeO.bind ?_ (fun _ => ?_))
   | exact ih0 _ _ _ _
   | exact ih1 _ _ _ _
   | exact ih2 _ _ _ _
   | exact spec_l5Inner.mono _ _ _
   | exact LeO.none _
   | refine LeO.ite ?_ ?_
   | refine LeO.bind ?_ (fun _ => ?_)
theorem spec_l5Place.calls (k : Nat) (a0 : Int) (a1 : Int) (a2 : Int) (r : Int) (w : World) (h : spec_l5Place.f k a0 a1 a2 = some r) :
  Calls Tryz.prog 127 #[.int .i64 a0, .int .i64 a1, .int .i64 a2] w fun e w' => e = .returned (.int .i64 r) ∧ Drawn0 w w' := by
 have H : (if a0 = 4 then (some 2) else (if a1 = 4 then (spec_l5Place.j0 k a0 a1 a2 true) else (if a1 = 3 then (spec_l5Place.j0 k a0 a1 a2 true) else (spec_l5Place.j0 k a0 a1 a2 (a1 == 6))))) = some r := h; clear h; by_cases c4 : a0 = 4
 ·
  rw [if_pos c4] at H; have c4b0 : (a0 == 4) = true := beq_iff_eq.mpr c4; have c4b1 : (a0 != 4) = false := bne_eq_false_iff_eq.mpr c4; clear c4; obtain rfl := Option.some.inj H; go_enter Tryz.func127, Tryz.ntmps127; go_wp2; go_ret; exact ⟨zB, zD⟩
 ·
  rw [if_neg c4] at H; have c4b0 : (a0 == 4) = false := beq_eq_false_iff_ne.mpr c4; have c4b1 : (a0 != 4) = true := bne_iff_ne.mpr c4; have HC5 := az H; clear H; go_enter Tryz.func127, Tryz.ntmps127; go_upto_region 3 with (fail)
  go_cut [10] (fun v10 wc => ∃ (kq : Nat) (x10_4 : Bool), v10 = .bool x10_4 ∧ Aside0 (spec_l5Place.j0 kq a0 a1 a2 x10_4 = some r) ∧ Aside0 (kq ≤ k) ∧ Drawn0 w wc)
  case first =>
   have H := HC5.out; clear HC5; by_cases c6 : a1 = 4
   ·
    rw [if_pos c6] at H; have c6b0 : (a1 == 4) = true := beq_iff_eq.mpr c6; have c6b1 : (a1 != 4) = false := bne_eq_false_iff_eq.mpr c6; clear c6; (first | rw [c6b0] | (simp only [i64_w, i32_w]; rw [c6b0]) | skip); have H' := az H; clear H; go_wp2; go_meet
    case rel => exact ⟨_, (true), zB, H', ⟨zJ⟩, zD⟩
   ·
    rw [if_neg c6] at H; have c6b0 : (a1 == 4) = false := beq_eq_false_iff_ne.mpr c6; have c6b1 : (a1 != 4) = true := bne_iff_ne.mpr c6; (first | rw [c6b0] | (simp only [i64_w, i32_w]; rw [c6b0]) | skip); by_cases c7 : a1 = 3
    ·
     rw [if_pos c7] at H; have c7b0 : (a1 == 3) = true := beq_iff_eq.mpr c7; have c7b1 : (a1 != 3) = false := bne_eq_false_iff_eq.mpr c7; clear c7; have H' := az H; clear H; go_wp2; go_meet
     case rel => exact ⟨_, (true), zB, H', ⟨zJ⟩, zD⟩
    ·
     rw [if_neg c7] at H; have c7b0 : (a1 == 3) = false := beq_eq_false_iff_ne.mpr c7; have c7b1 : (a1 != 3) = true := bne_iff_ne.mpr c7; have H' := az H; clear H; go_wp2; go_meet
     case rel => exact ⟨_, ((a1 == 6)), zB, H', ⟨zJ⟩, zD⟩
  case rest =>
   clear HC5; (try clear c1); (try clear p2); (try clear c4); (try clear c4b0); (try clear c4b1); (try clear c6); (try clear c6b0); (try clear c6b1); (try clear c7); (try clear c7b0); (try clear c7b1); obtain ⟨kq, x10_4, rfl, HA, HJ4, ⟨mc4, rfl⟩⟩ := hcut
   cases kq with
   | zero => exact absurd HA.out (by simp [spec_l5Place.j0])
   | succ kj4 =>
    have H := HA.out; clear HA; simp only [spec_l5Place.j0] at H; by_cases c8 : x10_4 = true
    ·
     subst c8; have H1 : (some 0) = some r := by rw [if_pos rfl] at H; exact H
     clear H; have H := H1; clear H1; obtain rfl := Option.some.inj H; go_wp2; go_ret; exact ⟨zB, zD⟩
    ·
     replace c8 := Bool.eq_false_iff.mpr c8; subst c8; have H1 : (if a2 = 6 then (some 1) else (if a0 = 5 then (spec_l5Place.j1 kj4 a0 a1 a2 true) else (if a1 = 5 then (if a0 = 3 then (spec_l5Place.j1 kj4 a0 a1 a2 false) else (if a0 = 14 then (spec_l5Place.j1 kj4 a0 a1 a2 false) else (spec_l5Place.j1 kj4 a0 a1 a2 (a0 != 12)))) else (spec_l5Place.j1 kj4 a0 a1 a2 false)))) = some r := by rw [if_neg (show ¬ (false = true) by decide)] at H; exact H
     clear H; have H := H1; clear H1; by_cases c9 : a2 = 6
     ·
      rw [if_pos c9] at H; have c9b0 : (a2 == 6) = true := beq_iff_eq.mpr c9; have c9b1 : (a2 != 6) = false := bne_eq_false_iff_eq.mpr c9; clear c9; obtain rfl := Option.some.inj H; go_wp2; go_ret; exact ⟨zB, zD⟩
     ·
      rw [if_neg c9] at H; have c9b0 : (a2 == 6) = false := beq_eq_false_iff_ne.mpr c9; have c9b1 : (a2 != 6) = true := bne_iff_ne.mpr c9; have HC10 := az H; clear H; go_upto_region 7 with (fail)
      go_cut [24] (fun v24 wc => ∃ (kq : Nat) (x24_9 : Bool), v24 = .bool x24_9 ∧ Aside0 (spec_l5Place.j1 kq a0 a1 a2 x24_9 = some r) ∧ Aside0 (kq ≤ kj4) ∧ Drawn0 w wc)
      case first =>
       have H := HC10.out; clear HC10; by_cases c11 : a0 = 5
       ·
        rw [if_pos c11] at H; have c11b0 : (a0 == 5) = true := beq_iff_eq.mpr c11; have c11b1 : (a0 != 5) = false := bne_eq_false_iff_eq.mpr c11; clear c11; (first | rw [c11b0] | (simp only [i64_w, i32_w]; rw [c11b0]) | skip); have H' := az H; clear H; go_wp2; go_meet
        case rel => exact ⟨_, (true), zB, H', ⟨zK HJ4.out⟩, zD⟩
       ·
        rw [if_neg c11] at H; have c11b0 : (a0 == 5) = false := beq_eq_false_iff_ne.mpr c11; have c11b1 : (a0 != 5) = true := bne_iff_ne.mpr c11; (first | rw [c11b0] | (simp only [i64_w, i32_w]; rw [c11b0]) | skip); by_cases c12 : a1 = 5
        ·
         rw [if_pos c12] at H; have c12b0 : (a1 == 5) = true := beq_iff_eq.mpr c12; have c12b1 : (a1 != 5) = false := bne_eq_false_iff_eq.mpr c12; clear c12; by_cases c13 : a0 = 3
         ·
          rw [if_pos c13] at H; have c13b0 : (a0 == 3) = true := beq_iff_eq.mpr c13; have c13b1 : (a0 != 3) = false := bne_eq_false_iff_eq.mpr c13; clear c13; have H' := az H; clear H; go_wp2; go_meet
          case rel => exact ⟨_, (false), zB, H', ⟨zK HJ4.out⟩, zD⟩
         ·
          rw [if_neg c13] at H; have c13b0 : (a0 == 3) = false := beq_eq_false_iff_ne.mpr c13; have c13b1 : (a0 != 3) = true := bne_iff_ne.mpr c13; by_cases c14 : a0 = 14
          ·
           rw [if_pos c14] at H; have c14b0 : (a0 == 14) = true := beq_iff_eq.mpr c14; have c14b1 : (a0 != 14) = false := bne_eq_false_iff_eq.mpr c14; clear c14; have H' := az H; clear H; go_wp2; go_meet
           case rel => exact ⟨_, (false), zB, H', ⟨zK HJ4.out⟩, zD⟩
          ·
           rw [if_neg c14] at H; have c14b0 : (a0 == 14) = false := beq_eq_false_iff_ne.mpr c14; have c14b1 : (a0 != 14) = true := bne_iff_ne.mpr c14; have H' := az H; clear H; go_wp2; go_meet
           case rel => exact ⟨_, ((a0 != 12)), zB, H', ⟨zK HJ4.out⟩, zD⟩
        ·
         rw [if_neg c12] at H; have c12b0 : (a1 == 5) = false := beq_eq_false_iff_ne.mpr c12; have c12b1 : (a1 != 5) = true := bne_iff_ne.mpr c12; have H' := az H; clear H; go_wp2; go_meet
         case rel => exact ⟨_, (false), zB, H', ⟨zK HJ4.out⟩, zD⟩
      case rest =>
       clear HC10; (try clear c1); (try clear p2); (try clear c4); (try clear c4b0); (try clear c4b1); (try clear c6); (try clear c6b0); (try clear c6b1); (try clear c7); (try clear c7b0); (try clear c7b1); (try clear c8); (try clear c9); (try clear c9b0); (try clear c9b1); (try clear c11); (try clear c11b0); (try clear c11b1); (try clear c12); (try clear c12b0); (try clear c12b1); (try clear c13); (try clear c13b0); (try clear c13b1); (try clear c14); (try clear c14b0); (try clear c14b1); (try clear p2); obtain ⟨kq, x24_9, rfl, HA, HJ9, ⟨mc9, rfl⟩⟩ := hcut
       cases kq with
       | zero => exact absurd HA.out (by simp [spec_l5Place.j1])
       | succ kj9 =>
        have H := HA.out; clear HA; simp only [spec_l5Place.j1] at H; by_cases c15 : x24_9 = true
        ·
         subst c15; have H1 : (some 0) = some r := by rw [if_pos rfl] at H; exact H
         clear H; have H := H1; clear H1; obtain rfl := Option.some.inj H; go_wp2; go_ret; exact ⟨zB, zD⟩
        ·
         replace c15 := Bool.eq_false_iff.mpr c15; subst c15; have H1 : ((spec_l5Never.f a1).bind fun t212 => (if t212 = true then (if a0 = 3 then ((spec_l5Never.f a1).bind fun t213 => (if t213 = true then (if a2 = 0 then (spec_l5Place.j2 kj9 a0 a1 a2 false) else (spec_l5Place.j2 kj9 a0 a1 a2 (a1 != 13))) else (spec_l5Place.j2 kj9 a0 a1 a2 false))) else (spec_l5Place.j2 kj9 a0 a1 a2 true)) else ((spec_l5Never.f a1).bind fun t214 => (if t214 = true then (if a2 = 0 then (spec_l5Place.j2 kj9 a0 a1 a2 false) else (spec_l5Place.j2 kj9 a0 a1 a2 (a1 != 13))) else (spec_l5Place.j2 kj9 a0 a1 a2 false))))) = some r := by rw [if_neg (show ¬ (false = true) by decide)] at H; exact H
         clear H; have H := H1; clear H1; have HC16 := az H; clear H; go_upto_region 9 with (fail)
         go_cut [43] (fun v43 wc => ∃ (kq : Nat) (x43_15 : Bool), v43 = .bool x43_15 ∧ Aside0 (spec_l5Place.j2 kq a0 a1 a2 x43_15 = some r) ∧ Aside0 (kq ≤ kj9) ∧ Drawn0 w wc)
         case first =>
          have H := HC16.out; clear HC16; replace H := Option.bind_eq_some_iff.mp H; obtain ⟨t212, A170, H⟩ := H; replace H : (if t212 = true then (if a0 = 3 then ((spec_l5Never.f a1).bind fun t213 => (if t213 = true then (if a2 = 0 then (spec_l5Place.j2 kj9 a0 a1 a2 false) else (spec_l5Place.j2 kj9 a0 a1 a2 (a1 != 13))) else (spec_l5Place.j2 kj9 a0 a1 a2 false))) else (spec_l5Place.j2 kj9 a0 a1 a2 true)) else ((spec_l5Never.f a1).bind fun t214 => (if t214 = true then (if a2 = 0 then (spec_l5Place.j2 kj9 a0 a1 a2 false) else (spec_l5Place.j2 kj9 a0 a1 a2 (a1 != 13))) else (spec_l5Place.j2 kj9 a0 a1 a2 false)))) = some r := H; have A17 := az A170; clear A170; by_cases c18 : t212 = true
          ·
           subst c18; have H1 : (if a0 = 3 then ((spec_l5Never.f a1).bind fun t213 => (if t213 = true then (if a2 = 0 then (spec_l5Place.j2 kj9 a0 a1 a2 false) else (spec_l5Place.j2 kj9 a0 a1 a2 (a1 != 13))) else (spec_l5Place.j2 kj9 a0 a1 a2 false))) else (spec_l5Place.j2 kj9 a0 a1 a2 true)) = some r := by rw [if_pos rfl] at H; exact H
           clear H; have H := H1; clear H1; by_cases c19 : a0 = 3
           ·
            rw [if_pos c19] at H; have c19b0 : (a0 == 3) = true := beq_iff_eq.mpr c19; have c19b1 : (a0 != 3) = false := bne_eq_false_iff_eq.mpr c19; clear c19; (first | rw [c19b0] | (simp only [i64_w, i32_w]; rw [c19b0]) | skip); replace H := Option.bind_eq_some_iff.mp H; obtain ⟨t213, A200, H⟩ := H; replace H : (if t213 = true then (if a2 = 0 then (spec_l5Place.j2 kj9 a0 a1 a2 false) else (spec_l5Place.j2 kj9 a0 a1 a2 (a1 != 13))) else (spec_l5Place.j2 kj9 a0 a1 a2 false)) = some r := H; have A20 := az A200; clear A200; by_cases c21 : t213 = true
            ·
             subst c21; have H1 : (if a2 = 0 then (spec_l5Place.j2 kj9 a0 a1 a2 false) else (spec_l5Place.j2 kj9 a0 a1 a2 (a1 != 13))) = some r := by rw [if_pos rfl] at H; exact H
             clear H; have H := H1; clear H1; by_cases c22 : a2 = 0
             ·
              rw [if_pos c22] at H; have c22b0 : (a2 == 0) = true := beq_iff_eq.mpr c22; have c22b1 : (a2 != 0) = false := bne_eq_false_iff_eq.mpr c22; clear c22; have H' := az H; clear H; go_wp2_with (first | ((with_reducible refine gate_callee (f := 140) rfl ?_); refine goesL_ (some 45) rfl rfl Tryz.func140 (by kernel_rfl) rfl #[.int .i64 a1] rfl zC ?_; (with_reducible refine (spec_l5Never.calls a1 true _ A17.out).mono ?_); rintro e w' ⟨rfl, ⟨nd, rfl⟩⟩; refine ⟨_, rfl, ?_⟩) | (go_at_call 140; (with_reducible refine (spec_l5Never.calls a1 true _ A20.out).mono ?_); rintro e w' ⟨rfl, ⟨nd, rfl⟩⟩)); go_meet
              case rel => exact ⟨_, (false), zB, H', ⟨zM HJ4.out HJ9.out⟩, zD⟩
             ·
              rw [if_neg c22] at H; have c22b0 : (a2 == 0) = false := beq_eq_false_iff_ne.mpr c22; have c22b1 : (a2 != 0) = true := bne_iff_ne.mpr c22; have H' := az H; clear H; go_wp2_with (first | ((with_reducible refine gate_callee (f := 140) rfl ?_); refine goesL_ (some 45) rfl rfl Tryz.func140 (by kernel_rfl) rfl #[.int .i64 a1] rfl zC ?_; (with_reducible refine (spec_l5Never.calls a1 true _ A17.out).mono ?_); rintro e w' ⟨rfl, ⟨nd, rfl⟩⟩; refine ⟨_, rfl, ?_⟩) | (go_at_call 140; (with_reducible refine (spec_l5Never.calls a1 true _ A20.out).mono ?_); rintro e w' ⟨rfl, ⟨nd, rfl⟩⟩)); go_meet
              case rel => exact ⟨_, ((a1 != 13)), zB, H', ⟨zM HJ4.out HJ9.out⟩, zD⟩
            ·
             replace c21 := Bool.eq_false_iff.mpr c21; subst c21; have H1 : (spec_l5Place.j2 kj9 a0 a1 a2 false) = some r := by rw [if_neg (show ¬ (false = true) by decide)] at H; exact H
             clear H; have H := H1; clear H1; have H' := az H; clear H; go_wp2_with (first | ((with_reducible refine gate_callee (f := 140) rfl ?_); refine goesL_ (some 45) rfl rfl Tryz.func140 (by kernel_rfl) rfl #[.int .i64 a1] rfl zC ?_; (with_reducible refine (spec_l5Never.calls a1 true _ A17.out).mono ?_); rintro e w' ⟨rfl, ⟨nd, rfl⟩⟩; refine ⟨_, rfl, ?_⟩) | (go_at_call 140; (with_reducible refine (spec_l5Never.calls a1 false _ A20.out).mono ?_); rintro e w' ⟨rfl, ⟨nd, rfl⟩⟩)); go_meet
             case rel => exact ⟨_, (false), zB, H', ⟨zM HJ4.out HJ9.out⟩, zD⟩
           ·
            rw [if_neg c19] at H; have c19b0 : (a0 == 3) = false := beq_eq_false_iff_ne.mpr c19; have c19b1 : (a0 != 3) = true := bne_iff_ne.mpr c19; (first | rw [c19b0] | (simp only [i64_w, i32_w]; rw [c19b0]) | skip); have H' := az H; clear H; go_wp2_with (first | ((with_reducible refine gate_callee (f := 140) rfl ?_); refine goesL_ (some 45) rfl rfl Tryz.func140 (by kernel_rfl) rfl #[.int .i64 a1] rfl zC ?_; (with_reducible refine (spec_l5Never.calls a1 true _ A17.out).mono ?_); rintro e w' ⟨rfl, ⟨nd, rfl⟩⟩; refine ⟨_, rfl, ?_⟩)); go_meet
            case rel => exact ⟨_, (true), zB, H', ⟨zM HJ4.out HJ9.out⟩, zD⟩
          ·
           replace c18 := Bool.eq_false_iff.mpr c18; subst c18; have H1 : ((spec_l5Never.f a1).bind fun t214 => (if t214 = true then (if a2 = 0 then (spec_l5Place.j2 kj9 a0 a1 a2 false) else (spec_l5Place.j2 kj9 a0 a1 a2 (a1 != 13))) else (spec_l5Place.j2 kj9 a0 a1 a2 false))) = some r := by rw [if_neg (show ¬ (false = true) by decide)] at H; exact H
           clear H; have H := H1; clear H1; replace H := Option.bind_eq_some_iff.mp H; obtain ⟨t214, A230, H⟩ := H; replace H : (if t214 = true then (if a2 = 0 then (spec_l5Place.j2 kj9 a0 a1 a2 false) else (spec_l5Place.j2 kj9 a0 a1 a2 (a1 != 13))) else (spec_l5Place.j2 kj9 a0 a1 a2 false)) = some r := H; have A23 := az A230; clear A230; by_cases c24 : t214 = true
           ·
            subst c24; have H1 : (if a2 = 0 then (spec_l5Place.j2 kj9 a0 a1 a2 false) else (spec_l5Place.j2 kj9 a0 a1 a2 (a1 != 13))) = some r := by rw [if_pos rfl] at H; exact H
            clear H; have H := H1; clear H1; by_cases c25 : a2 = 0
            ·
             rw [if_pos c25] at H; have c25b0 : (a2 == 0) = true := beq_iff_eq.mpr c25; have c25b1 : (a2 != 0) = false := bne_eq_false_iff_eq.mpr c25; clear c25; have H' := az H; clear H; go_wp2_with (first | ((with_reducible refine gate_callee (f := 140) rfl ?_); refine goesL_ (some 45) rfl rfl Tryz.func140 (by kernel_rfl) rfl #[.int .i64 a1] rfl zC ?_; (with_reducible refine (spec_l5Never.calls a1 false _ A17.out).mono ?_); rintro e w' ⟨rfl, ⟨nd, rfl⟩⟩; refine ⟨_, rfl, ?_⟩) | (go_at_call 140; (with_reducible refine (spec_l5Never.calls a1 true _ A23.out).mono ?_); rintro e w' ⟨rfl, ⟨nd, rfl⟩⟩)); go_meet
             case rel => exact ⟨_, (false), zB, H', ⟨zM HJ4.out HJ9.out⟩, zD⟩
            ·
             rw [if_neg c25] at H; have c25b0 : (a2 == 0) = false := beq_eq_false_iff_ne.mpr c25; have c25b1 : (a2 != 0) = true := bne_iff_ne.mpr c25; have H' := az H; clear H; go_wp2_with (first | ((with_reducible refine gate_callee (f := 140) rfl ?_); refine goesL_ (some 45) rfl rfl Tryz.func140 (by kernel_rfl) rfl #[.int .i64 a1] rfl zC ?_; (with_reducible refine (spec_l5Never.calls a1 false _ A17.out).mono ?_); rintro e w' ⟨rfl, ⟨nd, rfl⟩⟩; refine ⟨_, rfl, ?_⟩) | (go_at_call 140; (with_reducible refine (spec_l5Never.calls a1 true _ A23.out).mono ?_); rintro e w' ⟨rfl, ⟨nd, rfl⟩⟩)); go_meet
             case rel => exact ⟨_, ((a1 != 13)), zB, H', ⟨zM HJ4.out HJ9.out⟩, zD⟩
           ·
            replace c24 := Bool.eq_false_iff.mpr c24; subst c24; have H1 : (spec_l5Place.j2 kj9 a0 a1 a2 false) = some r := by rw [if_neg (show ¬ (false = true) by decide)] at H; exact H
            clear H; have H := H1; clear H1; have H' := az H; clear H; go_wp2_with (first | ((with_reducible refine gate_callee (f := 140) rfl ?_); refine goesL_ (some 45) rfl rfl Tryz.func140 (by kernel_rfl) rfl #[.int .i64 a1] rfl zC ?_; (with_reducible refine (spec_l5Never.calls a1 false _ A17.out).mono ?_); rintro e w' ⟨rfl, ⟨nd, rfl⟩⟩; refine ⟨_, rfl, ?_⟩) | (go_at_call 140; (with_reducible refine (spec_l5Never.calls a1 false _ A23.out).mono ?_); rintro e w' ⟨rfl, ⟨nd, rfl⟩⟩)); go_meet
            case rel => exact ⟨_, (false), zB, H', ⟨zM HJ4.out HJ9.out⟩, zD⟩
         case rest =>
          clear HC16; (try clear c1); (try clear c2); (try clear p2); (try clear c4); (try clear c4b0); (try clear c4b1); (try clear c6); (try clear c6b0); (try clear c6b1); (try clear c7); (try clear c7b0); (try clear c7b1); (try clear c8); (try clear c9); (try clear c9b0); (try clear c9b1); (try clear c11); (try clear c11b0); (try clear c11b1); (try clear c12); (try clear c12b0); (try clear c12b1); (try clear c13); (try clear c13b0); (try clear c13b1); (try clear c14); (try clear c14b0); (try clear c14b1); (try clear c15); (try clear c18); (try clear c19); (try clear c19b0); (try clear c19b1); (try clear c21); (try clear c22); (try clear c22b0); (try clear c22b1); (try clear c24); (try clear c25); (try clear c25b0); (try clear c25b1); (try clear p2); obtain ⟨kq, x43_15, rfl, HA, HJ15, ⟨mc15, rfl⟩⟩ := hcut
          cases kq with
          | zero => exact absurd HA.out (by simp [spec_l5Place.j2])
          | succ kj15 =>
           have H := HA.out; clear HA; simp only [spec_l5Place.j2] at H; by_cases c26 : x43_15 = true
           ·
            subst c26; have H1 : (some 0) = some r := by rw [if_pos rfl] at H; exact H
            clear H; have H := H1; clear H1; obtain rfl := Option.some.inj H; go_wp2; go_ret; exact ⟨zB, zD⟩
           ·
            replace c26 := Bool.eq_false_iff.mpr c26; subst c26; have H1 : (if a2 = 8 then (some 0) else (if a0 = 3 then (some 1) else (if a0 = 11 then (some 0) else (if a1 = 11 then (some 0) else (if a1 = 14 then (some 0) else (if a1 = 12 then (some 0) else ((spec_l5Inner.f kj15 a0 a1).bind fun t215 => (some t215)))))))) = some r := by rw [if_neg (show ¬ (false = true) by decide)] at H; exact H
            clear H; have H := H1; clear H1; by_cases c27 : a2 = 8
            ·
             rw [if_pos c27] at H; have c27b0 : (a2 == 8) = true := beq_iff_eq.mpr c27; have c27b1 : (a2 != 8) = false := bne_eq_false_iff_eq.mpr c27; clear c27; obtain rfl := Option.some.inj H; go_wp2; go_ret; exact ⟨zB, zD⟩
            ·
             rw [if_neg c27] at H; have c27b0 : (a2 == 8) = false := beq_eq_false_iff_ne.mpr c27; have c27b1 : (a2 != 8) = true := bne_iff_ne.mpr c27; by_cases c28 : a0 = 3
             ·
              rw [if_pos c28] at H; have c28b0 : (a0 == 3) = true := beq_iff_eq.mpr c28; have c28b1 : (a0 != 3) = false := bne_eq_false_iff_eq.mpr c28; clear c28; obtain rfl := Option.some.inj H; go_wp2; go_ret; exact ⟨zB, zD⟩
             ·
              rw [if_neg c28] at H; have c28b0 : (a0 == 3) = false := beq_eq_false_iff_ne.mpr c28; have c28b1 : (a0 != 3) = true := bne_iff_ne.mpr c28; by_cases c29 : a0 = 11
              ·
               rw [if_pos c29] at H; have c29b0 : (a0 == 11) = true := beq_iff_eq.mpr c29; have c29b1 : (a0 != 11) = false := bne_eq_false_iff_eq.mpr c29; clear c29; obtain rfl := Option.some.inj H; go_wp2; go_ret; exact ⟨zB, zD⟩
              ·
               rw [if_neg c29] at H; have c29b0 : (a0 == 11) = false := beq_eq_false_iff_ne.mpr c29; have c29b1 : (a0 != 11) = true := bne_iff_ne.mpr c29; by_cases c30 : a1 = 11
               ·
                rw [if_pos c30] at H; have c30b0 : (a1 == 11) = true := beq_iff_eq.mpr c30; have c30b1 : (a1 != 11) = false := bne_eq_false_iff_eq.mpr c30; clear c30; obtain rfl := Option.some.inj H; go_wp2; go_ret; exact ⟨zB, zD⟩
               ·
                rw [if_neg c30] at H; have c30b0 : (a1 == 11) = false := beq_eq_false_iff_ne.mpr c30; have c30b1 : (a1 != 11) = true := bne_iff_ne.mpr c30; by_cases c31 : a1 = 14
                ·
                 rw [if_pos c31] at H; have c31b0 : (a1 == 14) = true := beq_iff_eq.mpr c31; have c31b1 : (a1 != 14) = false := bne_eq_false_iff_eq.mpr c31; clear c31; obtain rfl := Option.some.inj H; go_wp2; go_ret; exact ⟨zB, zD⟩
                ·
                 rw [if_neg c31] at H; have c31b0 : (a1 == 14) = false := beq_eq_false_iff_ne.mpr c31; have c31b1 : (a1 != 14) = true := bne_iff_ne.mpr c31; by_cases c32 : a1 = 12
                 ·
                  rw [if_pos c32] at H; have c32b0 : (a1 == 12) = true := beq_iff_eq.mpr c32; have c32b1 : (a1 != 12) = false := bne_eq_false_iff_eq.mpr c32; clear c32; obtain rfl := Option.some.inj H; go_wp2; go_ret; exact ⟨zB, zD⟩
                 ·
                  rw [if_neg c32] at H; have c32b0 : (a1 == 12) = false := beq_eq_false_iff_ne.mpr c32; have c32b1 : (a1 != 12) = true := bne_iff_ne.mpr c32; replace H := Option.bind_eq_some_iff.mp H; obtain ⟨t215, A330, H⟩ := H; replace H : (some t215) = some r := H; have A33 := az A330; clear A330; obtain rfl := Option.some.inj H; go_wp2_with (first | ((with_reducible refine gate_callee (f := 141) rfl ?_); refine goesL_ (some 85) rfl rfl Tryz.func141 (by kernel_rfl) rfl #[.int .i64 a0, .int .i64 a1] rfl zC ?_; (with_reducible refine (spec_l5Inner.calls kj15 a0 a1 t215 _ A33.out).mono ?_); rintro e w' ⟨rfl, ⟨nd, rfl⟩⟩; refine ⟨_, rfl, ?_⟩)); go_ret; exact ⟨zB, zD⟩
abbrev q20M0 : Array Bool := #[false, false, false, false, false, false, false, false, false, false, false, false, false, false, false]
abbrev q20M1 : Array Bool := #[true, false, false, false, false, false, false, false, false, false, false, false, false, false, false]
abbrev q20M2 : Array Bool := #[true, true, false, false, false, false, false, false, false, false, false, false, false, false, false]
abbrev q20M3 : Array Bool := #[true, true, true, false, false, false, false, false, false, false, false, false, false, false, false]
abbrev q20M4 : Array Bool := #[true, true, true, true, false, false, false, false, false, false, false, false, false, false, false]
abbrev q20M5 : Array Bool := #[true, true, true, true, false, true, false, false, false, false, false, false, false, false, false]
abbrev q20M6 : Array Bool := #[true, true, true, true, false, true, true, false, false, false, false, false, false, false, false]
abbrev q20M7 : Array Bool := #[true, true, true, true, false, true, true, true, false, false, false, false, false, false, false]
abbrev q20M8 : Array Bool := #[true, true, true, true, false, true, true, true, true, false, false, false, false, false, false]
abbrev q20M9 : Array Bool := #[true, true, true, true, false, true, true, true, true, false, true, false, false, false, false]
abbrev q20M10 : Array Bool := #[true, true, true, true, true, true, true, true, true, false, true, false, false, false, false]
abbrev q20M11 : Array Bool := #[true, true, true, true, true, true, true, true, true, true, true, false, false, false, false]
abbrev q20M12 : Array Bool := #[true, true, true, true, true, true, true, true, true, true, true, true, false, false, false]
abbrev q20M13 : Array Bool := #[true, true, true, true, true, true, true, true, true, true, true, true, true, false, false]
abbrev q20M14 : Array Bool := #[true, true, true, true, true, true, true, true, true, true, true, true, true, true, false]
abbrev q20M15 : Array Bool := #[true, true, true, true, true, true, true, true, true, true, true, true, true, true, true]
theorem q20s {α : Type} (l : List α) (i : Nat) (a : α) : l.toArray.setIfInBounds i a = (l.set i a).toArray := List.setIfInBounds_toArray ..
theorem q20z {α : Type} (a : α) (l : List α) (b : α) : (a :: l).set 0 b = b :: l := List.set_cons_zero ..
theorem q20n {α : Type} (a : α) (l : List α) (i : Nat) (b : α) : (a :: l).set (i + 1) b = a :: l.set i b := List.set_cons_succ ..
mutual
def spec_l5Breaks.l0 : Nat → List Int → List Int → List Int → Int → Option (List Int)
 | 0, _, _, _, _ => none
 | k + 1, x0, x3, x4, x5 => if x5 < (x3.length : Int) then (if (wrap64 (x5 + 1)) = (x3.length : Int) then (if x4.length < 17592186044416 then (spec_l5Breaks.l0 k x0 x3 (x4 ++ [2]) (wrap64 (x5 + 1))) else (none)) else ((spec_l2Joins.f k x0 (wrap64 (x5 + 1))).bind fun t225 => (if t225 = true then (spec_l5Breaks.j1 k x0 x3 x4 x5 true) else (if 0 ≤ (wrap64 (x5 + 1)) then (if (wrap64 (x5 + 1)) < (x0.length : Int) then ((spec_RuneLine.f k (rd x0 (wrap64 (x5 + 1)))).bind fun t227 => (if t227 = 7 then (if 0 ≤ x5 then (if (rd x3 x5) = 3 then (spec_l5Breaks.j1 k x0 x3 x4 x5 false) else (if (rd x3 x5) = 4 then (spec_l5Breaks.j1 k x0 x3 x4 x5 false) else (spec_l5Breaks.j1 k x0 x3 x4 x5 ((rd x3 x5) != 6)))) else (none)) else (spec_l5Breaks.j1 k x0 x3 x4 x5 false))) else (none)) else (none))))) else (some x4)
def spec_l5Breaks.j1 : Nat → List Int → List Int → List Int → Int → Bool → Option (List Int)
 | 0, _, _, _, _, _ => none
 | k + 1, x0, x3, x4, x5, x49 => if x49 = true then (if x4.length < 17592186044416 then (spec_l5Breaks.l0 k x0 x3 (x4 ++ [0]) (wrap64 (x5 + 1))) else (none)) else ((spec_l5Before.f k x3 x5).bind fun t234 => (if t234 ≥ 0 then (if 0 ≤ t234 then (if t234 < (x3.length : Int) then (if 0 ≤ x5 then (if x5 < (x3.length : Int) then (if 0 ≤ (wrap64 (x5 + 1)) then (if (wrap64 (x5 + 1)) < (x3.length : Int) then ((spec_l5Place.f k (rd x3 x5) (rd x3 (wrap64 (x5 + 1))) (rd x3 t234)).bind fun t238 => (if x4.length < 17592186044416 then (spec_l5Breaks.l0 k x0 x3 (x4 ++ [t238]) (wrap64 (x5 + 1))) else (none))) else (none)) else (none)) else (none)) else (none)) else (none)) else (none)) else (if 0 ≤ x5 then (if x5 < (x3.length : Int) then (if 0 ≤ (wrap64 (x5 + 1)) then (if (wrap64 (x5 + 1)) < (x3.length : Int) then ((spec_l5Place.f k (rd x3 x5) (rd x3 (wrap64 (x5 + 1))) 0).bind fun t244 => (if x4.length < 17592186044416 then (spec_l5Breaks.l0 k x0 x3 (x4 ++ [t244]) (wrap64 (x5 + 1))) else (none))) else (none)) else (none)) else (none)) else (none))))
end
def spec_l5Breaks.f (k : Nat) (l0 : List Int) : Option (List Int) := (spec_l5Counts.f k l0).bind fun t216 => (spec_l5Breaks.l0 k l0 t216 (([] : List Int)) 0)
theorem spec_l5Breaks.mono_l : ∀ k, (∀ y0 y1 y2 y3, LeO (spec_l5Breaks.l0 k y0 y1 y2 y3) (spec_l5Breaks.l0 (k + 1) y0 y1 y2 y3)) ∧ (∀ y0 y1 y2 y3 y4, LeO (spec_l5Breaks.j1 k y0 y1 y2 y3 y4) (spec_l5Breaks.j1 (k + 1) y0 y1 y2 y3 y4))
 | 0 => ⟨fun _ _ _ _ r h => by simp [spec_l5Breaks.l0] at h, fun _ _ _ _ _ r h => by simp [spec_l5Breaks.j1] at h⟩
 | k + 1 => by
  obtain ⟨ih0, ih1⟩ := spec_l5Breaks.mono_l k; refine ⟨?_, ?_⟩
  ·
   intro y0 y1 y2 y3; unfold spec_l5Breaks.l0
   repeat' first
   | (with_reducible exact ih0 _ _ _ _)
   | (with_reducible exact ih1 _ _ _ _ _)
   | (with_reducible exact spec_RuneLine.mono _ _)
   | (with_reducible exact spec_l2Joins.mono _ _ _)
   | (with_reducible exact spec_l5Before.mono _ _ _)
   | (with_reducible exact spec_l5Counts.mono _ _)
   | (with_reducible exact spec_l5Place.mono _ _ _ _)
   | (with_reducible exact LeO.refl _)
   | (with_reducible exact LeO.none _)
   | (with_reducible refine LeO.ite ?_ ?_)
   | (with_reducible refine LeO.bind ?_ (fun _ => ?_))
   | exact ih0 _ _ _ _
   | exact ih1 _ _ _ _ _
   | exact spec_RuneLine.mono _ _
   | exact spec_l2Joins.mono _ _ _
   | exact spec_l5Before.mono _ _ _
   | exact spec_l5Counts.mono _ _
   | exact spec_l5Place.mono _ _ _ _
   | exact LeO.none _
   | refine LeO.ite ?_ ?_
   | refine LeO.bind ?_ (fun _ => ?_)
  ·
   intro y0 y1 y2 y3 y4; unfold spec_l5Breaks.j1
   repeat' first
   | (with_reducible exact ih0 _ _ _ _)
   | (with_reducible exact ih1 _ _ _ _ _)
   | (with_reducible exact spec_RuneLine.mono _ _)
   | (with_reducible exact spec_l2Joins.mono _ _ _)
   | (with_reducible exact spec_l5Before.mono _ _ _)
   | (with_reducible exact spec_l5Counts.mono _ _)
   | (with_reducible exact spec_l5Place.mono _ _ _ _)
   | (with_reducible exact LeO.refl _)
   | (with_reducible exact LeO.none _)
   | (with_reducible refine LeO.ite ?_ ?_)
   | (with_reducible refine LeO.bind ?_ (fun _ => ?_))
   | exact ih0 _ _ _ _
   | exact ih1 _ _ _ _ _
   | exact spec_RuneLine.mono _ _
   | exact spec_l2Joins.mono _ _ _
   | exact spec_l5Before.mono _ _ _
   | exact spec_l5Counts.mono _ _
   | exact spec_l5Place.mono _ _ _ _
   | exact LeO.none _
   | refine LeO.ite ?_ ?_
   | refine LeO.bind ?_ (fun _ => ?_)
theorem spec_l5Breaks.mono : ∀ a0 k, LeO (spec_l5Breaks.f k a0) (spec_l5Breaks.f (k + 1) a0) := by
 intro a0 k; obtain ⟨ih0, ih1⟩ := spec_l5Breaks.mono_l k; unfold spec_l5Breaks.f
 repeat' first
   | (with_reducible exact ih0 _ _ _ _)
   | (with_reducible exact ih1 _ _ _ _ _)
   | (with_reducible exact spec_RuneLine.mono _ _)
   | (with_reducible exact spec_l2Joins.mono _ _ _)
   | (with_reducible exact spec_l5Before.mono _ _ _)
   | (with_reducible exact spec_l5Counts.mono _ _)
   | (with_reducible exact spec_l5Place.mono _ _ _ _)
   | (with_reducible exact LeO.refl _)
   | (with_reducible exact LeO.none _)
   | (with_reducible refine LeO.ite ?_ ?_)
   | (with_reducible refine LeO.bind ?_ (fun _ => ?_))
   | exact ih0 _ _ _ _
   | exact ih1 _ _ _ _ _
   | exact spec_RuneLine.mono _ _
   | exact spec_l2Joins.mono _ _ _
   | exact spec_l5Before.mono _ _ _
   | exact spec_l5Counts.mono _ _
   | exact spec_l5Place.mono _ _ _ _
   | exact LeO.none _
   | refine LeO.ite ?_ ?_
   | refine LeO.bind ?_ (fun _ => ?_)
def spec_l5Breaks.T10 : Bool × List (List Nat × List Nat) := (true, [([], []), ([], []), ([], []), ([1, 2], [1, 2]), ([3], [3]), ([], []), ([], []), ([6], [6]), ([5, 7], [5, 7]), ([8], [8]), ([], []), ([4, 9, 10], [4, 9, 10]), ([11], [11]), ([0, 12, 11], [0, 12]), ([13, 13, 0, 1, 2, 3, 4, 5, 6, 7, 8, 9, 10, 11, 12, 13], [0, 13])])
def spec_l5Breaks.B10 : List Nat := [0, 0, 0, 6, 14, 0, 0, 64, 224, 480, 0, 2046, 4094, 8191, 16383]
theorem spec_l5Breaks.tab10 : rtab .any (opsOf Tryz.f91 10) = spec_l5Breaks.T10 := by kernel_rfl
theorem spec_l5Breaks.bits10 : waitsOk spec_l5Breaks.T10.2 spec_l5Breaks.B10 = true := by kernel_rfl
theorem spec_l5Breaks.calls (k : Nat) (A0 : Option Addr) (c0 : Nat) (l0 : List Int) (r : List Int) (w : World) (hr0 : Kd.C (Kd.int .i64) w A0 l0.length l0) (hc0 : l0.length ≤ c0) (h : spec_l5Breaks.f k l0 = some r) :
  Calls Tryz.prog 91 #[.slice A0 l0.length c0] w fun e w' => ∃ v0_ : Value, e = .returned (v0_) ∧ Kd.R (Kd.int .i64) 3 w' w.heap.size (fun _ => True) v0_ r ∧ Below w.heap.size w w' := by
 have HR0 := az hr0; have HC0 := az hc0; clear hr0 hc0; have HB := az (Below.refl w.heap.size w); have H : ((spec_l5Counts.f k l0).bind fun t216 => (spec_l5Breaks.l0 k l0 t216 (([] : List Int)) 0)) = some r := h; clear h; replace H := Option.bind_eq_some_iff.mp H; obtain ⟨t216, A20, H⟩ := H; replace H : (spec_l5Breaks.l0 k l0 t216 (([] : List Int)) 0) = some r := H; have A2 := az A20; clear A20; obtain ⟨y219, hy219⟩ : ∃ y_ : List Int, y_ = (([] : List Int)) := ⟨_, rfl⟩; replace H : (spec_l5Breaks.l0 k l0 t216 y219 0) = some r := by first | (rw [hy219]; with_reducible exact H) | (have H2_ := (Option.bind_some _ _).symm.trans H; rw [hy219]; with_reducible exact H2_) | (have H2_ := (Option.bind_some _ _).symm.trans H; with_reducible exact H2_) | with_reducible exact H | (rw [hy219]; exact H) | exact H
 have Ny219 := az hy219; clear hy219; have H' := az H; clear H; go_enter Tryz.func91, Tryz.ntmps91; go_wp2_with (first | ((with_reducible refine gate_callee (f := 123) rfl ?_); refine goesL_ (some 9) rfl rfl Tryz.func123 (by kernel_rfl) rfl #[.slice A0 l0.length c0] rfl zC ?_; (with_reducible refine (spec_l5Counts.calls k _ _ l0 t216 _ ?side1 ?side2 A2.out).mono ?_); (case side1 => exact (zP HR0.out)); (case side2 => exact HC0.out); rintro e w3 ⟨v217, rfl, ho0, hb⟩; refine ⟨_, rfl, ?_⟩; have n0_ := az (Kd.R_lower ho0 (below_size (zA HB.out))); have n1_ := az (below_step (zA HB.out) hb); clear HB; have HO218 := n0_; have HB := n1_; clear n0_ n1_; (try clear hb); (try clear hb2); (try clear hk); (try clear hi); (try clear ho0)) | ((with_reducible refine gate_dst (N := 10) rfl ?_); refine Kd.R_lit (Kd.int .i64) _ 3 ?hg (N := 10) ?hd (xs := ([] : List Int)) (inner := []) (ok := fun _ => True) (okp := fun _ => True) ?hr ?hp (fun _ hk => hk) trivial (Below.refl _ _) (Nat.le_refl _) (by simp) ?_; (case hd => rfl); (case hg => rfl); (case hr => first | (go_simp; done) | (go_simp; rfl)); (case hp => exact (Reps.none _ _)); intro v220 w4 ho5 hb hg_ hnew_; clear hg_ hnew_; (first | rw [← Ny219.out] at ho5 | (simp only [Int.reduceToNat] at ho5; rw [← Ny219.out] at ho5)); have n0_ := az (Kd.R_elder' (zF HO218.out) (Kd.R_base ho5) hb); have n1_ := az (Kd.R_lower (Kd.R_new' ho5 (Kd.R_lt (zF HO218.out))) (below_size (zA HB.out))); have n2_ := az (below_step (zA HB.out) hb); clear HO218; clear HB; have HO218 := n0_; have HO221 := n1_; have HB := n2_; clear n0_ n1_ n2_; clear hb ho5)); go_loopg [4, 5] k (fun kq v4 v5 w' => ∃ (x4_1 : List Int) (x5_1 : Int), v5 = .int .i64 x5_1 ∧ Aside0 (spec_l5Breaks.l0 kq l0 t216 x4_1 x5_1 = some r) ∧ Aside0 (kq ≤ k) ∧ Aside0 (Kd.R (Kd.int .i64) 3 w' w.heap.size (fun k_ => some k_ ≠ (v4 : Value).ownBlock) v217 t216) ∧ Aside0 (Kd.R (Kd.int .i64) 3 w' w.heap.size (fun k_ => some k_ ≠ (v217 : Value).ownBlock) v4 x4_1) ∧ Aside0 (Below w.heap.size w w'))
 case atStart => exact ⟨(y219), (0), zB, H', ⟨Nat.le_refl _⟩, ⟨zQ HO218.out⟩, ⟨zQ HO221.out⟩, ⟨zA HB.out⟩⟩
 case round =>
  clear H'; (try clear c1); (try clear p2); obtain ⟨x4_1, x5_1, rfl, HA, HK1, HO_3, HO_4, HB⟩ := hrel
  cases gk with
  | zero => exact absurd HA.out (by simp [spec_l5Breaks.l0])
  | succ k1 =>
   have H := HA.out; clear HA; simp only [spec_l5Breaks.l0] at H; by_cases c6 : x5_1 < (t216.length : Int)
   ·
    rw [if_pos c6] at H; have c6b0 : decide (x5_1 < (t216.length : Int)) = true := decide_eq_true c6; clear c6; by_cases c7 : (wrap64 (x5_1 + 1)) = (t216.length : Int)
    ·
     rw [if_pos c7] at H; have c7b0 : ((wrap64 (x5_1 + 1)) == (t216.length : Int)) = true := beq_iff_eq.mpr c7; have c7b1 : ((wrap64 (x5_1 + 1)) != (t216.length : Int)) = false := bne_eq_false_iff_eq.mpr c7; clear c7; by_cases c8 : x4_1.length < 17592186044416
     ·
      rw [if_pos c8] at H; have LMc8 := az c8; clear c8; obtain ⟨y222, hy222⟩ : ∃ y_ : List Int, y_ = (x4_1 ++ [2]) := ⟨_, rfl⟩; replace H : (spec_l5Breaks.l0 k1 l0 t216 y222 (wrap64 (x5_1 + 1))) = some r := by first | (rw [hy222]; with_reducible exact H) | (have H2_ := (Option.bind_some _ _).symm.trans H; rw [hy222]; with_reducible exact H2_) | (have H2_ := (Option.bind_some _ _).symm.trans H; with_reducible exact H2_) | with_reducible exact H | (rw [hy222]; exact H) | exact H
      have Ny222 := az hy222; clear hy222; have H' := az H; clear H; obtain ⟨Ao9, co9, eo9⟩ := Kd.R_slice HO_3.out; subst eo9; go_wp2_with (first | ((with_reducible refine gate_builtin (b := .append) (xs := #[.tmp 46, .tmp 47]) rfl ?_); at_builtin; refine Kd.R_append (Kd.int .i64) (w0 := w) w.heap.size rfl (.tmp 46) (.tmp 47) 22 3 (.int .i64 0) 8 rfl Tryz.underlying22 info3 rfl (by decide) (by omega) u4 x4_1 2 [.int .i64 2] (fun k_ => some k_ ≠ (.slice Ao9 t216.length co9 : Value).ownBlock) (fun _ => False) rfl rfl ?aP (fun _ hk => hk.elim) ?aF ?aO ?aB ?aS ?aL ?_; (case aP => exact rfl); (case aB => exact (zA HB.out)); (case aF => exact (fun k_ hk => Kd.fresh' (Kd.R_lt (zF HO_3.out)) k_ hk)); (case aO => exact (zF HO_4.out)); (case aS => exact (below_size (zA HB.out))); (case aL => have := LMc8.out; omega); intro v223 w10 ho hb hg hat; rw [← Ny222.out] at ho; have n0_ := az (Kd.R_after (ok := (fun _ => True)) (zU HO_3.out) hg hat); have n1_ := az (hb); have n2_ := az (ho); clear HO_3; clear HB; clear HO_4; have HO_3 := n0_; have HB := n1_; have HO224 := n2_; clear n0_ n1_ n2_; clear ho hb hg hat)); go_roundg k1
      case measure => have := HK1.out; omega
      case rel => exact ⟨(y222), (wrap64 (x5_1 + 1)), zB, H', ⟨zE HK1.out⟩, ⟨zQ HO_3.out⟩, ⟨zF HO224.out⟩, ⟨zA HB.out⟩⟩
     ·
      rw [if_neg c8] at H; exact absurd H (by simp)
    ·
     rw [if_neg c7] at H; have c7b0 : ((wrap64 (x5_1 + 1)) == (t216.length : Int)) = false := beq_eq_false_iff_ne.mpr c7; have c7b1 : ((wrap64 (x5_1 + 1)) != (t216.length : Int)) = true := bne_iff_ne.mpr c7; have HC11 := az H; clear H; obtain ⟨Ao12, co12, eo12⟩ := Kd.R_slice HO_3.out; subst eo12; go_upto_region 13 with (fail)
     go_cut [49] (fun v49 wc => ∃ (kq : Nat) (x49_10 : Bool), v49 = .bool x49_10 ∧ Aside0 (spec_l5Breaks.j1 kq l0 t216 x4_1 x5_1 x49_10 = some r) ∧ Aside0 (kq ≤ k1) ∧ Aside0 (Kd.R (Kd.int .i64) 3 wc w.heap.size (fun k_ => some k_ ≠ (u4 : Value).ownBlock) (.slice Ao12 t216.length co12) t216) ∧ Aside0 (Kd.R (Kd.int .i64) 3 wc w.heap.size (fun k_ => some k_ ≠ ((.slice Ao12 t216.length co12) : Value).ownBlock) u4 x4_1) ∧ Aside0 (Below w.heap.size w wc))
     case first =>
      have H := HC11.out; clear HC11; replace H := Option.bind_eq_some_iff.mp H; obtain ⟨t225, A130, H⟩ := H; replace H : (if t225 = true then (spec_l5Breaks.j1 k1 l0 t216 x4_1 x5_1 true) else (if 0 ≤ (wrap64 (x5_1 + 1)) then (if (wrap64 (x5_1 + 1)) < (l0.length : Int) then ((spec_RuneLine.f k1 (rd l0 (wrap64 (x5_1 + 1)))).bind fun t227 => (if t227 = 7 then (if 0 ≤ x5_1 then (if (rd t216 x5_1) = 3 then (spec_l5Breaks.j1 k1 l0 t216 x4_1 x5_1 false) else (if (rd t216 x5_1) = 4 then (spec_l5Breaks.j1 k1 l0 t216 x4_1 x5_1 false) else (spec_l5Breaks.j1 k1 l0 t216 x4_1 x5_1 ((rd t216 x5_1) != 6)))) else (none)) else (spec_l5Breaks.j1 k1 l0 t216 x4_1 x5_1 false))) else (none)) else (none))) = some r := H; have A13 := az A130; clear A130; by_cases c14 : t225 = true
      ·
       subst c14; have H1 : (spec_l5Breaks.j1 k1 l0 t216 x4_1 x5_1 true) = some r := by rw [if_pos rfl] at H; exact H
       clear H; have H := H1; clear H1; have H' := az H; clear H; go_wp2_with (first | ((with_reducible refine gate_callee (f := 124) rfl ?_); refine goesL_ (some 53) rfl rfl Tryz.func124 (by kernel_rfl) rfl #[.slice A0 l0.length c0, .int .i64 (wrap64 (x5_1 + 1))] rfl zC ?_; (with_reducible refine (spec_l2Joins.calls k1 _ _ l0 (wrap64 (x5_1 + 1)) true _ ?side1 ?side2 A13.out).mono ?_); (case side1 => exact (zO HR0.out HB.out)); (case side2 => exact HC0.out); rintro e w15 ⟨rfl, hb⟩; refine ⟨_, rfl, ?_⟩; have n0_ := az (Kd.R_below (zF HO_3.out) hb); have n1_ := az (Kd.R_below (zF HO_4.out) hb); have n2_ := az (below_step (zA HB.out) hb); clear HO_3; clear HO_4; clear HB; have HO_3 := n0_; have HO_4 := n1_; have HB := n2_; clear n0_ n1_ n2_; (try clear hb); (try clear hb2); (try clear hk); (try clear hi))); go_meet
       case rel => exact ⟨_, (true), zB, H', ⟨zK HK1.out⟩, ⟨zF HO_3.out⟩, ⟨zF HO_4.out⟩, ⟨zA HB.out⟩⟩
      ·
       replace c14 := Bool.eq_false_iff.mpr c14; subst c14; have H1 : (if 0 ≤ (wrap64 (x5_1 + 1)) then (if (wrap64 (x5_1 + 1)) < (l0.length : Int) then ((spec_RuneLine.f k1 (rd l0 (wrap64 (x5_1 + 1)))).bind fun t227 => (if t227 = 7 then (if 0 ≤ x5_1 then (if (rd t216 x5_1) = 3 then (spec_l5Breaks.j1 k1 l0 t216 x4_1 x5_1 false) else (if (rd t216 x5_1) = 4 then (spec_l5Breaks.j1 k1 l0 t216 x4_1 x5_1 false) else (spec_l5Breaks.j1 k1 l0 t216 x4_1 x5_1 ((rd t216 x5_1) != 6)))) else (none)) else (spec_l5Breaks.j1 k1 l0 t216 x4_1 x5_1 false))) else (none)) else (none)) = some r := by rw [if_neg (show ¬ (false = true) by decide)] at H; exact H
       clear H; have H := H1; clear H1; obtain ⟨ji16, hji16⟩ : ∃ j_ : Int, (wrap64 (x5_1 + 1)) = j_ := ⟨_, rfl⟩; replace H : (if 0 ≤ (ji16) then (if (ji16) < (l0.length : Int) then ((spec_RuneLine.f k1 (rd l0 (ji16))).bind fun t227 => (if t227 = 7 then (if 0 ≤ x5_1 then (if (rd t216 x5_1) = 3 then (spec_l5Breaks.j1 k1 l0 t216 x4_1 x5_1 false) else (if (rd t216 x5_1) = 4 then (spec_l5Breaks.j1 k1 l0 t216 x4_1 x5_1 false) else (spec_l5Breaks.j1 k1 l0 t216 x4_1 x5_1 ((rd t216 x5_1) != 6)))) else (none)) else (spec_l5Breaks.j1 k1 l0 t216 x4_1 x5_1 false))) else (none)) else (none)) = some r := by first | (rw [hji16] at H; exact H) | (simp only [hji16] at H ⊢; exact H)
       (try rw [hji16] at c7b0); (try rw [hji16] at c7b1); (try rw [hji16] at A13); have hji16w : (IntKind.i64.wrap (x5_1 + 1)) = ji16 := (i64_w _).trans hji16; by_cases c17 : 0 ≤ (ji16)
       ·
        rw [if_pos c17] at H; have c17b0 : decide (0 ≤ (ji16)) = true := decide_eq_true c17; clear c17; (first | rw [c17b0] | (simp only [i64_w, i32_w]; rw [c17b0]) | skip); by_cases c18 : (ji16) < (l0.length : Int)
        ·
         rw [if_pos c18] at H; have c18b0 : decide ((ji16) < (l0.length : Int)) = true := decide_eq_true c18; clear c18; replace H := Option.bind_eq_some_iff.mp H; obtain ⟨t227, A190, H⟩ := H; replace H : (if t227 = 7 then (if 0 ≤ x5_1 then (if (rd t216 x5_1) = 3 then (spec_l5Breaks.j1 k1 l0 t216 x4_1 x5_1 false) else (if (rd t216 x5_1) = 4 then (spec_l5Breaks.j1 k1 l0 t216 x4_1 x5_1 false) else (spec_l5Breaks.j1 k1 l0 t216 x4_1 x5_1 ((rd t216 x5_1) != 6)))) else (none)) else (spec_l5Breaks.j1 k1 l0 t216 x4_1 x5_1 false)) = some r := H; have A19 := az A190; clear A190; by_cases c20 : t227 = 7
         ·
          rw [if_pos c20] at H; have c20b0 : (t227 == 7) = true := beq_iff_eq.mpr c20; have c20b1 : (t227 != 7) = false := bne_eq_false_iff_eq.mpr c20; clear c20; by_cases c21 : 0 ≤ x5_1
          ·
           rw [if_pos c21] at H; have c21b0 : decide (0 ≤ x5_1) = true := decide_eq_true c21; clear c21; by_cases c22 : (rd t216 x5_1) = 3
           ·
            rw [if_pos c22] at H; have c22b0 : ((rd t216 x5_1) == 3) = true := beq_iff_eq.mpr c22; have c22b1 : ((rd t216 x5_1) != 3) = false := bne_eq_false_iff_eq.mpr c22; clear c22; have H' := az H; clear H; go_wp2_with (first | ((with_reducible refine gate_callee (f := 124) rfl ?_); refine goesL_ (some 53) rfl rfl Tryz.func124 (by kernel_rfl) rfl #[.slice A0 l0.length c0, .int .i64 ji16] rfl (by (try simp only [List.map_toArray, List.map_cons, List.map_nil]); first | done | (simp only [hji16]; rfl) | rfl | (simp only [List.length_drop, List.length_take]; rfl)) ?_; (with_reducible refine (spec_l2Joins.calls k1 _ _ l0 ji16 false _ ?side1 ?side2 A13.out).mono ?_); (case side1 => exact (zO HR0.out HB.out)); (case side2 => exact HC0.out); rintro e w23 ⟨rfl, hb⟩; refine ⟨_, rfl, ?_⟩; have n0_ := az (Kd.R_below (zF HO_3.out) hb); have n1_ := az (Kd.R_below (zF HO_4.out) hb); have n2_ := az (below_step (zA HB.out) hb); clear HO_3; clear HO_4; clear HB; have HO_3 := n0_; have HO_4 := n1_; have HB := n2_; clear n0_ n1_ n2_; (try clear hb); (try clear hb2); (try clear hk); (try clear hi); have p226 : 0 ≤ ((ji16) : Int) := of_decide_eq_true (by assumption); have q226 : (ji16) < (l0.length : Int) := of_decide_eq_true (by assumption); obtain ⟨ad226, e226, hx226_0⟩ := Kd.at_int HR0.out (ji16) p226 q226; cases e226; replace hx226_0 := (HB.out.cell (World.block_lt_of_cell? w _ hx226_0)).trans hx226_0; replace p226 := eq_true p226; replace q226 := eq_true q226) | (go_at_call 125; (with_reducible refine (spec_RuneLine.calls k1 (rd l0 (ji16)) t227 _ A19.out).mono ?_); rintro e w24 ⟨rfl, hb⟩; have n0_ := az (Kd.R_below (zF HO_3.out) hb); have n1_ := az (Kd.R_below (zF HO_4.out) hb); have n2_ := az (below_step (zA HB.out) hb); clear HO_3; clear HO_4; clear HB; have HO_3 := n0_; have HO_4 := n1_; have HB := n2_; clear n0_ n1_ n2_; (try clear hb); (try clear hb2); (try clear hk); (try clear hi); have p228 : 0 ≤ (x5_1 : Int) := of_decide_eq_true (by assumption); have q228 : x5_1 < (t216.length : Int) := of_decide_eq_true (by assumption); obtain ⟨ad228, e228, hx228_0⟩ := Kd.at_int (Kd.R_reads' HO_3.out).2.2 x5_1 p228 q228; cases e228; replace p228 := eq_true p228; replace q228 := eq_true q228)); go_meet
            case rel => exact ⟨_, (false), zB, H', ⟨zK HK1.out⟩, ⟨zF HO_3.out⟩, ⟨zF HO_4.out⟩, ⟨zA HB.out⟩⟩
           ·
            rw [if_neg c22] at H; have c22b0 : ((rd t216 x5_1) == 3) = false := beq_eq_false_iff_ne.mpr c22; have c22b1 : ((rd t216 x5_1) != 3) = true := bne_iff_ne.mpr c22; by_cases c25 : (rd t216 x5_1) = 4
            ·
             rw [if_pos c25] at H; have c25b0 : ((rd t216 x5_1) == 4) = true := beq_iff_eq.mpr c25; have c25b1 : ((rd t216 x5_1) != 4) = false := bne_eq_false_iff_eq.mpr c25; clear c25; have H' := az H; clear H; go_wp2_with (first | ((with_reducible refine gate_callee (f := 124) rfl ?_); refine goesL_ (some 53) rfl rfl Tryz.func124 (by kernel_rfl) rfl #[.slice A0 l0.length c0, .int .i64 ji16] rfl (by (try simp only [List.map_toArray, List.map_cons, List.map_nil]); first | done | (simp only [hji16]; rfl) | rfl | (simp only [List.length_drop, List.length_take]; rfl)) ?_; (with_reducible refine (spec_l2Joins.calls k1 _ _ l0 ji16 false _ ?side1 ?side2 A13.out).mono ?_); (case side1 => exact (zO HR0.out HB.out)); (case side2 => exact HC0.out); rintro e w26 ⟨rfl, hb⟩; refine ⟨_, rfl, ?_⟩; have n0_ := az (Kd.R_below (zF HO_3.out) hb); have n1_ := az (Kd.R_below (zF HO_4.out) hb); have n2_ := az (below_step (zA HB.out) hb); clear HO_3; clear HO_4; clear HB; have HO_3 := n0_; have HO_4 := n1_; have HB := n2_; clear n0_ n1_ n2_; (try clear hb); (try clear hb2); (try clear hk); (try clear hi); have p226 : 0 ≤ ((ji16) : Int) := of_decide_eq_true (by assumption); have q226 : (ji16) < (l0.length : Int) := of_decide_eq_true (by assumption); obtain ⟨ad226, e226, hx226_0⟩ := Kd.at_int HR0.out (ji16) p226 q226; cases e226; replace hx226_0 := (HB.out.cell (World.block_lt_of_cell? w _ hx226_0)).trans hx226_0; replace p226 := eq_true p226; replace q226 := eq_true q226) | (go_at_call 125; (with_reducible refine (spec_RuneLine.calls k1 (rd l0 (ji16)) t227 _ A19.out).mono ?_); rintro e w27 ⟨rfl, hb⟩; have n0_ := az (Kd.R_below (zF HO_3.out) hb); have n1_ := az (Kd.R_below (zF HO_4.out) hb); have n2_ := az (below_step (zA HB.out) hb); clear HO_3; clear HO_4; clear HB; have HO_3 := n0_; have HO_4 := n1_; have HB := n2_; clear n0_ n1_ n2_; (try clear hb); (try clear hb2); (try clear hk); (try clear hi); have p228 : 0 ≤ (x5_1 : Int) := of_decide_eq_true (by assumption); have q228 : x5_1 < (t216.length : Int) := of_decide_eq_true (by assumption); obtain ⟨ad228, e228, hx228_0⟩ := Kd.at_int (Kd.R_reads' HO_3.out).2.2 x5_1 p228 q228; cases e228; replace p228 := eq_true p228; replace q228 := eq_true q228; have p229 : 0 ≤ (x5_1 : Int) := of_decide_eq_true (by assumption); have q229 : x5_1 < (t216.length : Int) := of_decide_eq_true (by assumption); obtain ⟨ad229, e229, hx229_0⟩ := Kd.at_int (Kd.R_reads' HO_3.out).2.2 x5_1 p229 q229; obtain rfl : ad228 = ad229 := (by injection e229); replace p229 := eq_true p229; replace q229 := eq_true q229)); go_meet
             case rel => exact ⟨_, (false), zB, H', ⟨zK HK1.out⟩, ⟨zF HO_3.out⟩, ⟨zF HO_4.out⟩, ⟨zA HB.out⟩⟩
            ·
             rw [if_neg c25] at H; have c25b0 : ((rd t216 x5_1) == 4) = false := beq_eq_false_iff_ne.mpr c25; have c25b1 : ((rd t216 x5_1) != 4) = true := bne_iff_ne.mpr c25; have H' := az H; clear H; go_wp2_with (first | ((with_reducible refine gate_callee (f := 124) rfl ?_); refine goesL_ (some 53) rfl rfl Tryz.func124 (by kernel_rfl) rfl #[.slice A0 l0.length c0, .int .i64 ji16] rfl (by (try simp only [List.map_toArray, List.map_cons, List.map_nil]); first | done | (simp only [hji16]; rfl) | rfl | (simp only [List.length_drop, List.length_take]; rfl)) ?_; (with_reducible refine (spec_l2Joins.calls k1 _ _ l0 ji16 false _ ?side1 ?side2 A13.out).mono ?_); (case side1 => exact (zO HR0.out HB.out)); (case side2 => exact HC0.out); rintro e w28 ⟨rfl, hb⟩; refine ⟨_, rfl, ?_⟩; have n0_ := az (Kd.R_below (zF HO_3.out) hb); have n1_ := az (Kd.R_below (zF HO_4.out) hb); have n2_ := az (below_step (zA HB.out) hb); clear HO_3; clear HO_4; clear HB; have HO_3 := n0_; have HO_4 := n1_; have HB := n2_; clear n0_ n1_ n2_; (try clear hb); (try clear hb2); (try clear hk); (try clear hi); have p226 : 0 ≤ ((ji16) : Int) := of_decide_eq_true (by assumption); have q226 : (ji16) < (l0.length : Int) := of_decide_eq_true (by assumption); obtain ⟨ad226, e226, hx226_0⟩ := Kd.at_int HR0.out (ji16) p226 q226; cases e226; replace hx226_0 := (HB.out.cell (World.block_lt_of_cell? w _ hx226_0)).trans hx226_0; replace p226 := eq_true p226; replace q226 := eq_true q226) | (go_at_call 125; (with_reducible refine (spec_RuneLine.calls k1 (rd l0 (ji16)) t227 _ A19.out).mono ?_); rintro e w29 ⟨rfl, hb⟩; have n0_ := az (Kd.R_below (zF HO_3.out) hb); have n1_ := az (Kd.R_below (zF HO_4.out) hb); have n2_ := az (below_step (zA HB.out) hb); clear HO_3; clear HO_4; clear HB; have HO_3 := n0_; have HO_4 := n1_; have HB := n2_; clear n0_ n1_ n2_; (try clear hb); (try clear hb2); (try clear hk); (try clear hi); have p228 : 0 ≤ (x5_1 : Int) := of_decide_eq_true (by assumption); have q228 : x5_1 < (t216.length : Int) := of_decide_eq_true (by assumption); obtain ⟨ad228, e228, hx228_0⟩ := Kd.at_int (Kd.R_reads' HO_3.out).2.2 x5_1 p228 q228; cases e228; replace p228 := eq_true p228; replace q228 := eq_true q228; have p229 : 0 ≤ (x5_1 : Int) := of_decide_eq_true (by assumption); have q229 : x5_1 < (t216.length : Int) := of_decide_eq_true (by assumption); obtain ⟨ad229, e229, hx229_0⟩ := Kd.at_int (Kd.R_reads' HO_3.out).2.2 x5_1 p229 q229; obtain rfl : ad228 = ad229 := (by injection e229); replace p229 := eq_true p229; replace q229 := eq_true q229; have p230 : 0 ≤ (x5_1 : Int) := of_decide_eq_true (by assumption); have q230 : x5_1 < (t216.length : Int) := of_decide_eq_true (by assumption); obtain ⟨ad230, e230, hx230_0⟩ := Kd.at_int (Kd.R_reads' HO_3.out).2.2 x5_1 p230 q230; obtain rfl : ad228 = ad230 := (by injection e230); replace p230 := eq_true p230; replace q230 := eq_true q230))
             go_meet
             case rel => exact ⟨_, (((rd t216 x5_1) != 6)), zB, H', ⟨zK HK1.out⟩, ⟨zF HO_3.out⟩, ⟨zF HO_4.out⟩, ⟨zA HB.out⟩⟩
          ·
           rw [if_neg c21] at H; exact absurd H (by simp)
         ·
          rw [if_neg c20] at H; have c20b0 : (t227 == 7) = false := beq_eq_false_iff_ne.mpr c20; have c20b1 : (t227 != 7) = true := bne_iff_ne.mpr c20; have H' := az H; clear H; go_wp2_with (first | ((with_reducible refine gate_callee (f := 124) rfl ?_); refine goesL_ (some 53) rfl rfl Tryz.func124 (by kernel_rfl) rfl #[.slice A0 l0.length c0, .int .i64 ji16] rfl (by (try simp only [List.map_toArray, List.map_cons, List.map_nil]); first | done | (simp only [hji16]; rfl) | rfl | (simp only [List.length_drop, List.length_take]; rfl)) ?_; (with_reducible refine (spec_l2Joins.calls k1 _ _ l0 ji16 false _ ?side1 ?side2 A13.out).mono ?_); (case side1 => exact (zO HR0.out HB.out)); (case side2 => exact HC0.out); rintro e w30 ⟨rfl, hb⟩; refine ⟨_, rfl, ?_⟩; have n0_ := az (Kd.R_below (zF HO_3.out) hb); have n1_ := az (Kd.R_below (zF HO_4.out) hb); have n2_ := az (below_step (zA HB.out) hb); clear HO_3; clear HO_4; clear HB; have HO_3 := n0_; have HO_4 := n1_; have HB := n2_; clear n0_ n1_ n2_; (try clear hb); (try clear hb2); (try clear hk); (try clear hi); have p226 : 0 ≤ ((ji16) : Int) := of_decide_eq_true (by assumption); have q226 : (ji16) < (l0.length : Int) := of_decide_eq_true (by assumption); obtain ⟨ad226, e226, hx226_0⟩ := Kd.at_int HR0.out (ji16) p226 q226; cases e226; replace hx226_0 := (HB.out.cell (World.block_lt_of_cell? w _ hx226_0)).trans hx226_0; replace p226 := eq_true p226; replace q226 := eq_true q226) | (go_at_call 125; (with_reducible refine (spec_RuneLine.calls k1 (rd l0 (ji16)) t227 _ A19.out).mono ?_); rintro e w31 ⟨rfl, hb⟩; have n0_ := az (Kd.R_below (zF HO_3.out) hb); have n1_ := az (Kd.R_below (zF HO_4.out) hb); have n2_ := az (below_step (zA HB.out) hb); clear HO_3; clear HO_4; clear HB; have HO_3 := n0_; have HO_4 := n1_; have HB := n2_; clear n0_ n1_ n2_; (try clear hb); (try clear hb2); (try clear hk); (try clear hi))); go_meet
          case rel => exact ⟨_, (false), zB, H', ⟨zK HK1.out⟩, ⟨zF HO_3.out⟩, ⟨zF HO_4.out⟩, ⟨zA HB.out⟩⟩
        ·
         rw [if_neg c18] at H; exact absurd H (by simp)
       ·
        rw [if_neg c17] at H; exact absurd H (by simp)
     case rest =>
      clear HC11; (try clear c1); (try clear c2); (try clear p2); (try clear q2); (try clear hx2); (try clear c6); (try clear c6b0); (try clear p6); (try clear c7); (try clear c7b0); (try clear c7b1); (try clear c8); (try clear c9); (try clear c12); (try clear c14); (try clear c17); (try clear c17b0); (try clear c18); (try clear c18b0); (try clear c20); (try clear c20b0); (try clear c20b1); (try clear c21); (try clear c21b0); (try clear c22); (try clear c22b0); (try clear c22b1); (try clear p22); (try clear q22); (try clear hx22); (try clear p23); (try clear q23); (try clear hx23); (try clear c25); (try clear c25b0); (try clear c25b1); (try clear hx226_0); (try clear hx228_0); (try clear hx229_0); (try clear hx230_0); (try clear p2); (try clear p226); (try clear p228); (try clear p229); (try clear p230); (try clear q226); (try clear q228); (try clear q229); (try clear q230); obtain ⟨kq, x49_10, rfl, HA, HJ10, HO_3, HO_4, HB⟩ := hcut
      cases kq with
      | zero => exact absurd HA.out (by simp [spec_l5Breaks.j1])
      | succ kj10 =>
       have H := HA.out; clear HA; simp only [spec_l5Breaks.j1] at H; by_cases c32 : x49_10 = true
       ·
        subst c32; have H1 : (if x4_1.length < 17592186044416 then (spec_l5Breaks.l0 kj10 l0 t216 (x4_1 ++ [0]) (wrap64 (x5_1 + 1))) else (none)) = some r := by rw [if_pos rfl] at H; exact H
        clear H; have H := H1; clear H1; by_cases c33 : x4_1.length < 17592186044416
        ·
         rw [if_pos c33] at H; have LMc33 := az c33; clear c33; obtain ⟨y231, hy231⟩ : ∃ y_ : List Int, y_ = (x4_1 ++ [0]) := ⟨_, rfl⟩; replace H : (spec_l5Breaks.l0 kj10 l0 t216 y231 (wrap64 (x5_1 + 1))) = some r := by first | (rw [hy231]; with_reducible exact H) | (have H2_ := (Option.bind_some _ _).symm.trans H; rw [hy231]; with_reducible exact H2_) | (have H2_ := (Option.bind_some _ _).symm.trans H; with_reducible exact H2_) | with_reducible exact H | (rw [hy231]; exact H) | exact H
         have Ny231 := az hy231; clear hy231; have H' := az H; clear H; go_wp2_with (first | ((with_reducible refine gate_builtin (b := .append) (xs := #[.tmp 84, .tmp 85]) rfl ?_); at_builtin; refine Kd.R_append (Kd.int .i64) (w0 := w) w.heap.size rfl (.tmp 84) (.tmp 85) 22 3 (.int .i64 0) 8 rfl Tryz.underlying22 info3 rfl (by decide) (by omega) u4 x4_1 0 [.int .i64 0] (fun k_ => some k_ ≠ (.slice Ao12 t216.length co12 : Value).ownBlock) (fun _ => False) rfl rfl ?aP (fun _ hk => hk.elim) ?aF ?aO ?aB ?aS ?aL ?_; (case aP => exact rfl); (case aB => exact (zA HB.out)); (case aF => exact (fun k_ hk => Kd.fresh' (Kd.R_lt (zF HO_3.out)) k_ hk)); (case aO => exact (zF HO_4.out)); (case aS => exact (below_size (zA HB.out))); (case aL => have := LMc33.out; omega); intro v232 w34 ho hb hg hat; rw [← Ny231.out] at ho; have n0_ := az (Kd.R_after (ok := (fun _ => True)) (zU HO_3.out) hg hat); have n1_ := az (hb); have n2_ := az (ho); clear HO_3; clear HB; clear HO_4; have HO_3 := n0_; have HB := n1_; have HO233 := n2_; clear n0_ n1_ n2_; clear ho hb hg hat)); go_roundg kj10
         case measure => have := HK1.out; have := HJ10.out; omega
         case rel => exact ⟨(y231), (wrap64 (x5_1 + 1)), zB, H', ⟨zL HK1.out HJ10.out⟩, ⟨zQ HO_3.out⟩, ⟨zF HO233.out⟩, ⟨zA HB.out⟩⟩
        ·
         rw [if_neg c33] at H; exact absurd H (by simp)
       ·
        replace c32 := Bool.eq_false_iff.mpr c32; subst c32; have H1 : ((spec_l5Before.f kj10 t216 x5_1).bind fun t234 => (if t234 ≥ 0 then (if 0 ≤ t234 then (if t234 < (t216.length : Int) then (if 0 ≤ x5_1 then (if x5_1 < (t216.length : Int) then (if 0 ≤ (wrap64 (x5_1 + 1)) then (if (wrap64 (x5_1 + 1)) < (t216.length : Int) then ((spec_l5Place.f kj10 (rd t216 x5_1) (rd t216 (wrap64 (x5_1 + 1))) (rd t216 t234)).bind fun t238 => (if x4_1.length < 17592186044416 then (spec_l5Breaks.l0 kj10 l0 t216 (x4_1 ++ [t238]) (wrap64 (x5_1 + 1))) else (none))) else (none)) else (none)) else (none)) else (none)) else (none)) else (none)) else (if 0 ≤ x5_1 then (if x5_1 < (t216.length : Int) then (if 0 ≤ (wrap64 (x5_1 + 1)) then (if (wrap64 (x5_1 + 1)) < (t216.length : Int) then ((spec_l5Place.f kj10 (rd t216 x5_1) (rd t216 (wrap64 (x5_1 + 1))) 0).bind fun t244 => (if x4_1.length < 17592186044416 then (spec_l5Breaks.l0 kj10 l0 t216 (x4_1 ++ [t244]) (wrap64 (x5_1 + 1))) else (none))) else (none)) else (none)) else (none)) else (none)))) = some r := by rw [if_neg (show ¬ (false = true) by decide)] at H; exact H
        clear H; have H := H1; clear H1; replace H := Option.bind_eq_some_iff.mp H; obtain ⟨t234, A350, H⟩ := H; replace H : (if t234 ≥ 0 then (if 0 ≤ t234 then (if t234 < (t216.length : Int) then (if 0 ≤ x5_1 then (if x5_1 < (t216.length : Int) then (if 0 ≤ (wrap64 (x5_1 + 1)) then (if (wrap64 (x5_1 + 1)) < (t216.length : Int) then ((spec_l5Place.f kj10 (rd t216 x5_1) (rd t216 (wrap64 (x5_1 + 1))) (rd t216 t234)).bind fun t238 => (if x4_1.length < 17592186044416 then (spec_l5Breaks.l0 kj10 l0 t216 (x4_1 ++ [t238]) (wrap64 (x5_1 + 1))) else (none))) else (none)) else (none)) else (none)) else (none)) else (none)) else (none)) else (if 0 ≤ x5_1 then (if x5_1 < (t216.length : Int) then (if 0 ≤ (wrap64 (x5_1 + 1)) then (if (wrap64 (x5_1 + 1)) < (t216.length : Int) then ((spec_l5Place.f kj10 (rd t216 x5_1) (rd t216 (wrap64 (x5_1 + 1))) 0).bind fun t244 => (if x4_1.length < 17592186044416 then (spec_l5Breaks.l0 kj10 l0 t216 (x4_1 ++ [t244]) (wrap64 (x5_1 + 1))) else (none))) else (none)) else (none)) else (none)) else (none))) = some r := H; have A35 := az A350; clear A350; by_cases c36 : t234 ≥ 0
        ·
         rw [if_pos c36] at H; have c36b0 : decide (0 ≤ t234) = true := decide_eq_true c36; clear c36; by_cases c37 : 0 ≤ t234
         ·
          rw [if_pos c37] at H; have c37b0 : decide (0 ≤ t234) = true := decide_eq_true c37; clear c37; by_cases c38 : t234 < (t216.length : Int)
          ·
           rw [if_pos c38] at H; have c38b0 : decide (t234 < (t216.length : Int)) = true := decide_eq_true c38; clear c38; by_cases c39 : 0 ≤ x5_1
           ·
            rw [if_pos c39] at H; have c39b0 : decide (0 ≤ x5_1) = true := decide_eq_true c39; clear c39; by_cases c40 : x5_1 < (t216.length : Int)
            ·
             rw [if_pos c40] at H; have c40b0 : decide (x5_1 < (t216.length : Int)) = true := decide_eq_true c40; clear c40; obtain ⟨ji41, hji41⟩ : ∃ j_ : Int, (wrap64 (x5_1 + 1)) = j_ := ⟨_, rfl⟩; replace H : (if 0 ≤ (ji41) then (if (ji41) < (t216.length : Int) then ((spec_l5Place.f kj10 (rd t216 x5_1) (rd t216 (ji41)) (rd t216 t234)).bind fun t238 => (if x4_1.length < 17592186044416 then (spec_l5Breaks.l0 kj10 l0 t216 (x4_1 ++ [t238]) ji41) else (none))) else (none)) else (none)) = some r := by first | (rw [hji41] at H; exact H) | (simp only [hji41] at H ⊢; exact H)
             (try rw [hji41] at c7b0); (try rw [hji41] at c7b1); (try rw [hji41] at A35); have hji41w : (IntKind.i64.wrap (x5_1 + 1)) = ji41 := (i64_w _).trans hji41; by_cases c42 : 0 ≤ (ji41)
             ·
              rw [if_pos c42] at H; have c42b0 : decide (0 ≤ (ji41)) = true := decide_eq_true c42; clear c42; by_cases c43 : (ji41) < (t216.length : Int)
              ·
               rw [if_pos c43] at H; have c43b0 : decide ((ji41) < (t216.length : Int)) = true := decide_eq_true c43; clear c43; replace H := Option.bind_eq_some_iff.mp H; obtain ⟨t238, A440, H⟩ := H; replace H : (if x4_1.length < 17592186044416 then (spec_l5Breaks.l0 kj10 l0 t216 (x4_1 ++ [t238]) ji41) else (none)) = some r := H; have A44 := az A440; clear A440; by_cases c45 : x4_1.length < 17592186044416
               ·
                rw [if_pos c45] at H; have LMc45 := az c45; clear c45; obtain ⟨y239, hy239⟩ : ∃ y_ : List Int, y_ = (x4_1 ++ [t238]) := ⟨_, rfl⟩; replace H : (spec_l5Breaks.l0 kj10 l0 t216 y239 ji41) = some r := by first | (rw [hy239]; with_reducible exact H) | (have H2_ := (Option.bind_some _ _).symm.trans H; rw [hy239]; with_reducible exact H2_) | (have H2_ := (Option.bind_some _ _).symm.trans H; with_reducible exact H2_) | with_reducible exact H | (rw [hy239]; exact H) | exact H
                have Ny239 := az hy239; clear hy239; have H' := az H; clear H; (try go_wp2_with (first | ((with_reducible refine gate_callee (f := 126) rfl ?_); refine goesL_ (some 19) rfl rfl Tryz.func126 (by kernel_rfl) rfl #[.slice Ao12 t216.length co12, .int .i64 x5_1] rfl zC ?_; (with_reducible refine (spec_l5Before.calls kj10 _ _ t216 x5_1 t234 _ ?side1 ?side2 A35.out).mono ?_); (case side1 => exact (zR HO_3.out)); (case side2 => exact (Kd.R_reads' HO_3.out).2.1); rintro e w' ⟨rfl, ⟨nd, rfl⟩⟩; refine ⟨_, rfl, ?_⟩; have p235 : 0 ≤ (t234 : Int) := of_decide_eq_true (by assumption); have q235 : t234 < (t216.length : Int) := of_decide_eq_true (by assumption); obtain ⟨ad235, e235, hx235_0⟩ := Kd.at_int (Kd.R_reads' HO_3.out).2.2 t234 p235 q235; cases e235; replace p235 := eq_true p235; replace q235 := eq_true q235))); (try (rw [drewN_self wc]; generalize hq_ : World.drewN wc _ = wc; have n0_ : Aside0 (Kd.R (Kd.int .i64) 3 wc w.heap.size (fun k_ => some k_ ≠ (u4 : Value).ownBlock) (.slice (some ad235) t216.length co12) t216) := ⟨by rw [← hq_]; exact (zF HO_3.out)⟩; have n1_ : Aside0 (Kd.R (Kd.int .i64) 3 wc w.heap.size (fun k_ => some k_ ≠ (.slice (some ad235) t216.length co12 : Value).ownBlock) u4 x4_1) := ⟨by rw [← hq_]; exact (zF HO_4.out)⟩; have n2_ : Aside0 (Below w.heap.size w wc) := ⟨by rw [← hq_]; exact (zA HB.out)⟩; clear HO_3 HO_4 HB hq_; have HO_3 := n0_; have HO_4 := n1_; have HB := n2_; clear n0_ n1_ n2_)); have n0_ := az (Kd.R_drew HO_3.out); have n1_ := az (Kd.R_drew HO_4.out); have n2_ := az (below_drew1 HB.out); clear HO_3; clear HO_4; clear HB; have HO_3 := n0_; have HO_4 := n1_; have HB := n2_; clear n0_ n1_ n2_; have p236 : 0 ≤ (x5_1 : Int) := of_decide_eq_true (by assumption); have q236 : x5_1 < (t216.length : Int) := of_decide_eq_true (by assumption); obtain ⟨ad236, e236, hx236_0⟩ := Kd.at_int (Kd.R_reads' HO_3.out).2.2 x5_1 p236 q236; obtain rfl : ad235 = ad236 := (by injection e236); replace p236 := eq_true p236; replace q236 := eq_true q236; have p237 : 0 ≤ ((ji41) : Int) := of_decide_eq_true (by assumption); have q237 : (ji41) < (t216.length : Int) := of_decide_eq_true (by assumption); obtain ⟨ad237, e237, hx237_0⟩ := Kd.at_int (Kd.R_reads' HO_3.out).2.2 (ji41) p237 q237; obtain rfl : ad235 = ad237 := (by injection e237); replace p237 := eq_true p237; replace q237 := eq_true q237; refine start_ (n := 15) (S := fun w' => w'.cell? (ad235.add (x5_1).toNat) = some (.int .i64 (rd t216 x5_1)) ∧ w'.cell? (ad235.add ((ji41)).toNat) = some (.int .i64 (rd t216 (ji41)))) (ds := [12, 13]) q20M0 (by kernel_rfl) rfl rfl ⟨hx236_0, hx237_0⟩ (fun hHeld => ?_); refine with_tabW spec_l5Breaks.tab10 spec_l5Breaks.bits10 (fun HT_ HW_ => ?_); generalize wc.drew = w46 at HO_3 HO_4 HB hx236_0 hx237_0 hHeld ⊢; refine pure_ (i := 0) (N := some 26) (v := ?_) (a' := ?_) q20M1 rfl rfl (any_of HT_.out (by kernel_rfl)) (fun _ _ _ => id) (Or.inl ⟨by rfl, ?_⟩) ?_ ?_; rotate_left; intro w'; go_simp; (with_reducible rfl); rotate_left; simp only [Act.put, q20s, q20z, q20n, i64_w, i32_w]; rfl; refine pure_ (i := 1) (N := some 27) (v := ?_) (a' := ?_) q20M2 rfl rfl (any_of HT_.out (by kernel_rfl)) (fun _ _ _ => id) (Or.inl ⟨by rfl, ?_⟩) ?_ ?_
                rotate_left; intro w'; go_simp; (with_reducible rfl); rotate_left; simp only [Act.put, q20s, q20z, q20n, i64_w, i32_w]; rfl; refine pure_ (i := 2) (N := some 28) (v := ?_) (a' := ?_) q20M3 rfl rfl (any_of HT_.out (by kernel_rfl)) (fun _ _ _ => id) (Or.inl ⟨by rfl, ?_⟩) ?_ ?_; rotate_left; intro w'; go_simp; (with_reducible rfl); rotate_left; simp only [Act.put, q20s, q20z, q20n, i64_w, i32_w]; rfl; refine pure_ (i := 3) (N := some 29) (v := ?_) (a' := ?_) q20M4 rfl rfl (any_of HT_.out (by kernel_rfl)) (fun _ _ _ => id) (Or.inl ⟨by rfl, ?_⟩) ?_ ?_; rotate_left; intro w'; go_simp; (with_reducible rfl); rotate_left; simp only [Act.put, q20s, q20z, q20n, i64_w, i32_w]; rfl; refine pure_ (i := 5) (N := some 31) (v := ?_) (a' := ?_) q20M5 rfl rfl (any_of HT_.out (by kernel_rfl)) (fun _ _ _ => id) (Or.inl ⟨by rfl, ?_⟩) ?_ ?_; rotate_left; intro w'; go_simp; (with_reducible rfl); rotate_left; simp only [Act.put, q20s, q20z, q20n, i64_w, i32_w]; rfl; refine pure_ (i := 6) (N := some 32) (v := ?_) (a' := ?_) q20M6 rfl rfl (any_of HT_.out (by kernel_rfl)) (fun _ _ _ => id) (Or.inl ⟨by rfl, ?_⟩) ?_ ?_; rotate_left; intro w'; go_simp; (with_reducible rfl); rotate_left; simp only [Act.put, q20s, q20z, q20n, i64_w, i32_w]; rfl; refine pure_ (i := 7) (N := some 33) (v := ?_) (a' := ?_) q20M7 rfl rfl (any_of HT_.out (by kernel_rfl)) (fun _ _ _ => id) (Or.inl ⟨by rfl, ?_⟩) ?_ ?_; rotate_left; intro w'; go_simp; (with_reducible rfl); rotate_left; simp only [Act.put, q20s, q20z, q20n, i64_w, i32_w]; rfl; refine pure_ (i := 8) (N := some 34) (v := ?_) (a' := ?_) q20M8 rfl rfl (any_of HT_.out (by kernel_rfl)) (fun _ _ _ => id) (Or.inl ⟨by rfl, ?_⟩) ?_ ?_; rotate_left; intro w'; go_simp; (with_reducible rfl); rotate_left; simp only [Act.put, q20s, q20z, q20n, i64_w, i32_w]; rfl; refine pure_ (i := 10) (N := some 36) (v := ?_) (a' := ?_) q20M9 rfl rfl (any_of HT_.out (by kernel_rfl)) (fun _ _ _ => id) (Or.inl ⟨by rfl, ?_⟩) ?_ ?_; rotate_left; intro w'; go_simp; (with_reducible rfl); rotate_left; simp only [Act.put, q20s, q20z, q20n, i64_w, i32_w]; rfl; refine take_ (i := 4) (N := some 30) (v := ?_) (a' := ?_) q20M10 rfl rfl (take_ofW HT_.out HW_.out (by kernel_rfl)) (fun _ _ _ => id) (Or.inl ⟨by rfl, ?_⟩) hHeld ?_ ?_; rotate_left
                ·
                 rintro w' ⟨s0, s1⟩; go_simp; with_reducible rfl
                rotate_left
                · simp only [Act.put, q20s, q20z, q20n, i64_w, i32_w]; rfl
                refine take_ (i := 9) (N := some 35) (v := ?_) (a' := ?_) q20M11 rfl rfl (take_ofW HT_.out HW_.out (by kernel_rfl)) (fun _ _ _ => id) (Or.inl ⟨by rfl, ?_⟩) hHeld ?_ ?_; rotate_left
                ·
                 rintro w' ⟨s0, s1⟩; go_simp; with_reducible rfl
                rotate_left
                · simp only [Act.put, q20s, q20z, q20n, i64_w, i32_w]; rfl
                refine one_ (i := 11) (N := some 37) q20M12 rfl rfl (one_of HT_.out (by kernel_rfl)) (by decide) (fun K hK => ?_); refine goes_ Tryz.func127 (by kernel_rfl) rfl #[.int .i64 (rd t216 x5_1), .int .i64 (rd t216 (ji41)), .int .i64 (rd t216 t234)] (by rfl) rfl rfl (by (try simp only [List.map_toArray, List.map_cons, List.map_nil]); first | done | (simp only [hji41]; rfl) | rfl | (simp only [List.length_drop, List.length_take]; rfl)) ?_; with_reducible refine (spec_l5Place.calls kj10 (rd t216 x5_1) (rd t216 (ji41)) (rd t216 t234) t238 _ A44.out).mono ?_
                rintro e w' ⟨rfl, ⟨nd, rfl⟩⟩; refine ⟨_, rfl, ?_⟩; refine hK.out _ _ ⟨hHeld.1, hHeld.2⟩ (fun hHeld => ?_); clear hK K; refine norm_ (a' := ?_) ?_ ?_; rotate_left
                ·
                 show Act.put _ (some 37) _ = _; simp only [Act.put, q20s, q20z, q20n, i64_w, i32_w]; rfl
                refine last_ (i := 12) (N := some 38) q20M13 rfl rfl (one_of HT_.out (by kernel_rfl)) (by decide) (fun K hK => ?_); refine value_ (w1 := ?_) (v := ?_) (by rfl) rfl ?_ ?_; rotate_left 2
                ·
                 go_simp; constructor
                 · rfl
                 · rfl
                refine hK.out _ _ ?_; clear hK K; refine norm_ (a' := ?_) ?_ ?_; rotate_left
                ·
                 show Act.put _ (some 38) _ = _; simp only [Act.put, q20s, q20z, q20n, i64_w, i32_w]; rfl
                refine last_ (i := 13) (N := some 39) q20M14 rfl rfl (one_of HT_.out (by kernel_rfl)) (by decide) (fun K hK => ?_); refine Kd.R_append_step (Kd.int .i64) (w0 := w) w.heap.size (by rfl) (.tmp 26) (.tmp 38) 22 3 (.int .i64 0) 8 rfl Tryz.underlying22 info3 rfl (by decide) (by omega) u4 x4_1 t238 [.int .i64 t238] (fun k_ => some k_ ≠ (.slice (some ad235) t216.length co12 : Value).ownBlock) (fun _ => False) rfl rfl ?aP (fun _ hk => hk.elim) ?aF ?aO ?aB ?aS ?aL ?_; (case aP => exact rfl); (case aB => exact (zA HB.out)); (case aF => exact (fun k_ hk => Kd.fresh' (Kd.R_lt (zF HO_3.out)) k_ hk)); (case aO => exact (zF HO_4.out)); (case aS => exact (below_size (zA HB.out))); (case aL => have := LMc45.out; omega); intro v240 w47 ho hb hg hat; rw [← Ny239.out] at ho; have n0_ := az (Kd.R_after (ok := (fun _ => True)) (zU HO_3.out) hg hat); have n1_ := az (hb); have n2_ := az (ho); clear HO_3; clear HB; clear HO_4; have HO_3 := n0_; have HB := n1_; have HO241 := n2_; clear n0_ n1_ n2_; clear ho hb hg hat; refine hK.out _ _ ?_; clear hK K; refine norm_ (a' := ?_) ?_ ?_; rotate_left
                ·
                 show Act.put _ (some 39) _ = _; simp only [Act.put, q20s, q20z, q20n, i64_w, i32_w]; rfl
                refine pure_ (i := 14) (N := some 4) (v := ?_) (a' := ?_) q20M15 rfl rfl (any_of HT_.out (by kernel_rfl)) (fun _ _ _ => id) (Or.inl ⟨by rfl, ?_⟩) ?_ ?_; rotate_left; intro w'; go_simp; (with_reducible rfl); rotate_left; simp only [Act.put, q20s, q20z, q20n, i64_w, i32_w]; rfl; refine done_ (done_of HT_.out (by kernel_rfl)) ?_; (try go_wp2); go_roundg kj10
                case measure => have := HK1.out; have := HJ10.out; omega
                case rel => exact ⟨(y239), (ji41), (by first | rfl | (simp; done) | (simp only [← hji41] <;> (first | rfl | simp)) | (simp [*]; done)), H', ⟨zL HK1.out HJ10.out⟩, ⟨zQ HO_3.out⟩, ⟨zF HO241.out⟩, ⟨zA HB.out⟩⟩
               ·
                rw [if_neg c45] at H; exact absurd H (by simp)
              ·
               rw [if_neg c43] at H; exact absurd H (by simp)
             ·
              rw [if_neg c42] at H; exact absurd H (by simp)
            ·
             rw [if_neg c40] at H; exact absurd H (by simp)
           ·
            rw [if_neg c39] at H; exact absurd H (by simp)
          ·
           rw [if_neg c38] at H; exact absurd H (by simp)
         ·
          rw [if_neg c37] at H; exact absurd H (by simp)
        ·
         rw [if_neg c36] at H; have c36b0 : decide (0 ≤ t234) = false := decide_eq_false c36; clear c36; by_cases c48 : 0 ≤ x5_1
         ·
          rw [if_pos c48] at H; have c48b0 : decide (0 ≤ x5_1) = true := decide_eq_true c48; clear c48; by_cases c49 : x5_1 < (t216.length : Int)
          ·
           rw [if_pos c49] at H; have c49b0 : decide (x5_1 < (t216.length : Int)) = true := decide_eq_true c49; clear c49; obtain ⟨ji50, hji50⟩ : ∃ j_ : Int, (wrap64 (x5_1 + 1)) = j_ := ⟨_, rfl⟩; replace H : (if 0 ≤ (ji50) then (if (ji50) < (t216.length : Int) then ((spec_l5Place.f kj10 (rd t216 x5_1) (rd t216 (ji50)) 0).bind fun t244 => (if x4_1.length < 17592186044416 then (spec_l5Breaks.l0 kj10 l0 t216 (x4_1 ++ [t244]) ji50) else (none))) else (none)) else (none)) = some r := by first | (rw [hji50] at H; exact H) | (simp only [hji50] at H ⊢; exact H)
           (try rw [hji50] at c7b0); (try rw [hji50] at c7b1); (try rw [hji50] at A35); have hji50w : (IntKind.i64.wrap (x5_1 + 1)) = ji50 := (i64_w _).trans hji50; by_cases c51 : 0 ≤ (ji50)
           ·
            rw [if_pos c51] at H; have c51b0 : decide (0 ≤ (ji50)) = true := decide_eq_true c51; clear c51; by_cases c52 : (ji50) < (t216.length : Int)
            ·
             rw [if_pos c52] at H; have c52b0 : decide ((ji50) < (t216.length : Int)) = true := decide_eq_true c52; clear c52; replace H := Option.bind_eq_some_iff.mp H; obtain ⟨t244, A530, H⟩ := H; replace H : (if x4_1.length < 17592186044416 then (spec_l5Breaks.l0 kj10 l0 t216 (x4_1 ++ [t244]) ji50) else (none)) = some r := H; have A53 := az A530; clear A530; by_cases c54 : x4_1.length < 17592186044416
             ·
              rw [if_pos c54] at H; have LMc54 := az c54; clear c54; obtain ⟨y245, hy245⟩ : ∃ y_ : List Int, y_ = (x4_1 ++ [t244]) := ⟨_, rfl⟩; replace H : (spec_l5Breaks.l0 kj10 l0 t216 y245 ji50) = some r := by first | (rw [hy245]; with_reducible exact H) | (have H2_ := (Option.bind_some _ _).symm.trans H; rw [hy245]; with_reducible exact H2_) | (have H2_ := (Option.bind_some _ _).symm.trans H; with_reducible exact H2_) | with_reducible exact H | (rw [hy245]; exact H) | exact H
              have Ny245 := az hy245; clear hy245; have H' := az H; clear H; (try go_wp2_with (first | ((with_reducible refine gate_callee (f := 126) rfl ?_); refine goesL_ (some 19) rfl rfl Tryz.func126 (by kernel_rfl) rfl #[.slice Ao12 t216.length co12, .int .i64 x5_1] rfl zC ?_; (with_reducible refine (spec_l5Before.calls kj10 _ _ t216 x5_1 t234 _ ?side1 ?side2 A35.out).mono ?_); (case side1 => exact (zR HO_3.out)); (case side2 => exact (Kd.R_reads' HO_3.out).2.1); rintro e w' ⟨rfl, ⟨nd, rfl⟩⟩; refine ⟨_, rfl, ?_⟩))); (try (rw [drewN_self wc]; generalize hq_ : World.drewN wc _ = wc; have n0_ : Aside0 (Kd.R (Kd.int .i64) 3 wc w.heap.size (fun k_ => some k_ ≠ (u4 : Value).ownBlock) (.slice Ao12 t216.length co12) t216) := ⟨by rw [← hq_]; exact (zF HO_3.out)⟩; have n1_ : Aside0 (Kd.R (Kd.int .i64) 3 wc w.heap.size (fun k_ => some k_ ≠ (.slice Ao12 t216.length co12 : Value).ownBlock) u4 x4_1) := ⟨by rw [← hq_]; exact (zF HO_4.out)⟩; have n2_ : Aside0 (Below w.heap.size w wc) := ⟨by rw [← hq_]; exact (zA HB.out)⟩; clear HO_3 HO_4 HB hq_; have HO_3 := n0_; have HO_4 := n1_; have HB := n2_; clear n0_ n1_ n2_)); have n0_ := az (Kd.R_drew HO_3.out); have n1_ := az (Kd.R_drew HO_4.out); have n2_ := az (below_drew1 HB.out); clear HO_3; clear HO_4; clear HB; have HO_3 := n0_; have HO_4 := n1_; have HB := n2_; clear n0_ n1_ n2_; have p242 : 0 ≤ (x5_1 : Int) := of_decide_eq_true (by assumption); have q242 : x5_1 < (t216.length : Int) := of_decide_eq_true (by assumption); obtain ⟨ad242, e242, hx242_0⟩ := Kd.at_int (Kd.R_reads' HO_3.out).2.2 x5_1 p242 q242
              cases e242
              replace p242 := eq_true p242; replace q242 := eq_true q242; have p243 : 0 ≤ ((ji50) : Int) := of_decide_eq_true (by assumption); have q243 : (ji50) < (t216.length : Int) := of_decide_eq_true (by assumption); obtain ⟨ad243, e243, hx243_0⟩ := Kd.at_int (Kd.R_reads' HO_3.out).2.2 (ji50) p243 q243; obtain rfl : ad242 = ad243 := (by injection e243); replace p243 := eq_true p243; replace q243 := eq_true q243; refine start_ (n := 15) (S := fun w' => w'.cell? (ad242.add (x5_1).toNat) = some (.int .i64 (rd t216 x5_1)) ∧ w'.cell? (ad242.add ((ji50)).toNat) = some (.int .i64 (rd t216 (ji50)))) (ds := [12, 13]) q20M0 (by kernel_rfl) rfl rfl ⟨hx242_0, hx243_0⟩ (fun hHeld => ?_); refine with_tabW spec_l5Breaks.tab10 spec_l5Breaks.bits10 (fun HT_ HW_ => ?_); generalize wc.drew = w55 at HO_3 HO_4 HB hx242_0 hx243_0 hHeld ⊢; refine pure_ (i := 0) (N := some 26) (v := ?_) (a' := ?_) q20M1 rfl rfl (any_of HT_.out (by kernel_rfl)) (fun _ _ _ => id) (Or.inl ⟨by rfl, ?_⟩) ?_ ?_; rotate_left; intro w'; go_simp; (with_reducible rfl); rotate_left; simp only [Act.put, q20s, q20z, q20n, i64_w, i32_w]; rfl; refine pure_ (i := 1) (N := some 27) (v := ?_) (a' := ?_) q20M2 rfl rfl (any_of HT_.out (by kernel_rfl)) (fun _ _ _ => id) (Or.inl ⟨by rfl, ?_⟩) ?_ ?_; rotate_left; intro w'; go_simp; (with_reducible rfl); rotate_left; simp only [Act.put, q20s, q20z, q20n, i64_w, i32_w]; rfl; refine pure_ (i := 2) (N := some 28) (v := ?_) (a' := ?_) q20M3 rfl rfl (any_of HT_.out (by kernel_rfl)) (fun _ _ _ => id) (Or.inl ⟨by rfl, ?_⟩) ?_ ?_; rotate_left; intro w'; go_simp; (with_reducible rfl); rotate_left; simp only [Act.put, q20s, q20z, q20n, i64_w, i32_w]; rfl; refine pure_ (i := 3) (N := some 29) (v := ?_) (a' := ?_) q20M4 rfl rfl (any_of HT_.out (by kernel_rfl)) (fun _ _ _ => id) (Or.inl ⟨by rfl, ?_⟩) ?_ ?_; rotate_left; intro w'; go_simp; (with_reducible rfl); rotate_left; simp only [Act.put, q20s, q20z, q20n, i64_w, i32_w]; rfl; refine pure_ (i := 5) (N := some 31) (v := ?_) (a' := ?_) q20M5 rfl rfl (any_of HT_.out (by kernel_rfl)) (fun _ _ _ => id) (Or.inl ⟨by rfl, ?_⟩) ?_ ?_; rotate_left; intro w'; go_simp; (with_reducible rfl); rotate_left; simp only [Act.put, q20s, q20z, q20n, i64_w, i32_w]; rfl; refine pure_ (i := 6) (N := some 32) (v := ?_) (a' := ?_) q20M6 rfl rfl (any_of HT_.out (by kernel_rfl)) (fun _ _ _ => id) (Or.inl ⟨by rfl, ?_⟩) ?_ ?_; rotate_left; intro w'; go_simp; (with_reducible rfl); rotate_left; simp only [Act.put, q20s, q20z, q20n, i64_w, i32_w]; rfl; refine pure_ (i := 7) (N := some 33) (v := ?_) (a' := ?_) q20M7 rfl rfl (any_of HT_.out (by kernel_rfl)) (fun _ _ _ => id) (Or.inl ⟨by rfl, ?_⟩) ?_ ?_; rotate_left; intro w'; go_simp; (with_reducible rfl); rotate_left; simp only [Act.put, q20s, q20z, q20n, i64_w, i32_w]; rfl; refine pure_ (i := 8) (N := some 34) (v := ?_) (a' := ?_) q20M8 rfl rfl (any_of HT_.out (by kernel_rfl)) (fun _ _ _ => id) (Or.inl ⟨by rfl, ?_⟩) ?_ ?_; rotate_left; intro w'; go_simp; (with_reducible rfl); rotate_left; simp only [Act.put, q20s, q20z, q20n, i64_w, i32_w]; rfl; refine pure_ (i := 10) (N := some 36) (v := ?_) (a' := ?_) q20M9 rfl rfl (any_of HT_.out (by kernel_rfl)) (fun _ _ _ => id) (Or.inl ⟨by rfl, ?_⟩) ?_ ?_; rotate_left; intro w'; go_simp; (with_reducible rfl); rotate_left; simp only [Act.put, q20s, q20z, q20n, i64_w, i32_w]; rfl; refine take_ (i := 4) (N := some 30) (v := ?_) (a' := ?_) q20M10 rfl rfl (take_ofW HT_.out HW_.out (by kernel_rfl)) (fun _ _ _ => id) (Or.inl ⟨by rfl, ?_⟩) hHeld ?_ ?_; rotate_left
              ·
               rintro w' ⟨s0, s1⟩; go_simp; with_reducible rfl
              rotate_left
              · simp only [Act.put, q20s, q20z, q20n, i64_w, i32_w]; rfl
              refine take_ (i := 9) (N := some 35) (v := ?_) (a' := ?_) q20M11 rfl rfl (take_ofW HT_.out HW_.out (by kernel_rfl)) (fun _ _ _ => id) (Or.inl ⟨by rfl, ?_⟩) hHeld ?_ ?_; rotate_left
              ·
               rintro w' ⟨s0, s1⟩; go_simp; with_reducible rfl
              rotate_left
              · simp only [Act.put, q20s, q20z, q20n, i64_w, i32_w]; rfl
              refine one_ (i := 11) (N := some 37) q20M12 rfl rfl (one_of HT_.out (by kernel_rfl)) (by decide) (fun K hK => ?_); refine goes_ Tryz.func127 (by kernel_rfl) rfl #[.int .i64 (rd t216 x5_1), .int .i64 (rd t216 (ji50)), .int .i64 0] (by rfl) rfl rfl (by (try simp only [List.map_toArray, List.map_cons, List.map_nil]); first | done | (simp only [hji50]; rfl) | rfl | (simp only [List.length_drop, List.length_take]; rfl)) ?_; with_reducible refine (spec_l5Place.calls kj10 (rd t216 x5_1) (rd t216 (ji50)) 0 t244 _ A53.out).mono ?_
              rintro e w' ⟨rfl, ⟨nd, rfl⟩⟩; refine ⟨_, rfl, ?_⟩; refine hK.out _ _ ⟨hHeld.1, hHeld.2⟩ (fun hHeld => ?_); clear hK K; refine norm_ (a' := ?_) ?_ ?_; rotate_left
              ·
               show Act.put _ (some 37) _ = _; simp only [Act.put, q20s, q20z, q20n, i64_w, i32_w]; rfl
              refine last_ (i := 12) (N := some 38) q20M13 rfl rfl (one_of HT_.out (by kernel_rfl)) (by decide) (fun K hK => ?_); refine value_ (w1 := ?_) (v := ?_) (by rfl) rfl ?_ ?_; rotate_left 2
              ·
               go_simp; constructor
               · rfl
               · rfl
              refine hK.out _ _ ?_; clear hK K; refine norm_ (a' := ?_) ?_ ?_; rotate_left
              ·
               show Act.put _ (some 38) _ = _; simp only [Act.put, q20s, q20z, q20n, i64_w, i32_w]; rfl
              refine last_ (i := 13) (N := some 39) q20M14 rfl rfl (one_of HT_.out (by kernel_rfl)) (by decide) (fun K hK => ?_); refine Kd.R_append_step (Kd.int .i64) (w0 := w) w.heap.size (by rfl) (.tmp 26) (.tmp 38) 22 3 (.int .i64 0) 8 rfl Tryz.underlying22 info3 rfl (by decide) (by omega) u4 x4_1 t244 [.int .i64 t244] (fun k_ => some k_ ≠ (.slice (some ad242) t216.length co12 : Value).ownBlock) (fun _ => False) rfl rfl ?aP (fun _ hk => hk.elim) ?aF ?aO ?aB ?aS ?aL ?_; (case aP => exact rfl); (case aB => exact (zA HB.out)); (case aF => exact (fun k_ hk => Kd.fresh' (Kd.R_lt (zF HO_3.out)) k_ hk)); (case aO => exact (zF HO_4.out)); (case aS => exact (below_size (zA HB.out))); (case aL => have := LMc54.out; omega); intro v246 w56 ho hb hg hat; rw [← Ny245.out] at ho; have n0_ := az (Kd.R_after (ok := (fun _ => True)) (zU HO_3.out) hg hat); have n1_ := az (hb); have n2_ := az (ho); clear HO_3; clear HB; clear HO_4; have HO_3 := n0_; have HB := n1_; have HO247 := n2_; clear n0_ n1_ n2_; clear ho hb hg hat; refine hK.out _ _ ?_; clear hK K; refine norm_ (a' := ?_) ?_ ?_; rotate_left
              ·
               show Act.put _ (some 39) _ = _; simp only [Act.put, q20s, q20z, q20n, i64_w, i32_w]; rfl
              refine pure_ (i := 14) (N := some 4) (v := ?_) (a' := ?_) q20M15 rfl rfl (any_of HT_.out (by kernel_rfl)) (fun _ _ _ => id) (Or.inl ⟨by rfl, ?_⟩) ?_ ?_; rotate_left; intro w'; go_simp; (with_reducible rfl); rotate_left; simp only [Act.put, q20s, q20z, q20n, i64_w, i32_w]; rfl; refine done_ (done_of HT_.out (by kernel_rfl)) ?_; (try go_wp2); go_roundg kj10
              case measure => have := HK1.out; have := HJ10.out; omega
              case rel => exact ⟨(y245), (ji50), (by first | rfl | (simp; done) | (simp only [← hji50] <;> (first | rfl | simp)) | (simp [*]; done)), H', ⟨zL HK1.out HJ10.out⟩, ⟨zQ HO_3.out⟩, ⟨zF HO247.out⟩, ⟨zA HB.out⟩⟩
             ·
              rw [if_neg c54] at H; exact absurd H (by simp)
            ·
             rw [if_neg c52] at H; exact absurd H (by simp)
           ·
            rw [if_neg c51] at H; exact absurd H (by simp)
          ·
           rw [if_neg c49] at H; exact absurd H (by simp)
         ·
          rw [if_neg c48] at H; exact absurd H (by simp)
   ·
    rw [if_neg c6] at H; have c6b0 : decide (x5_1 < (t216.length : Int)) = false := decide_eq_false c6; clear c6; obtain rfl := Option.some.inj H; obtain ⟨Ao57, co57, eo57⟩ := Kd.R_slice HO_3.out; subst eo57; go_wp2; go_ret; exact ⟨_, zG, by (with_reducible repeat (first | apply Kd.R_alloc | apply Kd.R_drewN | apply Kd.R_drew)); exact Kd.R_mono HO_4.out (fun _ hk => trivial), zA HB.out⟩
def spec_l7Empty.f (k : Nat) (a0 : Int) : Option (Bool) := if a0 = 32 then (some true) else (if a0 = 10 then (some true) else ((spec_RuneWide.f k a0).bind fun t248 => (some (t248 == 0))))
theorem spec_l7Empty.mono : ∀ a0 k, LeO (spec_l7Empty.f k a0) (spec_l7Empty.f (k + 1) a0) := by
 intro a0 k; unfold spec_l7Empty.f
 repeat' first
   | (with_reducible exact spec_RuneWide.mono _ _)
   | (with_reducible exact LeO.refl _)
   | (with_reducible exact LeO.none _)
   | (with_reducible refine LeO.ite ?_ ?_)
   | (with_reducible refine LeO.bind ?_ (fun _ => ?_))
   | exact spec_RuneWide.mono _ _
   | exact LeO.none _
   | refine LeO.ite ?_ ?_
   | refine LeO.bind ?_ (fun _ => ?_)
theorem spec_l7Empty.calls (k : Nat) (a0 : Int) (r : Bool) (w : World) (h : spec_l7Empty.f k a0 = some r) :
  Calls Tryz.prog 128 #[.int .i64 a0] w fun e w' => e = .returned (.bool r) ∧ Below w.heap.size w w' := by
 have HB := az (Below.refl w.heap.size w); have H : (if a0 = 32 then (some true) else (if a0 = 10 then (some true) else ((spec_RuneWide.f k a0).bind fun t248 => (some (t248 == 0))))) = some r := h; clear h; by_cases c2 : a0 = 32
 ·
  rw [if_pos c2] at H; have c2b0 : (a0 == 32) = true := beq_iff_eq.mpr c2; have c2b1 : (a0 != 32) = false := bne_eq_false_iff_eq.mpr c2; clear c2; obtain rfl := Option.some.inj H; go_enter Tryz.func128, Tryz.ntmps128; go_wp2; go_ret; exact ⟨zG, zA HB.out⟩
 ·
  rw [if_neg c2] at H; have c2b0 : (a0 == 32) = false := beq_eq_false_iff_ne.mpr c2; have c2b1 : (a0 != 32) = true := bne_iff_ne.mpr c2; by_cases c3 : a0 = 10
  ·
   rw [if_pos c3] at H; have c3b0 : (a0 == 10) = true := beq_iff_eq.mpr c3; have c3b1 : (a0 != 10) = false := bne_eq_false_iff_eq.mpr c3; clear c3; obtain rfl := Option.some.inj H; go_enter Tryz.func128, Tryz.ntmps128; go_wp2; go_ret; exact ⟨zG, zA HB.out⟩
  ·
   rw [if_neg c3] at H; have c3b0 : (a0 == 10) = false := beq_eq_false_iff_ne.mpr c3; have c3b1 : (a0 != 10) = true := bne_iff_ne.mpr c3; replace H := Option.bind_eq_some_iff.mp H; obtain ⟨t248, A40, H⟩ := H; replace H : (some (t248 == 0)) = some r := H; have A4 := az A40; clear A40; obtain rfl := Option.some.inj H; go_enter Tryz.func128, Tryz.ntmps128; go_wp2_with (first | (go_at_call 136; (with_reducible refine (spec_RuneWide.calls k a0 t248 _ A4.out).mono ?_); rintro e w5 ⟨rfl, hb⟩; have n0_ := az (below_step (zA HB.out) hb); clear HB; have HB := n0_; clear n0_; (try clear hb); (try clear hb2); (try clear hk); (try clear hi))); go_ret; exact ⟨zG, zA HB.out⟩
mutual
def spec_l7Wide.j1 : Nat → List Int → Int → Int → Option (Int)
 | 0, _, _, _ => none
 | k + 1, x1, x2, x3 => spec_l7Wide.l1 k x1 x3 0 x2
def spec_l7Wide.l1 : Nat → List Int → Int → Int → Int → Option (Int)
 | 0, _, _, _, _ => none
 | k + 1, x1, x3, x9, x10 => if x10 < x3 then (if 0 ≤ x10 then (if x10 < (x1.length : Int) then (spec_l7Wide.l1 k x1 x3 (wrap64 (x9 + (rd x1 x10))) (wrap64 (x10 + 1))) else (none)) else (none)) else (some x9)
def spec_l7Wide.l0 : Nat → List Int → List Int → Int → Int → Option (Int)
 | 0, _, _, _, _ => none
 | k + 1, x0, x1, x2, x3 => if x3 > x2 then (if 0 ≤ (wrap64 (x3 - 1)) then (if (wrap64 (x3 - 1)) < (x0.length : Int) then ((spec_l7Empty.f k (rd x0 (wrap64 (x3 - 1)))).bind fun t250 => (if t250 = true then (spec_l7Wide.l0 k x0 x1 x2 (wrap64 (x3 - 1))) else (spec_l7Wide.j1 k x1 x2 x3))) else (none)) else (none)) else (spec_l7Wide.j1 k x1 x2 x3)
end
def spec_l7Wide.f (k : Nat) (l0 : List Int) (l1 : List Int) (a2 : Int) (a3 : Int) : Option (Int) := spec_l7Wide.l0 k l0 l1 a2 a3
theorem spec_l7Wide.mono_l : ∀ k, (∀ y0 y1 y2, LeO (spec_l7Wide.j1 k y0 y1 y2) (spec_l7Wide.j1 (k + 1) y0 y1 y2)) ∧ (∀ y0 y1 y2 y3, LeO (spec_l7Wide.l1 k y0 y1 y2 y3) (spec_l7Wide.l1 (k + 1) y0 y1 y2 y3)) ∧ (∀ y0 y1 y2 y3, LeO (spec_l7Wide.l0 k y0 y1 y2 y3) (spec_l7Wide.l0 (k + 1) y0 y1 y2 y3))
 | 0 => ⟨fun _ _ _ r h => by simp [spec_l7Wide.j1] at h, fun _ _ _ _ r h => by simp [spec_l7Wide.l1] at h, fun _ _ _ _ r h => by simp [spec_l7Wide.l0] at h⟩
 | k + 1 => by
  obtain ⟨ih0, ih1, ih2⟩ := spec_l7Wide.mono_l k; refine ⟨?_, ?_, ?_⟩
  ·
   intro y0 y1 y2; unfold spec_l7Wide.j1
   repeat' first
   | (with_reducible exact ih0 _ _ _)
   | (with_reducible exact ih1 _ _ _ _)
   | (with_reducible exact ih2 _ _ _ _)
   | (with_reducible exact spec_l7Empty.mono _ _)
   | (with_reducible exact LeO.refl _)
   | (with_reducible exact LeO.none _)
   | (with_reducible refine LeO.ite ?_ ?_)
   | (with_reducible refine LeO.bind ?_ (fun _ => ?_))
   | exact ih0 _ _ _
   | exact ih1 _ _ _ _
   | exact ih2 _ _ _ _
   | exact spec_l7Empty.mono _ _
   | exact LeO.none _
   | refine LeO.ite ?_ ?_
   | refine LeO.bind ?_ (fun _ => ?_)
  ·
   intro y0 y1 y2 y3; unfold spec_l7Wide.l1
   repeat' first
   | (with_reducible exact ih0 _ _ _)
   | (with_reducible exact ih1 _ _ _ _)
   | (with_reducible exact ih2 _ _ _ _)
   | (with_reducible exact spec_l7Empty.mono _ _)
   | (with_reducible exact LeO.refl _)
   | (with_reducible exact LeO.none _)
   | (with_reducible refine LeO.ite ?_ ?_)
   | (with_reducible refine LeO.bind ?_ (fun _ => ?_))
   | exact ih0 _ _ _
   | exact ih1 _ _ _ _
   | exact ih2 _ _ _ _
   | exact spec_l7Empty.mono _ _
   | exact LeO.none _
   | refine LeO.ite ?_ ?_
   | refine LeO.bind ?_ (fun _ => ?_)
  ·
   intro y0 y1 y2 y3; unfold spec_l7Wide.l0
   repeat' first
   | (with_reducible exact ih0 _ _ _)
   | (with_reducible exact ih1 _ _ _ _)
   | (with_reducible exact ih2 _ _ _ _)
   | (with_reducible exact spec_l7Empty.mono _ _)
   | (with_reducible exact LeO.refl _)
   | (with_reducible exact LeO.none _)
   | (with_reducible refine LeO.ite ?_ ?_)
   | (with_reducible refine LeO.bind ?_ (fun _ => ?_))
   | exact ih0 _ _ _
   | exact ih1 _ _ _ _
   | exact ih2 _ _ _ _
   | exact spec_l7Empty.mono _ _
   | exact LeO.none _
   | refine LeO.ite ?_ ?_
   | refine LeO.bind ?_ (fun _ => ?_)
theorem spec_l7Wide.mono : ∀ a0 a1 a2 a3 k, LeO (spec_l7Wide.f k a0 a1 a2 a3) (spec_l7Wide.f (k + 1) a0 a1 a2 a3) := by
 intro a0 a1 a2 a3 k; obtain ⟨ih0, ih1, ih2⟩ := spec_l7Wide.mono_l k; unfold spec_l7Wide.f
 repeat' first
   | (with_reducible exact ih0 _ _ _)
   | (with_reducible exact ih1 _ _ _ _)
   | (with_reducible exact ih2 _ _ _ _)
   | (with_reducible exact spec_l7Empty.mono _ _)
   | (with_reducible exact LeO.refl _)
   | (with_reducible exact LeO.none _)
   | (with_reducible refine LeO.ite ?_ ?_)
   | (with_reducible refine LeO.bind ?_ (fun _ => ?_))
   | exact ih0 _ _ _
   | exact ih1 _ _ _ _
   | exact ih2 _ _ _ _
   | exact spec_l7Empty.mono _ _
   | exact LeO.none _
   | refine LeO.ite ?_ ?_
   | refine LeO.bind ?_ (fun _ => ?_)
theorem spec_l7Wide.calls (k : Nat) (A0 : Option Addr) (c0 : Nat) (l0 : List Int) (A1 : Option Addr) (c1 : Nat) (l1 : List Int) (a2 : Int) (a3 : Int) (r : Int) (w : World) (hr0 : Kd.C (Kd.int .i64) w A0 l0.length l0) (hc0 : l0.length ≤ c0) (hr1 : Kd.C (Kd.int .i64) w A1 l1.length l1) (hc1 : l1.length ≤ c1) (h : spec_l7Wide.f k l0 l1 a2 a3 = some r) :
  Calls Tryz.prog 92 #[.slice A0 l0.length c0, .slice A1 l1.length c1, .int .i64 a2, .int .i64 a3] w fun e w' => e = .returned (.int .i64 r) ∧ Below w.heap.size w w' := by
 have HR0 := az hr0; have HC0 := az hc0; clear hr0 hc0; have HR1 := az hr1; have HC1 := az hc1; clear hr1 hc1; have HB := az (Below.refl w.heap.size w); have H : (spec_l7Wide.l0 k l0 l1 a2 a3) = some r := h; clear h; have HC5 := az H; clear H; go_enter Tryz.func92, Tryz.ntmps92; go_upto_block 0 with (fail)
 go_cut [3] (fun v3 wc => ∃ (kq : Nat) (x3_4 : Int), v3 = .int .i64 x3_4 ∧ Aside0 (spec_l7Wide.j1 kq l1 a2 x3_4 = some r) ∧ Aside0 (kq ≤ k) ∧ Aside0 (Below w.heap.size w wc))
 case first =>
  have H := HC5.out; clear HC5; have H' := az H; clear H; go_wp2; go_loopg [3] k (fun kq v3 w' => ∃ (x3_1 : Int), v3 = .int .i64 x3_1 ∧ Aside0 (spec_l7Wide.l0 kq l0 l1 a2 x3_1 = some r) ∧ Aside0 (kq ≤ k) ∧ Aside0 (Below w.heap.size w w'))
  case atStart => exact ⟨(a3), zB, H', ⟨Nat.le_refl _⟩, ⟨zA HB.out⟩⟩
  case round =>
   clear H'; (try clear c1); (try clear p2); obtain ⟨x3_1, rfl, HA, HK1, HB⟩ := hrel
   cases gk with
   | zero => exact absurd HA.out (by simp [spec_l7Wide.l0])
   | succ k1 =>
    have H := HA.out; clear HA; simp only [spec_l7Wide.l0] at H; by_cases c6 : x3_1 > a2
    ·
     rw [if_pos c6] at H; have c6b0 : decide (a2 < x3_1) = true := decide_eq_true c6; clear c6; (first | rw [c6b0] | (simp only [i64_w, i32_w]; rw [c6b0]) | skip); obtain ⟨ji7, hji7⟩ : ∃ j_ : Int, (wrap64 (x3_1 - 1)) = j_ := ⟨_, rfl⟩; replace H : (if 0 ≤ (ji7) then (if (ji7) < (l0.length : Int) then ((spec_l7Empty.f k1 (rd l0 (ji7))).bind fun t250 => (if t250 = true then (spec_l7Wide.l0 k1 l0 l1 a2 ji7) else (spec_l7Wide.j1 k1 l1 a2 x3_1))) else (none)) else (none)) = some r := by first | (rw [hji7] at H; exact H) | (simp only [hji7] at H ⊢; exact H)
     have hji7w : (IntKind.i64.wrap (x3_1 - 1)) = ji7 := (i64_w _).trans hji7; by_cases c8 : 0 ≤ (ji7)
     ·
      rw [if_pos c8] at H; have c8b0 : decide (0 ≤ (ji7)) = true := decide_eq_true c8; clear c8; by_cases c9 : (ji7) < (l0.length : Int)
      ·
       rw [if_pos c9] at H; have c9b0 : decide ((ji7) < (l0.length : Int)) = true := decide_eq_true c9; clear c9; replace H := Option.bind_eq_some_iff.mp H; obtain ⟨t250, A100, H⟩ := H; replace H : (if t250 = true then (spec_l7Wide.l0 k1 l0 l1 a2 ji7) else (spec_l7Wide.j1 k1 l1 a2 x3_1)) = some r := H; have A10 := az A100; clear A100; by_cases c11 : t250 = true
       ·
        subst c11; have H1 : (spec_l7Wide.l0 k1 l0 l1 a2 ji7) = some r := by rw [if_pos rfl] at H; exact H
        clear H; have H := H1; clear H1; have H' := az H; clear H; have p249 : 0 ≤ ((ji7) : Int) := of_decide_eq_true (by assumption); have q249 : (ji7) < (l0.length : Int) := of_decide_eq_true (by assumption); obtain ⟨ad249, e249, hx249_0⟩ := Kd.at_int HR0.out (ji7) p249 q249
        cases e249
        replace hx249_0 := (HB.out.cell (World.block_lt_of_cell? w _ hx249_0)).trans hx249_0; replace p249 := eq_true p249; replace q249 := eq_true q249; go_wp2_with (first | (go_at_call 128; (with_reducible refine (spec_l7Empty.calls k1 (rd l0 (ji7)) true _ A10.out).mono ?_); rintro e w12 ⟨rfl, hb⟩; have n0_ := az (below_step (zA HB.out) hb); clear HB; have HB := n0_; clear n0_; (try clear hb); (try clear hb2); (try clear hk); (try clear hi))); go_roundg k1
        case measure => have := HK1.out; omega
        case rel => exact ⟨(ji7), (by first | rfl | (simp; done) | (simp only [← hji7] <;> (first | rfl | simp)) | (simp [*]; done)), H', ⟨zE HK1.out⟩, ⟨zA HB.out⟩⟩
       ·
        replace c11 := Bool.eq_false_iff.mpr c11; subst c11; have H1 : (spec_l7Wide.j1 k1 l1 a2 x3_1) = some r := by rw [if_neg (show ¬ (false = true) by decide)] at H; exact H
        clear H; have H := H1; clear H1; have H' := az H; clear H; have p249 : 0 ≤ ((ji7) : Int) := of_decide_eq_true (by assumption); have q249 : (ji7) < (l0.length : Int) := of_decide_eq_true (by assumption); obtain ⟨ad249, e249, hx249_0⟩ := Kd.at_int HR0.out (ji7) p249 q249
        cases e249
        replace hx249_0 := (HB.out.cell (World.block_lt_of_cell? w _ hx249_0)).trans hx249_0; replace p249 := eq_true p249; replace q249 := eq_true q249; go_wp2_with (first | (go_at_call 128; (with_reducible refine (spec_l7Empty.calls k1 (rd l0 (ji7)) false _ A10.out).mono ?_); rintro e w13 ⟨rfl, hb⟩; have n0_ := az (below_step (zA HB.out) hb); clear HB; have HB := n0_; clear n0_; (try clear hb); (try clear hb2); (try clear hk); (try clear hi))); go_meet
        case rel => exact ⟨_, (x3_1), zB, H', ⟨zK HK1.out⟩, ⟨zA HB.out⟩⟩
      ·
       rw [if_neg c9] at H; exact absurd H (by simp)
     ·
      rw [if_neg c8] at H; exact absurd H (by simp)
    ·
     rw [if_neg c6] at H; have c6b0 : decide (a2 < x3_1) = false := decide_eq_false c6; clear c6; (first | rw [c6b0] | (simp only [i64_w, i32_w]; rw [c6b0]) | skip); have H' := az H; clear H; go_wp2; go_meet
     case rel => exact ⟨_, (x3_1), zB, H', ⟨zK HK1.out⟩, ⟨zA HB.out⟩⟩
 case rest =>
  clear HC5; (try clear c1); (try clear p2); (try clear q2); (try clear hx2); (try clear c6); (try clear c6b0); (try clear p6); (try clear c8); (try clear c8b0); (try clear c9); (try clear c9b0); (try clear c11); (try clear hx249_0); (try clear p2); (try clear p249); (try clear q249); obtain ⟨kq, x3_4, rfl, HA, HJ4, HB⟩ := hcut
  cases kq with
  | zero => exact absurd HA.out (by simp [spec_l7Wide.j1])
  | succ kj4 =>
   have H := HA.out; clear HA; simp only [spec_l7Wide.j1] at H; have H' := az H; clear H; go_wp2; go_loopg [9, 10] kj4 (fun kq v9 v10 w' => ∃ (x9_2 : Int) (x10_2 : Int), v9 = .int .i64 x9_2 ∧ v10 = .int .i64 x10_2 ∧ Aside0 (spec_l7Wide.l1 kq l1 x3_4 x9_2 x10_2 = some r) ∧ Aside0 (kq ≤ kj4) ∧ Aside0 (Below w.heap.size w w'))
   case atStart => exact ⟨(0), (a2), zB, zB, H', ⟨Nat.le_refl _⟩, ⟨zA HB.out⟩⟩
   case round =>
    clear H'; (try clear c1); (try clear p2); (try clear q2); (try clear hx2); (try clear c6); (try clear c6b0); (try clear p6); (try clear c8); (try clear c8b0); (try clear c9); (try clear c9b0); (try clear c11); (try clear hx249_0); (try clear p2); (try clear p249); (try clear p6); (try clear q2); (try clear q249); obtain ⟨x9_2, x10_2, rfl, rfl, HA, HK2, HB⟩ := hrel
    cases gk with
    | zero => exact absurd HA.out (by simp [spec_l7Wide.l1])
    | succ k2 =>
     have H := HA.out; clear HA; simp only [spec_l7Wide.l1] at H; by_cases c14 : x10_2 < x3_4
     ·
      rw [if_pos c14] at H; have c14b0 : decide (x10_2 < x3_4) = true := decide_eq_true c14; clear c14; by_cases c15 : 0 ≤ x10_2
      ·
       rw [if_pos c15] at H; have c15b0 : decide (0 ≤ x10_2) = true := decide_eq_true c15; clear c15; by_cases c16 : x10_2 < (l1.length : Int)
       ·
        rw [if_pos c16] at H; have c16b0 : decide (x10_2 < (l1.length : Int)) = true := decide_eq_true c16; clear c16; have H' := az H; clear H; have p251 : 0 ≤ (x10_2 : Int) := of_decide_eq_true (by assumption); have q251 : x10_2 < (l1.length : Int) := of_decide_eq_true (by assumption); obtain ⟨ad251, e251, hx251_0⟩ := Kd.at_int HR1.out x10_2 p251 q251
        cases e251
        replace hx251_0 := (HB.out.cell (World.block_lt_of_cell? w _ hx251_0)).trans hx251_0; replace p251 := eq_true p251; replace q251 := eq_true q251; go_wp2; go_roundg k2
        case measure => have := HJ4.out; have := HK2.out; omega
        case rel => exact ⟨(wrap64 (x9_2 + (rd l1 x10_2))), (wrap64 (x10_2 + 1)), zB, zB, H', ⟨zL HJ4.out HK2.out⟩, ⟨zA HB.out⟩⟩
       ·
        rw [if_neg c16] at H; exact absurd H (by simp)
      ·
       rw [if_neg c15] at H; exact absurd H (by simp)
     ·
      rw [if_neg c14] at H; have c14b0 : decide (x10_2 < x3_4) = false := decide_eq_false c14; clear c14; obtain rfl := Option.some.inj H; go_wp2; go_ret; exact ⟨zG, zA HB.out⟩
theorem l7Made_calls (k : Nat) (A0 : Option Addr) (c0 : Nat) (rs : List Int) (A1 : Option Addr) (c1 : Nat) (sp : List S50) (wide : Int) (ws bs : List Int) (w : World) (hr0 : Kd.C (Kd.int .i64) w A0 rs.length rs) (hc0 : rs.length ≤ c0) (hr1 : Kd.C k50 w A1 sp.length sp) (hc1 : sp.length ≤ c1) (hw : spec_l6Wides.f k rs sp = some ws) (hb : spec_l5Breaks.f k rs = some bs) :
  Calls Tryz.prog 63 #[.slice A0 rs.length c0, .slice A1 sp.length c1, .int .i64 wide] w fun e w' => ∃ (gb : Nat) (A2 : Option Addr) (c2 : Nat) (A3 : Option Addr) (c3 : Nat), e = .returned (.pointer (some ⟨gb, 0, none⟩)) ∧ FlO 77 gb A0 c0 rs A2 c2 ws A3 c3 bs wide w' ∧ Below w.heap.size w w' := by
 have HR := az hr0
 have HC := az hc0
 have HR1 := az hr1
 have HC1 := az hc1
 have HW := az hw
 have HB := az hb
 clear hr0 hc0 hr1 hc1 hw hb
 go_enter Tryz.func63, Tryz.ntmps63
 go_wp2_with (first
  | (go_at_call 90; go_must (refine (spec_l6Wides.calls k A0 c0 rs A1 c1 sp ws _ HR.out HC.out HR1.out HC1.out HW.out).mono ?_); rintro e w1 ⟨v1, rfl, ho1, hb1⟩; obtain ⟨A2, c2, e2⟩ := Kd.R_slice ho1; subst e2; have HO1 := az ho1; have HB1 := az hb1; clear ho1 hb1)
  | (go_at_call 91; go_must (refine (spec_l5Breaks.calls k A0 c0 rs bs _ (Kd.C_below HR.out HB1.out) HC.out HB.out).mono ?_); rintro e w2 ⟨v2, rfl, ho2, hb2⟩; obtain ⟨A3, c3, e3⟩ := Kd.R_slice ho2; subst e3; have HO2 := az ho2; have HW2 := az (Kd.C_below (Kd.R_reads' HO1.out).2.2 hb2); have HB2 := az (below_then HB1.out HB1.out.size hb2); clear ho2 hb2))
 go_ret
 have hn := blk_new w2 (.cells #[.slice A0 rs.length c0, .slice A2 ws.length c2, .slice A3 bs.length c3, .int .i64 wide] 77)
 have ha : Below w2.heap.size w2 (w2.alloc (.cells #[.slice A0 rs.length c0, .slice A2 ws.length c2, .slice A3 bs.length c3, .int .i64 wide] 77)) := below_alloc (Below.refl _ _) _
 exact ⟨w2.heap.size, A2, c2, A3, c3, rfl, ⟨hn, Kd.C_below (Kd.C_below HR.out HB2.out) ha, HC.out, Kd.C_below HW2.out ha, (Kd.R_reads' HO1.out).2.1, Kd.C_below (Kd.R_reads' HO2.out).2.2 ha, (Kd.R_reads' HO2.out).2.1⟩, below_alloc HB2.out _⟩
theorem fitsS_calls (k : Nat) (gb : Nat) (A0 : Option Addr) (c0 : Nat) (rs : List Int) (A1 : Option Addr) (c1 : Nat) (ws : List Int) (A2 : Option Addr) (c2 : Nat) (bs : List Int) (wide from_ to_ x : Int) (w : World) (hf : FlO 77 gb A0 c0 rs A1 c1 ws A2 c2 bs wide w) (hx : spec_l7Wide.f k rs ws from_ to_ = some x) :
  Calls Tryz.prog 64 #[.pointer (some ⟨gb, 0, none⟩), .int .i64 from_, .int .i64 to_] w fun e w' => e = .returned (.bool (decide (x ≤ wide))) ∧ Below w.heap.size w w' := by
 have hS := FlI.of (w0 := w) hf (Below.refl _ _)
 have HX := az hx
 unfold FlI at hS
 clear hf hx
 go_enter Tryz.func64, Tryz.ntmps64
 go_upto_region 1 with fail
 go_region_held3 (fun W => W.cell? ⟨gb, 0, none⟩ = some (.slice A0 rs.length c0) ∧ W.cell? ⟨gb, 1, none⟩ = some (.slice A1 ws.length c1) ∧ W.cell? ⟨gb, 2, none⟩ = some (.slice A2 bs.length c2) ∧ W.cell? ⟨gb, 3, none⟩ = some (.int .i64 wide) ∧ Aside0 (FlO 77 gb A0 c0 rs A1 c1 ws A2 c2 bs wide W ∧ Below w.heap.size w W)) (first | (with_reducible assumption) | (with_reducible refine FlI.below ?_ zH; with_reducible assumption) | (with_reducible exact FlI.drew zH)) (first
  | (go_at_call 92; refine (spec_l7Wide.calls k A0 c0 rs A1 c1 ws from_ to_ x _ ?s1 ?s2 ?s3 ?s4 HX.out).mono ?_; (case s1 => exact (show FlI 77 gb A0 c0 rs A1 c1 ws A2 c2 bs wide w _ from zH).2.2.2.2.out.1.2.1); (case s2 => exact (show FlI 77 gb A0 c0 rs A1 c1 ws A2 c2 bs wide w _ from zH).2.2.2.2.out.1.2.2.1); (case s3 => exact (show FlI 77 gb A0 c0 rs A1 c1 ws A2 c2 bs wide w _ from zH).2.2.2.2.out.1.2.2.2.1); (case s4 => exact (show FlI 77 gb A0 c0 rs A1 c1 ws A2 c2 bs wide w _ from zH).2.2.2.2.out.1.2.2.2.2.1); rintro e w3 ⟨rfl, p⟩))
 all_goals
  go_wp2
  go_ret
  exact ⟨rfl, (show FlI 77 gb A0 c0 rs A1 c1 ws A2 c2 bs wide w _ from zH).2.2.2.2.out.2⟩
theorem mustS_calls (gb : Nat) (A0 : Option Addr) (c0 : Nat) (rs : List Int) (A1 : Option Addr) (c1 : Nat) (ws : List Int) (A2 : Option Addr) (c2 : Nat) (bs : List Int) (wide : Int) (m : Nat) (w : World) (hf : FlO 77 gb A0 c0 rs A1 c1 ws A2 c2 bs wide w) (hm : m ≤ bs.length) (hn : bs.length ≤ 1000) :
  Calls Tryz.prog 65 #[.pointer (some ⟨gb, 0, none⟩), .int .i64 m] w fun e w' => e = .returned (.int .i64 (mustV bs rs.length m)) ∧ Drawn0 w w' := by
 have HS := az hf
 have HM := az hm
 clear hf hm
 go_enter Tryz.func65, Tryz.ntmps65
 go_wp2
 go_loopg [5] bs.length (fun gg s5 wr => ∃ i : Nat, s5 = .int .i64 i ∧ i ≤ bs.length ∧ bs.length - i ≤ gg ∧ Aside0 (mustN bs rs.length (bs.length - i) i = mustV bs rs.length m) ∧ Aside0 (Drawn0 w wr))
 case atStart => exact ⟨m, rfl, HM.out, by omega, ⟨rfl⟩, ⟨Drawn0.refl _⟩⟩
 case round =>
  obtain ⟨i, rfl, hi, hg, HF, HD⟩ := hrel
  have HQ := az (HS.out.below HD.out.below)
  have q0 := (blk_cell HQ.out.1 0).trans (show _ = some (Value.slice A0 rs.length c0) from rfl)
  have q2 := (blk_cell HQ.out.1 2).trans (show _ = some (Value.slice A2 bs.length c2) from rfl)
  by_cases hlt : i < bs.length
  ·
   have hltz : (i : Int) < (bs.length : Int) := by omega
   have hi0 : (0 : Int) ≤ (i : Int) := by omega
   obtain ⟨ad, hA, hx⟩ := Kd.at_int HQ.out.2.2.2.2.2.1 (i : Int) hi0 hltz
   subst hA
   have hxx : rd bs (i : Int) = bs.getD i 0 := by simp [rd]
   rw [hxx, Int.toNat_natCast] at hx
   have hq := HF.out
   rw [show bs.length - i = (bs.length - (i + 1)) + 1 by omega, mustN] at hq
   obtain ⟨y, hy⟩ : ∃ y, bs.getD i 0 = y := ⟨_, rfl⟩
   rw [hy] at hx hq
   have HLT := az hlt
   clear hxx hy HF
   by_cases h2 : y = 2
   ·
    rw [if_pos h2] at hq
    have HR := az hq
    have b2 : (y == 2) = true := beq_iff_eq.mpr h2
    clear h2 hq
    go_wp2
    go_ret
    exact ⟨by rw [← HR.out]; first | rfl | (congr 2; unfold wrap64; omega), HD.out⟩
   ·
    rw [if_neg h2] at hq
    have HR := az hq
    have b2 : (y == 2) = false := beq_eq_false_iff_ne.mpr h2
    clear h2 hq
    go_wp2
    go_roundg (bs.length - (i + 1))
    case measure => have := HLT.out; omega
    case rel => exact ⟨i + 1, by go_num, HLT.out, Nat.le_refl _, HR, HD⟩
  ·
   have hltz : ¬ (i : Int) < (bs.length : Int) := by omega
   obtain rfl : i = bs.length := by omega
   have hq := HF.out
   rw [Nat.sub_self, mustN] at hq
   have HR := az hq
   clear hq HF
   go_wp2
   go_ret
   exact ⟨by rw [← HR.out]; first | done | rfl, HD.out⟩
theorem costS_calls (k : Nat) (gb : Nat) (A0 : Option Addr) (c0 : Nat) (rs : List Int) (A1 : Option Addr) (c1 : Nat) (ws : List Int) (A2 : Option Addr) (c2 : Nat) (bs : List Int) (wide from_ to_ x : Int) (m : Nat) (w : World) (hf : FlO 77 gb A0 c0 rs A1 c1 ws A2 c2 bs wide w) (hm : to_ - 1 = (m : Int)) (hmb : m < bs.length) (hx : spec_l7Wide.f k rs ws from_ to_ = some x) (hb : (wide - x).natAbs ≤ 1000000000) :
  Calls Tryz.prog 67 #[.pointer (some ⟨gb, 0, none⟩), .int .i64 from_, .int .i64 to_] w fun e w' => e = .returned (.int .i64 (if bs.getD m 0 = 2 then 0 else (wide - x) * (wide - x))) ∧ Below w.heap.size w w' := by
 have hm0 : (0 : Int) ≤ (m : Int) := by omega
 have hmz : (m : Int) < (bs.length : Int) := by omega
 have hl := hf.2.2.2.2.2.1.2.1
 obtain ⟨ad5, hA5, hx5⟩ := Kd.at_int hf.2.2.2.2.2.1 (m : Int) hm0 hmz
 subst hA5
 have hxx : rd bs (m : Int) = bs.getD m 0 := by simp [rd]
 rw [hxx, Int.toNat_natCast] at hx5
 obtain ⟨y, hy⟩ : ∃ y, bs.getD m 0 = y := ⟨_, rfl⟩
 rw [hy] at hx5 ⊢
 have hw1 : IntKind.i64.wrap (to_ - 1) = (m : Int) := by rw [i64_w]; unfold wrap64; omega
 have hw2 : wrap64 (to_ - 1) = (m : Int) := by unfold wrap64; omega
 obtain ⟨d, hd⟩ : ∃ d, wide - x = d := ⟨_, rfl⟩
 rw [hd] at hb ⊢
 have hs := sq_fit d hb
 have hw3 : wrap64 (wide - x) = d := by unfold wrap64; omega
 have hw4 : IntKind.i64.wrap (wide - x) = d := by rw [i64_w]; exact hw3
 have hw5 : wrap64 (d * d) = d * d := by unfold wrap64; omega
 have hw6 : IntKind.i64.wrap (d * d) = d * d := by rw [i64_w]; exact hw5
 clear hxx hy hm hs hb hd hmb
 have HX := az hx
 clear hx
 by_cases h2 : y = 2
 ·
  rw [if_pos h2]
  have b2 : (y == 2) = true := beq_iff_eq.mpr h2
  have q2 := (blk_cell hf.1 2).trans (show _ = some (Value.slice (some ad5) bs.length c2) from rfl)
  clear h2 hf
  go_enter Tryz.func67, Tryz.ntmps67
  go_wp2
  go_ret
  exact ⟨rfl, by repeat (first | exact Below.refl _ _ | apply pw_below_drewN | apply below_drew1)⟩
 ·
  rw [if_neg h2]
  have b2 : (y == 2) = false := beq_eq_false_iff_ne.mpr h2
  have hS := FlI.of (w0 := w) hf (Below.refl _ _)
  unfold FlI at hS
  clear h2 hf
  go_enter Tryz.func67, Tryz.ntmps67
  obtain ⟨q0, q1, q2, q3, q4⟩ := hS
  go_upto_region 3 with fail
  have hS : FlI 77 gb A0 c0 rs A1 c1 ws (some ad5) c2 bs wide w w := ⟨q0, q1, q2, q3, q4⟩
  unfold FlI at hS
  clear q0 q1 q2 q3 q4 hx5
  go_region_held3 (fun W => W.cell? ⟨gb, 0, none⟩ = some (.slice A0 rs.length c0) ∧ W.cell? ⟨gb, 1, none⟩ = some (.slice A1 ws.length c1) ∧ W.cell? ⟨gb, 2, none⟩ = some (.slice (some ad5) bs.length c2) ∧ W.cell? ⟨gb, 3, none⟩ = some (.int .i64 wide) ∧ Aside0 (FlO 77 gb A0 c0 rs A1 c1 ws (some ad5) c2 bs wide W ∧ Below w.heap.size w W)) (first | (with_reducible assumption) | (with_reducible refine FlI.below ?_ zH; with_reducible assumption) | (with_reducible exact FlI.drew zH)) (first
   | (go_at_call 92; refine (spec_l7Wide.calls k A0 c0 rs A1 c1 ws from_ to_ x _ ?s1 ?s2 ?s3 ?s4 HX.out).mono ?_; (case s1 => exact (show FlI 77 gb A0 c0 rs A1 c1 ws (some ad5) c2 bs wide w _ from zH).2.2.2.2.out.1.2.1); (case s2 => exact (show FlI 77 gb A0 c0 rs A1 c1 ws (some ad5) c2 bs wide w _ from zH).2.2.2.2.out.1.2.2.1); (case s3 => exact (show FlI 77 gb A0 c0 rs A1 c1 ws (some ad5) c2 bs wide w _ from zH).2.2.2.2.out.1.2.2.2.1); (case s4 => exact (show FlI 77 gb A0 c0 rs A1 c1 ws (some ad5) c2 bs wide w _ from zH).2.2.2.2.out.1.2.2.2.2.1); rintro e w3 ⟨rfl, p⟩))
  all_goals
   go_wp2
   go_ret
   exact ⟨rfl, (show FlI 77 gb A0 c0 rs A1 c1 ws (some ad5) c2 bs wide w _ from zH).2.2.2.2.out.2⟩
end Go.Proofs.YtmcdcogedcbndaaGreat.S
