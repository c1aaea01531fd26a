/- Of drawn letters, spans, a width and a way: a line that is too wide is one cluster; one that ends within a word ends with a cluster, and the word has no room on it; the lines are the reference's. No condition beyond the statement's own. (text 2 of 7 of this claim: functions of the program and of the reference as plain Lean functions, what a call of each comes to, and what follows.) -/
import Derived.Test.YtmcdcogedcbndaaGreatZFnFillForcedA0
set_option maxHeartbeats 16000000
set_option maxRecDepth 100000
set_option linter.unusedVariables false
set_option linter.unusedSimpArgs false
namespace Go.Proofs.YtmcdcogedcbndaaGreat.S
open Go.RowKit Go.Proofs.YtmcdcogedcbndaaGreatW.PrintWords Go.Proofs.YtmcdcogedcbndaaGreatW.PrintLast
set_option linter.unusedVariables false
set_option linter.unusedSimpArgs false
def impl_widesOf.l0 : Nat → List Int → List (S50) → List Int → List Int → Int → Int → Option (List Int)
 | 0, _, _, _, _, _, _ => none
 | k + 1, x0, x1, x5, x12, x13, x14 => if x14 < x13 then (if 0 ≤ x14 then (if x14 < (x12.length : Int) then ((impl_clusterWide.f k x0 (rd x12 x14)).bind fun t349 => ((impl_lookAt.f k x1 (rd x12 x14)).bind fun bt350 => (if 0 ≤ (rd x12 x14) then (if (rd x12 x14) < (x5.length : Int) then (impl_widesOf.l0 k x0 x1 (x5.set ((rd x12 x14) : Int).toNat (wrap64 (t349 * bt350.1))) x12 x13 (wrap64 (x14 + 1))) else (none)) else (none)))) else (none)) else (none)) else (some x5)
def impl_widesOf.f (k : Nat) (l0 : List Int) (l1 : List (S50)) : Option (List Int) := if 0 ≤ (l0.length : Int) then (if ((l0.length : Int) : Int).toNat ≤ 35184372088832 then ((impl_starts.f k l0).bind fun t345 => (impl_widesOf.l0 k l0 l1 (List.replicate ((l0.length : Int) : Int).toNat 0) t345 (t345.length : Int) 0)) else (none)) else (none)
theorem impl_widesOf.mono_l : ∀ k, (∀ y0 y1 y2 y3 y4 y5, LeO (impl_widesOf.l0 k y0 y1 y2 y3 y4 y5) (impl_widesOf.l0 (k + 1) y0 y1 y2 y3 y4 y5))
 | 0 => fun _ _ _ _ _ _ r h => by simp [impl_widesOf.l0] at h
 | k + 1 => by
  have ih0 := impl_widesOf.mono_l k
  ·
   intro y0 y1 y2 y3 y4 y5; unfold impl_widesOf.l0
   repeat' first
   | (with_reducible exact ih0 _ _ _ _ _ _)
   | (with_reducible exact impl_clusterWide.mono _ _ _)
   | (with_reducible exact impl_lookAt.mono _ _ _)
   | (with_reducible exact impl_starts.mono _ _)
   | (with_reducible exact LeO.refl _)
   | (with_reducible exact LeO.none _)
   | (with_reducible refine LeO.ite ?_ ?_)
   | (with_reducible refine LeO.bind ?_ (fun _ => ?_))
   | exact ih0 _ _ _ _ _ _
   | exact impl_clusterWide.mono _ _ _
   | exact impl_lookAt.mono _ _ _
   | exact impl_starts.mono _ _
   | exact LeO.none _
   | refine LeO.ite ?_ ?_
   | refine LeO.bind ?_ (fun _ => ?_)
theorem impl_widesOf.mono : ∀ a0 a1 k, LeO (impl_widesOf.f k a0 a1) (impl_widesOf.f (k + 1) a0 a1) := by
 intro a0 a1 k; have ih0 := impl_widesOf.mono_l k; unfold impl_widesOf.f
 repeat' first
   | (with_reducible exact ih0 _ _ _ _ _ _)
   | (with_reducible exact impl_clusterWide.mono _ _ _)
   | (with_reducible exact impl_lookAt.mono _ _ _)
   | (with_reducible exact impl_starts.mono _ _)
   | (with_reducible exact LeO.refl _)
   | (with_reducible exact LeO.none _)
   | (with_reducible refine LeO.ite ?_ ?_)
   | (with_reducible refine LeO.bind ?_ (fun _ => ?_))
   | exact ih0 _ _ _ _ _ _
   | exact impl_clusterWide.mono _ _ _
   | exact impl_lookAt.mono _ _ _
   | exact impl_starts.mono _ _
   | exact LeO.none _
   | refine LeO.ite ?_ ?_
   | refine LeO.bind ?_ (fun _ => ?_)
theorem fldLook (a b : Int) (w : World) : (Instr.field 99 (.agg #[.int .i64 a, .int .i64 b]) 0).run Tryz.prog w = .ok (.int .i64 a) w := by kernel_rfl
attribute [local go_sem] fldLook
theorem impl_widesOf.calls (k : Nat) (A0 : Option Addr) (c0 : Nat) (l0 : List Int) (A1 : Option Addr) (c1 : Nat) (l1 : List (S50)) (r : List Int) (w : World) (hr0 : Kd.C (Kd.int .i64) w A0 l0.length l0) (hc0 : l0.length ≤ c0) (hr1 : Kd.C k50 w A1 l1.length l1) (hc1 : l1.length ≤ c1) (h : impl_widesOf.f k l0 l1 = some r) :
  Calls Tryz.prog 55 #[.slice A0 l0.length c0, .slice A1 l1.length c1] w fun e w' => ∃ v0_ : Value, e = .returned (v0_) ∧ Kd.R (Kd.int .i64) 3 w' w.heap.size (fun _ => True) v0_ r ∧ Below w.heap.size w w' := by
 have HR0 := az hr0; have HC0 := az hc0; clear hr0 hc0; have HR1 := az hr1; have HC1 := az hc1; clear hr1 hc1; have HB := az (Below.refl w.heap.size w); have H : (if 0 ≤ (l0.length : Int) then (if ((l0.length : Int) : Int).toNat ≤ 35184372088832 then ((impl_starts.f k l0).bind fun t345 => (impl_widesOf.l0 k l0 l1 (List.replicate ((l0.length : Int) : Int).toNat 0) t345 (t345.length : Int) 0)) else (none)) else (none)) = some r := h; clear h; by_cases c3 : 0 ≤ (l0.length : Int)
 ·
  rw [if_pos c3] at H; have c3b0 := eq_true c3; have c3b1 : decide (0 ≤ (l0.length : Int)) = true := decide_eq_true c3; clear c3; by_cases c4 : ((l0.length : Int) : Int).toNat ≤ 35184372088832
  ·
   rw [if_pos c4] at H; have c4b0 := eq_true c4; have c4b1 : decide (((l0.length : Int) : Int).toNat ≤ 35184372088832) = true := decide_eq_true c4; clear c4; obtain ⟨y342, hy342⟩ : ∃ y_ : List Int, y_ = (List.replicate ((l0.length : Int) : Int).toNat 0) := ⟨_, rfl⟩; replace H : ((impl_starts.f k l0).bind fun t345 => (impl_widesOf.l0 k l0 l1 y342 t345 (t345.length : Int) 0)) = some r := by first | (rw [hy342]; with_reducible exact H) | (have H2_ := (Option.bind_some _ _).symm.trans H; rw [hy342]; with_reducible exact H2_) | (have H2_ := (Option.bind_some _ _).symm.trans H; with_reducible exact H2_) | with_reducible exact H | (rw [hy342]; exact H) | exact H
   have Ny342 := az hy342; clear hy342; replace H := Option.bind_eq_some_iff.mp H; obtain ⟨t345, A50, H⟩ := H; replace H : (impl_widesOf.l0 k l0 l1 y342 t345 (t345.length : Int) 0) = some r := H; have A5 := az A50; clear A50; have H' := az H; clear H; go_enter Tryz.func55, Tryz.ntmps55; go_wp2_with (first | ((with_reducible refine gate_dst (N := 10) rfl ?_); refine Kd.R_make (Kd.int .i64) _ 3 rfl (N := 10) rfl 22 _ _ rfl (l0.length : Int) rfl rfl Tryz.underlying22 (.int .i64 0) 8 info3 rfl (by decide) (by omega) 0 (ok := fun _ => True) (okp := fun _ => True) rfl (fun _ hk => hk) trivial (of_decide_eq_true (by assumption)) (Nat.le_trans (Nat.mul_le_mul_right _ (of_decide_eq_true (by assumption) : (l0.length : Int).toNat ≤ 35184372088832)) (by omega)) (Below.refl _ _) (Nat.le_refl _) ?_; intro v343 w6 ho7 hb hg_ hnew_; clear hg_ hnew_; (first | rw [← Ny342.out] at ho7 | (simp only [Int.reduceToNat] at ho7; rw [← Ny342.out] at ho7)); have n0_ := az (Kd.R_lower ho7 (below_size (zA HB.out))); have n1_ := az (below_step (zA HB.out) hb); clear HB; have HO344 := n0_; have HB := n1_; clear n0_ n1_; clear hb ho7) | ((with_reducible refine gate_callee (f := 85) rfl ?_); refine goesL_ (some 12) rfl rfl Tryz.func85 (by kernel_rfl) rfl #[.slice A0 l0.length c0] rfl zC ?_; (with_reducible refine (impl_starts.calls k _ _ l0 t345 _ ?side1 ?side2 A5.out).mono ?_); (case side1 => exact (zM HR0.out HB.out)); (case side2 => exact HC0.out); rintro e w8 ⟨v346, rfl, ho0, hb⟩; refine ⟨_, rfl, ?_⟩; have n0_ := az (Kd.R_elder' (zF HO344.out) (Kd.R_base ho0) hb); have n1_ := az (Kd.R_lower (Kd.R_new' ho0 (Kd.R_lt (zF HO344.out))) (below_size (zA HB.out))); have n2_ := az (below_step (zA HB.out) hb); clear HO344; clear HB; have HO344 := n0_; have HO347 := n1_; have HB := n2_; clear n0_ n1_ n2_; (try clear hb); (try clear hb2); (try clear hk); (try clear hi); (try clear ho0); obtain ⟨Ao9, co9, eo9⟩ := Kd.R_slice HO347.out; subst eo9)); go_loopg [14] k (fun kq v14 w' => ∃ (x5_1 : List Int) (x14_1 : Int), v14 = .int .i64 x14_1 ∧ Aside0 (impl_widesOf.l0 kq l0 l1 x5_1 t345 (t345.length : Int) x14_1 = some r) ∧ Aside0 (kq ≤ k) ∧ Aside0 (Kd.R (Kd.int .i64) 3 w' w.heap.size (fun k_ => some k_ ≠ ((.slice Ao9 t345.length co9) : Value).ownBlock) v343 x5_1) ∧ Aside0 (Kd.R (Kd.int .i64) 3 w' w.heap.size (fun k_ => some k_ ≠ (v343 : Value).ownBlock) (.slice Ao9 t345.length co9) t345) ∧ Aside0 (Below w.heap.size w w'))
   case atStart => exact ⟨(y342), (0), zB, H', ⟨Nat.le_refl _⟩, ⟨zQ HO344.out⟩, ⟨zQ HO347.out⟩, ⟨zA HB.out⟩⟩
   case round =>
    clear H'; (try clear c1); (try clear p2); (try clear c3); (try clear c3b0); (try clear c3b1); (try clear c4); (try clear c4b0); (try clear c4b1); (try clear c5); (try clear c8); obtain ⟨x5_1, x14_1, rfl, HA, HK1, HO_5, HO_12, HB⟩ := hrel
    cases gk with
    | zero => exact absurd HA.out (by simp [impl_widesOf.l0])
    | succ k1 =>
     have H := HA.out; clear HA; simp only [impl_widesOf.l0] at H; by_cases c10 : x14_1 < (t345.length : Int)
     ·
      rw [if_pos c10] at H; have c10b0 : decide (x14_1 < (t345.length : Int)) = true := decide_eq_true c10; clear c10; by_cases c11 : 0 ≤ x14_1
      ·
       rw [if_pos c11] at H; have c11b0 : decide (0 ≤ x14_1) = true := decide_eq_true c11; clear c11; by_cases c12 : x14_1 < (t345.length : Int)
       ·
        rw [if_pos c12] at H; have c12b0 : decide (x14_1 < (t345.length : Int)) = true := decide_eq_true c12; clear c12; replace H := Option.bind_eq_some_iff.mp H; obtain ⟨t349, A130, H⟩ := H; replace H : ((impl_lookAt.f k1 l1 (rd t345 x14_1)).bind fun bt350 => (if 0 ≤ (rd t345 x14_1) then (if (rd t345 x14_1) < (x5_1.length : Int) then (impl_widesOf.l0 k1 l0 l1 (x5_1.set ((rd t345 x14_1) : Int).toNat (wrap64 (t349 * bt350.1))) t345 (t345.length : Int) (wrap64 (x14_1 + 1))) else (none)) else (none))) = some r := H; have A13 := az A130; clear A130; replace H := Option.bind_eq_some_iff.mp H; obtain ⟨⟨t350, t351⟩, A140, H⟩ := H; replace H : (if 0 ≤ (rd t345 x14_1) then (if (rd t345 x14_1) < (x5_1.length : Int) then (impl_widesOf.l0 k1 l0 l1 (x5_1.set ((rd t345 x14_1) : Int).toNat (wrap64 (t349 * t350))) t345 (t345.length : Int) (wrap64 (x14_1 + 1))) else (none)) else (none)) = some r := H; have A14 := az A140; clear A140; by_cases c15 : 0 ≤ (rd t345 x14_1)
        ·
         rw [if_pos c15] at H; have c15b0 : decide (0 ≤ (rd t345 x14_1)) = true := decide_eq_true c15; clear c15; by_cases c16 : (rd t345 x14_1) < (x5_1.length : Int)
         ·
          rw [if_pos c16] at H; have c16b0 : decide ((rd t345 x14_1) < (x5_1.length : Int)) = true := decide_eq_true c16; clear c16; obtain ⟨y352, hy352⟩ : ∃ y_ : List Int, y_ = (x5_1.set ((rd t345 x14_1) : Int).toNat (wrap64 (t349 * t350))) := ⟨_, rfl⟩; replace H : (impl_widesOf.l0 k1 l0 l1 y352 t345 (t345.length : Int) (wrap64 (x14_1 + 1))) = some r := by first | (rw [hy352]; with_reducible exact H) | (have H2_ := (Option.bind_some _ _).symm.trans H; rw [hy352]; with_reducible exact H2_) | (have H2_ := (Option.bind_some _ _).symm.trans H; with_reducible exact H2_) | with_reducible exact H | (rw [hy352]; exact H) | exact H
          have Ny352 := az hy352; clear hy352; have H' := az H; clear H; have p348 : 0 ≤ (x14_1 : Int) := of_decide_eq_true (by assumption); have q348 : x14_1 < (t345.length : Int) := of_decide_eq_true (by assumption); obtain ⟨ad348, e348, hx348_0⟩ := Kd.at_int (Kd.R_reads' HO_12.out).2.2 x14_1 p348 q348
          cases e348
          replace p348 := eq_true p348; replace q348 := eq_true q348; go_wp2_with (first | ((with_reducible refine gate_callee (f := 86) rfl ?_); refine goesL_ (some 22) rfl rfl Tryz.func86 (by kernel_rfl) rfl #[.slice A0 l0.length c0, .int .i64 (rd t345 x14_1)] rfl zC ?_; (with_reducible refine (impl_clusterWide.calls k1 _ _ l0 (rd t345 x14_1) t349 _ ?side1 ?side2 A13.out).mono ?_); (case side1 => exact (zM HR0.out HB.out)); (case side2 => exact HC0.out); rintro e w18 ⟨rfl, hb⟩; refine ⟨_, rfl, ?_⟩; have n0_ := az (Kd.R_below (zF HO_5.out) hb); have n1_ := az (Kd.R_below (zF HO_12.out) hb); have n2_ := az (below_step (zA HB.out) hb); clear HO_5; clear HO_12; clear HB; have HO_5 := n0_; have HO_12 := n1_; have HB := n2_; clear n0_ n1_ n2_; (try clear hb); (try clear hb2); (try clear hk); (try clear hi)) | ((with_reducible refine gate_callee (f := 87) rfl ?_); refine goesL_ (some 25) rfl rfl Tryz.func87 (by kernel_rfl) rfl #[.slice A1 l1.length c1, .int .i64 (rd t345 x14_1)] rfl zC ?_; (with_reducible refine (impl_lookAt.calls k1 _ _ l1 (rd t345 x14_1) t350 t351 _ ?side1 ?side2 A14.out).mono ?_); (case side1 => exact (zM HR1.out HB.out)); (case side2 => exact HC1.out); rintro e w19 ⟨rfl, hb⟩; refine ⟨_, rfl, ?_⟩; have n0_ := az (Kd.R_below (zF HO_5.out) hb); have n1_ := az (Kd.R_below (zF HO_12.out) hb); have n2_ := az (below_step (zA HB.out) hb); clear HO_5; clear HO_12; clear HB; have HO_5 := n0_; have HO_12 := n1_; have HB := n2_; clear n0_ n1_ n2_; (try clear hb); (try clear hb2); (try clear hk); (try clear hi); have p17 : 0 ≤ ((rd t345 x14_1) : Int) := of_decide_eq_true (by assumption); have q17 : ((rd t345 x14_1) : Int) < ((x5_1.length : Int) : Int) := of_decide_eq_true (by assumption); obtain ⟨go17, co17, eo17, gb17, gl17, cl17, HG17⟩ := Kd.R_form HO_5.out (by omega); (first | cases eo17 | (injection eo17 with ea_ en_ ec_; (first | subst ea_ | (injection ea_ with ea_; subst ea_)); subst ec_; clear en_)); have GB17 := az gb17; have GG17 := az HG17; clear gb17 gl17 HG17; obtain ⟨hx17_0, hf17_0⟩ := Kd.R_celln 0 HO_5.out ((rd t345 x14_1) : Int) p17 q17; replace p17 := eq_true p17; replace q17 := eq_true q17; obtain ⟨hy20_, hz20_⟩ := Kd.R_celln 0 HO_5.out ((rd t345 x14_1) : Int) (of_decide_eq_true (by assumption)) (of_decide_eq_true (by assumption)); have HP20 := Kd.R_putg HO_5.out ((rd t345 x14_1) : Int) (wrap64 (t349 * t350))) | ((with_reducible refine gate_store (t := 3) (p := 28) rfl ?_); refine store_event (t := 3) (p := 28) (v := ?vo_w21) (w1 := (w19.setCell ⟨go17, ((rd t345 x14_1) : Int).toNat, none⟩ (.int .i64 (wrap64 (t349 * t350))))) ?hg ?ho ?hn ?hr ?_; (case ho => rfl); (case hg => rfl); (case hn => rfl); (case hr => first | (go_simp; done) | (go_simp; rfl)); intro w21 hw; have hg : w19.grownBy w21 (some go17) := (by rw [hw]; exact HP20.2); have hp_ : Kd.R (Kd.int .i64) 3 w21 w.heap.size (fun k_ => some k_ ≠ (.slice (some ad348) t345.length co9 : Value).ownBlock) (.slice (some ⟨go17, 0, none⟩) x5_1.length co17) y352 := (by rw [hw, Ny352.out]; exact HP20.1); clear HP20; have n0_ := az (hp_); have n1_ := az (Kd.R_after (v := (.slice (some ⟨go17, 0, none⟩) x5_1.length co17)) (v1 := (.slice (some ⟨go17, 0, none⟩) x5_1.length co17)) (ok := (fun _ => True)) (zV HO_12.out) hg (.inl rfl)); have n2_ := az ((by rw [hw]; exact below_set (HB.out) GB17.out : Below w.heap.size w w21)); clear HO_5; clear HO_12; clear HB; have HO_5 := n0_; have HO_12 := n1_; have HB := n2_; clear n0_ n1_ n2_; clear hg hw hp_))
          go_roundg k1
          case measure => have := HK1.out; omega
          case rel => exact ⟨(y352), (wrap64 (x14_1 + 1)), zB, H', ⟨zE HK1.out⟩, ⟨zF HO_5.out⟩, ⟨zQ HO_12.out⟩, ⟨zA HB.out⟩⟩
         ·
          rw [if_neg c16] at H; exact absurd H (by simp)
        ·
         rw [if_neg c15] at H; exact absurd H (by simp)
       ·
        rw [if_neg c12] at H; exact absurd H (by simp)
      ·
       rw [if_neg c11] at H; exact absurd H (by simp)
     ·
      rw [if_neg c10] at H; have c10b0 : decide (x14_1 < (t345.length : Int)) = false := decide_eq_false c10; clear c10; obtain rfl := Option.some.inj H; go_wp2; go_ret; exact ⟨_, zG, by (with_reducible repeat (first | apply Kd.R_alloc | apply Kd.R_drewN | apply Kd.R_drew)); exact Kd.R_mono HO_5.out (fun _ hk => trivial), zA HB.out⟩
  ·
   rw [if_neg c4] at H; exact absurd H (by simp)
 ·
  rw [if_neg c3] at H; exact absurd H (by simp)
def impl_WidesOf.f (k : Nat) (l0 : List Int) (l1 : List (S50)) : Option (List Int) := (impl_lettersOk.f l0).bind fun t435 => (if t435 = true then ((impl_SpansOk.f k l1 (l0.length : Int)).bind fun t436 => (if t436 = true then ((impl_widesOf.f k l0 l1).bind fun t437 => (some t437)) else (some ([] : List Int)))) else (some ([] : List Int)))
theorem impl_WidesOf.mono : ∀ a0 a1 k, LeO (impl_WidesOf.f k a0 a1) (impl_WidesOf.f (k + 1) a0 a1) := by
 intro a0 a1 k; unfold impl_WidesOf.f
 repeat' first
   | (with_reducible exact impl_SpansOk.mono _ _ _)
   | (with_reducible exact impl_widesOf.mono _ _ _)
   | (with_reducible exact LeO.refl _)
   | (with_reducible exact LeO.none _)
   | (with_reducible refine LeO.ite ?_ ?_)
   | (with_reducible refine LeO.bind ?_ (fun _ => ?_))
   | exact impl_SpansOk.mono _ _ _
   | exact impl_widesOf.mono _ _ _
   | exact LeO.none _
   | refine LeO.ite ?_ ?_
   | refine LeO.bind ?_ (fun _ => ?_)
theorem impl_WidesOf.calls (k : Nat) (A0 : Option Addr) (c0 : Nat) (l0 : List Int) (A1 : Option Addr) (c1 : Nat) (l1 : List (S50)) (r : List Int) (w : World) (hr0 : Kd.C (Kd.int .i64) w A0 l0.length l0) (hc0 : l0.length ≤ c0) (hr1 : Kd.C k50 w A1 l1.length l1) (hc1 : l1.length ≤ c1) (h : impl_WidesOf.f k l0 l1 = some r) :
  Calls Tryz.prog 27 #[.slice A0 l0.length c0, .slice A1 l1.length c1] w fun e w' => ∃ v0_ : Value, e = .returned (v0_) ∧ Kd.R (Kd.int .i64) 3 w' w.heap.size (fun _ => True) v0_ r ∧ Below w.heap.size w w' := by
 have HR0 := az hr0; have HC0 := az hc0; clear hr0 hc0; have HR1 := az hr1; have HC1 := az hc1; clear hr1 hc1; have HB := az (Below.refl w.heap.size w); have H : ((impl_lettersOk.f l0).bind fun t435 => (if t435 = true then ((impl_SpansOk.f k l1 (l0.length : Int)).bind fun t436 => (if t436 = true then ((impl_widesOf.f k l0 l1).bind fun t437 => (some t437)) else (some ([] : List Int)))) else (some ([] : List Int)))) = some r := h; clear h; replace H := Option.bind_eq_some_iff.mp H; obtain ⟨t435, A30, H⟩ := H; replace H : (if t435 = true then ((impl_SpansOk.f k l1 (l0.length : Int)).bind fun t436 => (if t436 = true then ((impl_widesOf.f k l0 l1).bind fun t437 => (some t437)) else (some ([] : List Int)))) else (some ([] : List Int))) = some r := H; have A3 := az A30; clear A30; by_cases c4 : t435 = true
 ·
  subst c4; have H1 : ((impl_SpansOk.f k l1 (l0.length : Int)).bind fun t436 => (if t436 = true then ((impl_widesOf.f k l0 l1).bind fun t437 => (some t437)) else (some ([] : List Int)))) = some r := by rw [if_pos rfl] at H; exact H
  clear H; have H := H1; clear H1; replace H := Option.bind_eq_some_iff.mp H; obtain ⟨t436, A50, H⟩ := H; replace H : (if t436 = true then ((impl_widesOf.f k l0 l1).bind fun t437 => (some t437)) else (some ([] : List Int))) = some r := H; have A5 := az A50; clear A50; by_cases c6 : t436 = true
  ·
   subst c6; have H1 : ((impl_widesOf.f k l0 l1).bind fun t437 => (some t437)) = some r := by rw [if_pos rfl] at H; exact H
   clear H; have H := H1; clear H1; replace H := Option.bind_eq_some_iff.mp H; obtain ⟨t437, A70, H⟩ := H; replace H : (some t437) = some r := H; have A7 := az A70; clear A70; obtain rfl := Option.some.inj H; go_enter Tryz.func27, Tryz.ntmps27; go_wp2_with (first | ((with_reducible refine gate_callee (f := 48) rfl ?_); refine goesL_ (some 6) rfl rfl Tryz.func48 (by kernel_rfl) rfl #[.slice A0 l0.length c0] rfl zC ?_; (with_reducible refine (impl_lettersOk.calls _ _ l0 true _ ?side1 ?side2 A3.out).mono ?_); (case side1 => exact (zN HR0.out)); (case side2 => exact HC0.out); rintro e w8 ⟨rfl, hb⟩; refine ⟨_, rfl, ?_⟩; have n0_ := az (below_step (zA HB.out) hb); clear HB; have HB := n0_; clear n0_; (try clear hb); (try clear hb2); (try clear hk); (try clear hi)) | (go_at_call 54; (with_reducible refine (impl_SpansOk.calls k _ _ l1 (l0.length : Int) true _ ?side1 ?side2 A5.out).mono ?_); (case side1 => exact (zM HR1.out HB.out)); (case side2 => exact HC1.out); rintro e w9 ⟨rfl, hb⟩; have n0_ := az (below_step (zA HB.out) hb); clear HB; have HB := n0_; clear n0_; (try clear hb); (try clear hb2); (try clear hk); (try clear hi)) | ((with_reducible refine gate_callee (f := 55) rfl ?_); refine goesL_ (some 17) rfl rfl Tryz.func55 (by kernel_rfl) rfl #[.slice A0 l0.length c0, .slice A1 l1.length c1] rfl zC ?_; (with_reducible refine (impl_widesOf.calls k _ _ l0 _ _ l1 t437 _ ?side1 ?side2 ?side3 ?side4 A7.out).mono ?_); (case side1 => exact (zM HR0.out HB.out)); (case side2 => exact HC0.out); (case side3 => exact (zM HR1.out HB.out)); (case side4 => exact HC1.out); rintro e w10 ⟨v438, rfl, ho0, hb⟩; refine ⟨_, rfl, ?_⟩; have n0_ := az (Kd.R_lower ho0 (below_size (zA HB.out))); have n1_ := az (below_step (zA HB.out) hb); clear HB; have HO439 := n0_; have HB := n1_; clear n0_ n1_; (try clear hb); (try clear hb2); (try clear hk); (try clear hi); (try clear ho0))); go_ret; exact ⟨_, zG, zF HO439.out, zA HB.out⟩
  ·
   replace c6 := Bool.eq_false_iff.mpr c6; subst c6; have H1 : (some ([] : List Int)) = some r := by rw [if_neg (show ¬ (false = true) by decide)] at H; exact H
   clear H; have H := H1; clear H1; obtain rfl := Option.some.inj H; go_enter Tryz.func27, Tryz.ntmps27; go_wp2_with (first | ((with_reducible refine gate_callee (f := 48) rfl ?_); refine goesL_ (some 6) rfl rfl Tryz.func48 (by kernel_rfl) rfl #[.slice A0 l0.length c0] rfl zC ?_; (with_reducible refine (impl_lettersOk.calls _ _ l0 true _ ?side1 ?side2 A3.out).mono ?_); (case side1 => exact (zN HR0.out)); (case side2 => exact HC0.out); rintro e w11 ⟨rfl, hb⟩; refine ⟨_, rfl, ?_⟩; have n0_ := az (below_step (zA HB.out) hb); clear HB; have HB := n0_; clear n0_; (try clear hb); (try clear hb2); (try clear hk); (try clear hi)) | (go_at_call 54; (with_reducible refine (impl_SpansOk.calls k _ _ l1 (l0.length : Int) false _ ?side1 ?side2 A5.out).mono ?_); (case side1 => exact (zM HR1.out HB.out)); (case side2 => exact HC1.out); rintro e w12 ⟨rfl, hb⟩; have n0_ := az (below_step (zA HB.out) hb); clear HB; have HB := n0_; clear n0_; (try clear hb); (try clear hb2); (try clear hk); (try clear hi))); go_ret; exact ⟨_, zG, zU, zA HB.out⟩
 ·
  replace c4 := Bool.eq_false_iff.mpr c4; subst c4; have H1 : (some ([] : List Int)) = some r := by rw [if_neg (show ¬ (false = true) by decide)] at H; exact H
  clear H; have H := H1; clear H1; obtain rfl := Option.some.inj H; go_enter Tryz.func27, Tryz.ntmps27; go_wp2_with (first | ((with_reducible refine gate_callee (f := 48) rfl ?_); refine goesL_ (some 6) rfl rfl Tryz.func48 (by kernel_rfl) rfl #[.slice A0 l0.length c0] rfl zC ?_; (with_reducible refine (impl_lettersOk.calls _ _ l0 false _ ?side1 ?side2 A3.out).mono ?_); (case side1 => exact (zN HR0.out)); (case side2 => exact HC0.out); rintro e w13 ⟨rfl, hb⟩; refine ⟨_, rfl, ?_⟩; have n0_ := az (below_step (zA HB.out) hb); clear HB; have HB := n0_; clear n0_; (try clear hb); (try clear hb2); (try clear hk); (try clear hi))); go_ret; exact ⟨_, zG, zU, zA HB.out⟩
theorem appI {P : Program} {rest : List Oper} {opsA : Array Oper} {o : Oper} {a : Act} {Q : Exit → Act → World → Prop} {w0 W : World} {t : TypeId} {base : Nat} (ht : P.underlying t = some (.slice 3)) (hinfo : (P.info? 3).map (fun i => (i.zero, i.size, i.bytes)) = some (some (.int .i64 0), 1, 8)) (hgd : o.guard = none) (s x : Operand)
  (ho : o.op = .call { callee := .builtin .append, args := #[s, x], argTypes := #[t, t] }) (v : Value) (xs : List Int) (p : Int) (hs : a.eval s = v) (hx : a.eval x = .slice (some ⟨W.heap.size, 0, none⟩) 1 1)
  (HO : Kd.R (Kd.int .i64) 3 W base (fun _ => True) v xs) (HB : Below base w0 W) (hbase : base ≤ W.heap.size) (hl : xs.length < 1000000)
  (h : ∀ v1 w1, Kd.R (Kd.int .i64) 3 w1 base (fun _ => True) v1 (xs ++ [p]) → Below base w0 w1 → W.grownBy w1 v.ownBlock → (v1.ownBlock = v.ownBlock ∨ ∃ b, v1.ownBlock = some b ∧ W.heap.size ≤ b) → wpList P opsA Q rest (a.put o.dst v1) w1) :
  wpList P opsA Q (o :: rest) a (W.alloc (.cells #[.int .i64 p] 3)) :=
 Kd.R_append (Kd.int .i64) base hgd s x t 3 (.int .i64 0) 8 ho ht hinfo rfl (by decide) (by omega) v xs p [.int .i64 p] (fun _ => True) (fun _ => False) hs hx rfl (fun _ hk => hk.elim) (fun _ _ => trivial) HO HB hbase (by omega) h
def impl_lineReaches.f  : Option ((List (S120))) := some (([(⟨9, 9, 14⟩ : S120), (⟨10, 10, 4⟩ : S120), (⟨32, 32, 3⟩ : S120), (⟨33, 33, 10⟩ : S120), (⟨34, 34, 11⟩ : S120), (⟨40, 40, 8⟩ : S120), (⟨41, 41, 9⟩ : S120), (⟨44, 44, 13⟩ : S120), (⟨45, 45, 12⟩ : S120), (⟨46, 47, 13⟩ : S120), (⟨48, 57, 2⟩ : S120), (⟨58, 59, 13⟩ : S120), (⟨63, 63, 10⟩ : S120), (⟨91, 91, 8⟩ : S120), (⟨93, 93, 9⟩ : S120), (⟨123, 123, 8⟩ : S120), (⟨125, 125, 9⟩ : S120), (⟨160, 160, 5⟩ : S120), (⟨173, 173, 14⟩ : S120), (⟨1632, 1641, 2⟩ : S120), (⟨8203, 8203, 6⟩ : S120), (⟨8205, 8205, 7⟩ : S120), (⟨19968, 40959, 15⟩ : S120)] : List (S120)))
theorem impl_lineReaches.calls  (r : List (S120)) (w : World) (h : impl_lineReaches.f  = some r) :
  Calls Tryz.prog 117 #[] w fun e w' => ∃ v0_ : Value, e = .returned (v0_) ∧ Kd.R k120 120 w' w.heap.size (fun _ => True) v0_ r ∧ Below w.heap.size w w' := by
 have hu120 := Tryz.underlying120; have HB := az (Below.refl w.heap.size w); have H : (some (([(⟨9, 9, 14⟩ : S120), (⟨10, 10, 4⟩ : S120), (⟨32, 32, 3⟩ : S120), (⟨33, 33, 10⟩ : S120), (⟨34, 34, 11⟩ : S120), (⟨40, 40, 8⟩ : S120), (⟨41, 41, 9⟩ : S120), (⟨44, 44, 13⟩ : S120), (⟨45, 45, 12⟩ : S120), (⟨46, 47, 13⟩ : S120), (⟨48, 57, 2⟩ : S120), (⟨58, 59, 13⟩ : S120), (⟨63, 63, 10⟩ : S120), (⟨91, 91, 8⟩ : S120), (⟨93, 93, 9⟩ : S120), (⟨123, 123, 8⟩ : S120), (⟨125, 125, 9⟩ : S120), (⟨160, 160, 5⟩ : S120), (⟨173, 173, 14⟩ : S120), (⟨1632, 1641, 2⟩ : S120), (⟨8203, 8203, 6⟩ : S120), (⟨8205, 8205, 7⟩ : S120), (⟨19968, 40959, 15⟩ : S120)] : List (S120)))) = some r := h; clear h; obtain ⟨y280, hy280⟩ : ∃ y_ : List (S120), y_ = (([(⟨9, 9, 14⟩ : S120), (⟨10, 10, 4⟩ : S120), (⟨32, 32, 3⟩ : S120), (⟨33, 33, 10⟩ : S120), (⟨34, 34, 11⟩ : S120), (⟨40, 40, 8⟩ : S120), (⟨41, 41, 9⟩ : S120), (⟨44, 44, 13⟩ : S120), (⟨45, 45, 12⟩ : S120), (⟨46, 47, 13⟩ : S120), (⟨48, 57, 2⟩ : S120), (⟨58, 59, 13⟩ : S120), (⟨63, 63, 10⟩ : S120), (⟨91, 91, 8⟩ : S120), (⟨93, 93, 9⟩ : S120), (⟨123, 123, 8⟩ : S120), (⟨125, 125, 9⟩ : S120), (⟨160, 160, 5⟩ : S120), (⟨173, 173, 14⟩ : S120), (⟨1632, 1641, 2⟩ : S120), (⟨8203, 8203, 6⟩ : S120), (⟨8205, 8205, 7⟩ : S120), (⟨19968, 40959, 15⟩ : S120)] : List (S120))) := ⟨_, rfl⟩; replace H : (some y280) = some r := by first | (rw [hy280]; with_reducible exact H) | (have H2_ := (Option.bind_some _ _).symm.trans H; rw [hy280]; with_reducible exact H2_) | (have H2_ := (Option.bind_some _ _).symm.trans H; with_reducible exact H2_) | with_reducible exact H | (rw [hy280]; exact H) | exact H
 have Ny280 := az hy280; clear hy280; obtain rfl := Option.some.inj H; go_enter Tryz.func117, Tryz.ntmps117; go_wp2_with (first | ((with_reducible refine gate_dst (N := 24) rfl ?_); refine Kd.R_lit k120 _ 120 ?hg (N := 24) ?hd (xs := ([(⟨9, 9, 14⟩ : S120), (⟨10, 10, 4⟩ : S120), (⟨32, 32, 3⟩ : S120), (⟨33, 33, 10⟩ : S120), (⟨34, 34, 11⟩ : S120), (⟨40, 40, 8⟩ : S120), (⟨41, 41, 9⟩ : S120), (⟨44, 44, 13⟩ : S120), (⟨45, 45, 12⟩ : S120), (⟨46, 47, 13⟩ : S120), (⟨48, 57, 2⟩ : S120), (⟨58, 59, 13⟩ : S120), (⟨63, 63, 10⟩ : S120), (⟨91, 91, 8⟩ : S120), (⟨93, 93, 9⟩ : S120), (⟨123, 123, 8⟩ : S120), (⟨125, 125, 9⟩ : S120), (⟨160, 160, 5⟩ : S120), (⟨173, 173, 14⟩ : S120), (⟨1632, 1641, 2⟩ : S120), (⟨8203, 8203, 6⟩ : S120), (⟨8205, 8205, 7⟩ : S120), (⟨19968, 40959, 15⟩ : S120)] : List (S120))) (inner := [.int .i64 9, .int .i64 9, .int .i64 14, .int .i64 10, .int .i64 10, .int .i64 4, .int .i64 32, .int .i64 32, .int .i64 3, .int .i64 33, .int .i64 33, .int .i64 10, .int .i64 34, .int .i64 34, .int .i64 11, .int .i64 40, .int .i64 40, .int .i64 8, .int .i64 41, .int .i64 41, .int .i64 9, .int .i64 44, .int .i64 44, .int .i64 13, .int .i64 45, .int .i64 45, .int .i64 12, .int .i64 46, .int .i64 47, .int .i64 13, .int .i64 48, .int .i64 57, .int .i64 2, .int .i64 58, .int .i64 59, .int .i64 13, .int .i64 63, .int .i64 63, .int .i64 10, .int .i64 91, .int .i64 91, .int .i64 8, .int .i64 93, .int .i64 93, .int .i64 9, .int .i64 123, .int .i64 123, .int .i64 8, .int .i64 125, .int .i64 125, .int .i64 9, .int .i64 160, .int .i64 160, .int .i64 5, .int .i64 173, .int .i64 173, .int .i64 14, .int .i64 1632, .int .i64 1641, .int .i64 2, .int .i64 8203, .int .i64 8203, .int .i64 6, .int .i64 8205, .int .i64 8205, .int .i64 7, .int .i64 19968, .int .i64 40959, .int .i64 15]) (ok := fun _ => True) (okp := fun _ => True) ?hr ?hp (fun _ hk => hk) trivial (Below.refl _ _) (Nat.le_refl _) (by simp) ?_; (case hd => rfl); (case hg => rfl); (case hr => first | (go_simp; done) | (go_simp; rfl)); (case hp => exact (Reps.c3 (show Kd.M k120 _ _ _ (⟨9, 9, 14⟩ : S120) [.int .i64 9, .int .i64 9, .int .i64 14] from (k120_mkM _ _ _ (⟨9, 9, 14⟩ : S120) )) (Reps.c3 (show Kd.M k120 _ _ _ (⟨10, 10, 4⟩ : S120) [.int .i64 10, .int .i64 10, .int .i64 4] from (k120_mkM _ _ _ (⟨10, 10, 4⟩ : S120) )) (Reps.c3 (show Kd.M k120 _ _ _ (⟨32, 32, 3⟩ : S120) [.int .i64 32, .int .i64 32, .int .i64 3] from (k120_mkM _ _ _ (⟨32, 32, 3⟩ : S120) )) (Reps.c3 (show Kd.M k120 _ _ _ (⟨33, 33, 10⟩ : S120) [.int .i64 33, .int .i64 33, .int .i64 10] from (k120_mkM _ _ _ (⟨33, 33, 10⟩ : S120) )) (Reps.c3 (show Kd.M k120 _ _ _ (⟨34, 34, 11⟩ : S120) [.int .i64 34, .int .i64 34, .int .i64 11] from (k120_mkM _ _ _ (⟨34, 34, 11⟩ : S120) )) (Reps.c3 (show Kd.M k120 _ _ _ (⟨40, 40, 8⟩ : S120) [.int .i64 40, .int .i64 40, .int .i64 8] from (k120_mkM _ _ _ (⟨40, 40, 8⟩ : S120) )) (Reps.c3 (show Kd.M k120 _ _ _ (⟨41, 41, 9⟩ : S120) [.int .i64 41, .int .i64 41, .int .i64 9] from (k120_mkM _ _ _ (⟨41, 41, 9⟩ : S120) )) (Reps.c3 (show Kd.M k120 _ _ _ (⟨44, 44, 13⟩ : S120) [.int .i64 44, .int .i64 44, .int .i64 13] from (k120_mkM _ _ _ (⟨44, 44, 13⟩ : S120) )) (Reps.c3 (show Kd.M k120 _ _ _ (⟨45, 45, 12⟩ : S120) [.int .i64 45, .int .i64 45, .int .i64 12] from (k120_mkM _ _ _ (⟨45, 45, 12⟩ : S120) )) (Reps.c3 (show Kd.M k120 _ _ _ (⟨46, 47, 13⟩ : S120) [.int .i64 46, .int .i64 47, .int .i64 13] from (k120_mkM _ _ _ (⟨46, 47, 13⟩ : S120) )) (Reps.c3 (show Kd.M k120 _ _ _ (⟨48, 57, 2⟩ : S120) [.int .i64 48, .int .i64 57, .int .i64 2] from (k120_mkM _ _ _ (⟨48, 57, 2⟩ : S120) )) (Reps.c3 (show Kd.M k120 _ _ _ (⟨58, 59, 13⟩ : S120) [.int .i64 58, .int .i64 59, .int .i64 13] from (k120_mkM _ _ _ (⟨58, 59, 13⟩ : S120) )) (Reps.c3 (show Kd.M k120 _ _ _ (⟨63, 63, 10⟩ : S120) [.int .i64 63, .int .i64 63, .int .i64 10] from (k120_mkM _ _ _ (⟨63, 63, 10⟩ : S120) )) (Reps.c3 (show Kd.M k120 _ _ _ (⟨91, 91, 8⟩ : S120) [.int .i64 91, .int .i64 91, .int .i64 8] from (k120_mkM _ _ _ (⟨91, 91, 8⟩ : S120) )) (Reps.c3 (show Kd.M k120 _ _ _ (⟨93, 93, 9⟩ : S120) [.int .i64 93, .int .i64 93, .int .i64 9] from (k120_mkM _ _ _ (⟨93, 93, 9⟩ : S120) )) (Reps.c3 (show Kd.M k120 _ _ _ (⟨123, 123, 8⟩ : S120) [.int .i64 123, .int .i64 123, .int .i64 8] from (k120_mkM _ _ _ (⟨123, 123, 8⟩ : S120) )) (Reps.c3 (show Kd.M k120 _ _ _ (⟨125, 125, 9⟩ : S120) [.int .i64 125, .int .i64 125, .int .i64 9] from (k120_mkM _ _ _ (⟨125, 125, 9⟩ : S120) )) (Reps.c3 (show Kd.M k120 _ _ _ (⟨160, 160, 5⟩ : S120) [.int .i64 160, .int .i64 160, .int .i64 5] from (k120_mkM _ _ _ (⟨160, 160, 5⟩ : S120) )) (Reps.c3 (show Kd.M k120 _ _ _ (⟨173, 173, 14⟩ : S120) [.int .i64 173, .int .i64 173, .int .i64 14] from (k120_mkM _ _ _ (⟨173, 173, 14⟩ : S120) )) (Reps.c3 (show Kd.M k120 _ _ _ (⟨1632, 1641, 2⟩ : S120) [.int .i64 1632, .int .i64 1641, .int .i64 2] from (k120_mkM _ _ _ (⟨1632, 1641, 2⟩ : S120) )) (Reps.c3 (show Kd.M k120 _ _ _ (⟨8203, 8203, 6⟩ : S120) [.int .i64 8203, .int .i64 8203, .int .i64 6] from (k120_mkM _ _ _ (⟨8203, 8203, 6⟩ : S120) )) (Reps.c3 (show Kd.M k120 _ _ _ (⟨8205, 8205, 7⟩ : S120) [.int .i64 8205, .int .i64 8205, .int .i64 7] from (k120_mkM _ _ _ (⟨8205, 8205, 7⟩ : S120) )) (Reps.c3 (show Kd.M k120 _ _ _ (⟨19968, 40959, 15⟩ : S120) [.int .i64 19968, .int .i64 40959, .int .i64 15] from (k120_mkM _ _ _ (⟨19968, 40959, 15⟩ : S120) )) (Reps.none _ _))))))))))))))))))))))))); intro v281 w1 ho2 hb hg_ hnew_; clear hg_ hnew_; (first | rw [← Ny280.out] at ho2 | (simp only [Int.reduceToNat] at ho2; rw [← Ny280.out] at ho2)); have n0_ := az (Kd.R_lower ho2 (below_size (zA HB.out))); have n1_ := az (below_step (zA HB.out) hb); clear HB; have HO282 := n0_; have HB := n1_; clear n0_ n1_; clear hb ho2))
 go_ret; exact ⟨_, zG, zF HO282.out, zA HB.out⟩
def impl_RuneLine.j0 : Nat → Int → Bool → Option (Int)
 | 0, _, _ => none
 | k + 1, x0, x11 => if x11 = true then (some 7) else ((impl_lineReaches.f).bind fun t284 => ((impl_find.f t284 x0 1).bind fun t287 => (some t287)))
def impl_RuneLine.f (k : Nat) (a0 : Int) : Option (Int) := (impl_RuneBidi.f a0).bind fun t283 => (if t283 = 9 then (impl_RuneLine.j0 k a0 true) else (impl_RuneLine.j0 k a0 (decide (t283 ≥ 14))))
theorem impl_RuneLine.mono_l : ∀ k, (∀ y0 y1, LeO (impl_RuneLine.j0 k y0 y1) (impl_RuneLine.j0 (k + 1) y0 y1))
 | 0 => fun _ _ r h => by simp [impl_RuneLine.j0] at h
 | k + 1 => by
  have ih0 := impl_RuneLine.mono_l k
  ·
   intro y0 y1; unfold impl_RuneLine.j0
   repeat' first
   | (with_reducible exact ih0 _ _)
   | (with_reducible exact LeO.refl _)
   | (with_reducible exact LeO.none _)
   | (with_reducible refine LeO.ite ?_ ?_)
   | (with_reducible refine LeO.bind ?_ (fun _ => ?_))
   | exact ih0 _ _
   | exact LeO.none _
   | refine LeO.ite ?_ ?_
   | refine LeO.bind ?_ (fun _ => ?_)
theorem impl_RuneLine.mono : ∀ a0 k, LeO (impl_RuneLine.f k a0) (impl_RuneLine.f (k + 1) a0) := by
 intro a0 k; have ih0 := impl_RuneLine.mono_l k; unfold impl_RuneLine.f
 repeat' first
   | (with_reducible exact ih0 _ _)
   | (with_reducible exact LeO.refl _)
   | (with_reducible exact LeO.none _)
   | (with_reducible refine LeO.ite ?_ ?_)
   | (with_reducible refine LeO.bind ?_ (fun _ => ?_))
   | exact ih0 _ _
   | exact LeO.none _
   | refine LeO.ite ?_ ?_
   | refine LeO.bind ?_ (fun _ => ?_)
theorem impl_RuneLine.calls (k : Nat) (a0 : Int) (r : Int) (w : World) (h : impl_RuneLine.f k a0 = some r) :
  Calls Tryz.prog 81 #[.int .i64 a0] w fun e w' => e = .returned (.int .i64 r) ∧ Below w.heap.size w w' := by
 have HB := az (Below.refl w.heap.size w); have H : ((impl_RuneBidi.f a0).bind fun t283 => (if t283 = 9 then (impl_RuneLine.j0 k a0 true) else (impl_RuneLine.j0 k a0 (decide (t283 ≥ 14))))) = some r := h; clear h; replace H := Option.bind_eq_some_iff.mp H; obtain ⟨t283, A20, H⟩ := H; replace H : (if t283 = 9 then (impl_RuneLine.j0 k a0 true) else (impl_RuneLine.j0 k a0 (decide (t283 ≥ 14)))) = some r := H; have A2 := az A20; clear A20; have HC3 := az H; clear H; go_enter Tryz.func81, Tryz.ntmps81; go_upto_region 2 with (first | ((with_reducible refine gate_callee (f := 115) rfl ?_); refine goesL_ (some 5) rfl rfl Tryz.func115 (by kernel_rfl) rfl #[.int .i64 a0] rfl zC ?_; (with_reducible refine (impl_RuneBidi.calls a0 t283 _ A2.out).mono ?_); rintro e w4 ⟨rfl, hb⟩; refine ⟨_, rfl, ?_⟩; have n0_ := az (below_step (zA HB.out) hb); clear HB; have HB := n0_; clear n0_; (try clear hb); (try clear hb2); (try clear hk); (try clear hi)))
 (try simp only [Act.put, List.setIfInBounds_toArray, List.set_cons_zero, List.set_cons_succ]); go_cut [11] (fun v11 wc => ∃ (kq : Nat) (x11_2 : Bool), v11 = .bool x11_2 ∧ Aside0 (impl_RuneLine.j0 kq a0 x11_2 = some r) ∧ Aside0 (kq ≤ k) ∧ Aside0 (Below w.heap.size w wc))
 case first =>
  have H := HC3.out; clear HC3; by_cases c5 : t283 = 9
  ·
   rw [if_pos c5] at H; have c5b0 : (t283 == 9) = true := beq_iff_eq.mpr c5; have c5b1 : (t283 != 9) = false := bne_eq_false_iff_eq.mpr c5; clear c5; (first | rw [c5b0] | (simp only [i64_w, i32_w]; rw [c5b0]) | skip); have H' := az H; clear H; go_wp2; go_meet
   case rel => exact ⟨_, (true), zB, H', ⟨zI⟩, ⟨zA HB.out⟩⟩
  ·
   rw [if_neg c5] at H; have c5b0 : (t283 == 9) = false := beq_eq_false_iff_ne.mpr c5; have c5b1 : (t283 != 9) = true := bne_iff_ne.mpr c5; (first | rw [c5b0] | (simp only [i64_w, i32_w]; rw [c5b0]) | skip); have H' := az H; clear H; go_wp2; go_meet
   case rel => exact ⟨_, (decide (t283 ≥ 14)), zB, H', ⟨zI⟩, ⟨zA HB.out⟩⟩
 case rest =>
  clear HC3; (try clear c1); (try clear p2); (try clear c5); (try clear c5b0); (try clear c5b1); obtain ⟨kq, x11_2, rfl, HA, HJ2, HB⟩ := hcut
  cases kq with
  | zero => exact absurd HA.out (by simp [impl_RuneLine.j0])
  | succ kj2 =>
   have H := HA.out; clear HA; simp only [impl_RuneLine.j0] at H; by_cases c6 : x11_2 = true
   ·
    subst c6; have H1 : (some 7) = some r := by rw [if_pos rfl] at H; exact H
    clear H; have H := H1; clear H1; obtain rfl := Option.some.inj H; go_wp2; go_ret; exact ⟨zG, zA HB.out⟩
   ·
    replace c6 := Bool.eq_false_iff.mpr c6; subst c6; have H1 : ((impl_lineReaches.f).bind fun t284 => ((impl_find.f t284 a0 1).bind fun t287 => (some t287))) = some r := by rw [if_neg (show ¬ (false = true) by decide)] at H; exact H
    clear H; have H := H1; clear H1; replace H := Option.bind_eq_some_iff.mp H; obtain ⟨t284, A70, H⟩ := H; replace H : ((impl_find.f t284 a0 1).bind fun t287 => (some t287)) = some r := H; have A7 := az A70; clear A70; replace H := Option.bind_eq_some_iff.mp H; obtain ⟨t287, A80, H⟩ := H; replace H : (some t287) = some r := H; have A8 := az A80; clear A80; obtain rfl := Option.some.inj H; go_wp2_with (first | ((with_reducible refine gate_callee (f := 117) rfl ?_); refine goesL_ (some 12) rfl rfl Tryz.func117 (by kernel_rfl) rfl #[] rfl zC ?_; (with_reducible refine (impl_lineReaches.calls  t284 _ A7.out).mono ?_); rintro e w9 ⟨v285, rfl, ho0, hb⟩; refine ⟨_, rfl, ?_⟩; have n0_ := az (Kd.R_lower ho0 (below_size (zA HB.out))); have n1_ := az (below_step (zA HB.out) hb); clear HB; have HO286 := n0_; have HB := n1_; clear n0_ n1_; (try clear hb); (try clear hb2); (try clear hk); (try clear hi); (try clear ho0); obtain ⟨Ao10, co10, eo10⟩ := Kd.R_slice HO286.out; subst eo10) | ((with_reducible refine gate_callee (f := 116) rfl ?_); refine goesL_ (some 14) rfl rfl Tryz.func116 (by kernel_rfl) rfl #[.slice Ao10 t284.length co10, .int .i64 a0, .int .i64 1] rfl zC ?_; (with_reducible refine (impl_find.calls _ _ t284 a0 1 t287 _ ?side1 ?side2 A8.out).mono ?_); (case side1 => exact (zR HO286.out)); (case side2 => exact (Kd.R_reads' HO286.out).2.1); rintro e w11 ⟨rfl, hb⟩; refine ⟨_, rfl, ?_⟩; have n0_ := az (Kd.R_below (zF HO286.out) hb); have n1_ := az (below_step (zA HB.out) hb); clear HO286; clear HB; have HO286 := n0_; have HB := n1_; clear n0_ n1_; (try clear hb); (try clear hb2); (try clear hk); (try clear hi))); go_ret; exact ⟨zG, zA HB.out⟩
def impl_oneOf.l0 : Nat → Int → List Int → Int → Int → Option (Bool)
 | 0, _, _, _, _ => none
 | k + 1, x0, x7, x8, x9 => if x9 < x8 then (if 0 ≤ x9 then (if x9 < (x7.length : Int) then (if x0 = (rd x7 x9) then (some true) else (impl_oneOf.l0 k x0 x7 x8 (wrap64 (x9 + 1)))) else (none)) else (none)) else (some false)
def impl_oneOf.f (k : Nat) (a0 : Int) (l1 : List Int) : Option (Bool) := impl_oneOf.l0 k a0 l1 (l1.length : Int) 0
theorem impl_oneOf.mono_l : ∀ k, (∀ y0 y1 y2 y3, LeO (impl_oneOf.l0 k y0 y1 y2 y3) (impl_oneOf.l0 (k + 1) y0 y1 y2 y3))
 | 0 => fun _ _ _ _ r h => by simp [impl_oneOf.l0] at h
 | k + 1 => by
  have ih0 := impl_oneOf.mono_l k
  ·
   intro y0 y1 y2 y3; unfold impl_oneOf.l0
   repeat' first
   | (with_reducible exact ih0 _ _ _ _)
   | (with_reducible exact LeO.refl _)
   | (with_reducible exact LeO.none _)
   | (with_reducible refine LeO.ite ?_ ?_)
   | (with_reducible refine LeO.bind ?_ (fun _ => ?_))
   | exact ih0 _ _ _ _
   | exact LeO.none _
   | refine LeO.ite ?_ ?_
   | refine LeO.bind ?_ (fun _ => ?_)
theorem impl_oneOf.mono : ∀ a0 a1 k, LeO (impl_oneOf.f k a0 a1) (impl_oneOf.f (k + 1) a0 a1) := by
 intro a0 a1 k; have ih0 := impl_oneOf.mono_l k; unfold impl_oneOf.f
 repeat' first
   | (with_reducible exact ih0 _ _ _ _)
   | (with_reducible exact LeO.refl _)
   | (with_reducible exact LeO.none _)
   | (with_reducible refine LeO.ite ?_ ?_)
   | (with_reducible refine LeO.bind ?_ (fun _ => ?_))
   | exact ih0 _ _ _ _
   | exact LeO.none _
   | refine LeO.ite ?_ ?_
   | refine LeO.bind ?_ (fun _ => ?_)
theorem impl_oneOf.calls (k : Nat) (a0 : Int) (A1 : Option Addr) (c1 : Nat) (l1 : List Int) (r : Bool) (w : World) (hr1 : Kd.C (Kd.int .i64) w A1 l1.length l1) (hc1 : l1.length ≤ c1) (h : impl_oneOf.f k a0 l1 = some r) :
  Calls Tryz.prog 104 #[.int .i64 a0, .slice A1 l1.length c1] w fun e w' => e = .returned (.bool r) ∧ Drawn0 w w' := by
 have HR1 := az hr1; have HC1 := az hc1; clear hr1 hc1; have H : (impl_oneOf.l0 k a0 l1 (l1.length : Int) 0) = some r := h; clear h; have H' := az H; clear H; go_enter Tryz.func104, Tryz.ntmps104; go_wp2; go_loopg [9] k (fun kq v9 w' => ∃ (x9_1 : Int), v9 = .int .i64 x9_1 ∧ Aside0 (impl_oneOf.l0 kq a0 l1 (l1.length : Int) x9_1 = some r) ∧ Aside0 (kq ≤ k) ∧ Drawn0 w w')
 case atStart => exact ⟨(0), zB, H', ⟨Nat.le_refl _⟩, zD⟩
 case round =>
  clear H'; (try clear c1); (try clear p2); obtain ⟨x9_1, rfl, HA, HK1, ⟨m1, rfl⟩⟩ := hrel
  cases gk with
  | zero => exact absurd HA.out (by simp [impl_oneOf.l0])
  | succ k1 =>
   have H := HA.out; clear HA; simp only [impl_oneOf.l0] at H; by_cases c3 : x9_1 < (l1.length : Int)
   ·
    rw [if_pos c3] at H; have c3b0 : decide (x9_1 < (l1.length : Int)) = true := decide_eq_true c3; clear c3; by_cases c4 : 0 ≤ x9_1
    ·
     rw [if_pos c4] at H; have c4b0 : decide (0 ≤ x9_1) = true := decide_eq_true c4; clear c4; by_cases c5 : x9_1 < (l1.length : Int)
     ·
      rw [if_pos c5] at H; have c5b0 : decide (x9_1 < (l1.length : Int)) = true := decide_eq_true c5; clear c5; by_cases c6 : a0 = (rd l1 x9_1)
      ·
       rw [if_pos c6] at H; have c6b0 : (a0 == (rd l1 x9_1)) = true := beq_iff_eq.mpr c6; have c6b1 : (a0 != (rd l1 x9_1)) = false := bne_eq_false_iff_eq.mpr c6; clear c6; obtain rfl := Option.some.inj H; have p288 : 0 ≤ (x9_1 : Int) := of_decide_eq_true (by assumption); have q288 : x9_1 < (l1.length : Int) := of_decide_eq_true (by assumption); obtain ⟨ad288, e288, hx288_0⟩ := Kd.at_int HR1.out x9_1 p288 q288
       cases e288
       replace p288 := eq_true p288; replace q288 := eq_true q288; go_wp2; go_ret; exact ⟨zB, zD⟩
      ·
       rw [if_neg c6] at H; have c6b0 : (a0 == (rd l1 x9_1)) = false := beq_eq_false_iff_ne.mpr c6; have c6b1 : (a0 != (rd l1 x9_1)) = true := bne_iff_ne.mpr c6; have H' := az H; clear H; have p288 : 0 ≤ (x9_1 : Int) := of_decide_eq_true (by assumption); have q288 : x9_1 < (l1.length : Int) := of_decide_eq_true (by assumption); obtain ⟨ad288, e288, hx288_0⟩ := Kd.at_int HR1.out x9_1 p288 q288
       cases e288
       replace p288 := eq_true p288; replace q288 := eq_true q288; go_wp2; go_roundg k1
       case measure => have := HK1.out; omega
       case rel => exact ⟨(wrap64 (x9_1 + 1)), zB, H', ⟨zE HK1.out⟩, zD⟩
     ·
      rw [if_neg c5] at H; exact absurd H (by simp)
    ·
     rw [if_neg c4] at H; exact absurd H (by simp)
   ·
    rw [if_neg c3] at H; have c3b0 : decide (x9_1 < (l1.length : Int)) = false := decide_eq_false c3; clear c3; obtain rfl := Option.some.inj H; go_wp2; go_ret; exact ⟨zB, zD⟩
def impl_afterSpace.f (k : Nat) (a0 : Int) : Option (Bool) := (impl_oneOf.f k a0 (([3, 4, 6] : List Int))).bind fun t292 => (some t292)
theorem impl_afterSpace.mono : ∀ a0 k, LeO (impl_afterSpace.f k a0) (impl_afterSpace.f (k + 1) a0) := by
 intro a0 k; unfold impl_afterSpace.f
 repeat' first
   | (with_reducible exact impl_oneOf.mono _ _ _)
   | (with_reducible exact LeO.refl _)
   | (with_reducible exact LeO.none _)
   | (with_reducible refine LeO.ite ?_ ?_)
   | (with_reducible refine LeO.bind ?_ (fun _ => ?_))
   | exact impl_oneOf.mono _ _ _
   | exact LeO.none _
   | refine LeO.ite ?_ ?_
   | refine LeO.bind ?_ (fun _ => ?_)
theorem impl_afterSpace.calls (k : Nat) (a0 : Int) (r : Bool) (w : World) (h : impl_afterSpace.f k a0 = some r) :
  Calls Tryz.prog 82 #[.int .i64 a0] w fun e w' => e = .returned (.bool r) ∧ Below w.heap.size w w' := by
 have HB := az (Below.refl w.heap.size w); have H : ((impl_oneOf.f k a0 (([3, 4, 6] : List Int))).bind fun t292 => (some t292)) = some r := h; clear h; obtain ⟨y289, hy289⟩ : ∃ y_ : List Int, y_ = (([3, 4, 6] : List Int)) := ⟨_, rfl⟩; replace H : ((impl_oneOf.f k a0 y289).bind fun t292 => (some t292)) = some r := by first | (rw [hy289]; with_reducible exact H) | (have H2_ := (Option.bind_some _ _).symm.trans H; rw [hy289]; with_reducible exact H2_) | (have H2_ := (Option.bind_some _ _).symm.trans H; with_reducible exact H2_) | with_reducible exact H | (rw [hy289]; exact H) | exact H
 have Ny289 := az hy289; clear hy289; replace H := Option.bind_eq_some_iff.mp H; obtain ⟨t292, A20, H⟩ := H; replace H : (some t292) = some r := H; have A2 := az A20; clear A20; obtain rfl := Option.some.inj H; go_enter Tryz.func82, Tryz.ntmps82; go_wp2_with (first | ((with_reducible refine gate_dst (N := 4) rfl ?_); refine Kd.R_lit (Kd.int .i64) _ 3 ?hg (N := 4) ?hd (xs := ([3, 4, 6] : List Int)) (inner := [.int .i64 3, .int .i64 4, .int .i64 6]) (ok := fun _ => True) (okp := fun _ => True) ?hr ?hp (fun _ hk => hk) trivial (Below.refl _ _) (Nat.le_refl _) (by simp) ?_; (case hd => rfl); (case hg => rfl); (case hr => first | (go_simp; done) | (go_simp; rfl)); (case hp => exact (Reps.one (show Kd.M (Kd.int .i64) _ _ _ 3 [.int .i64 3] from rfl) (Reps.one (show Kd.M (Kd.int .i64) _ _ _ 4 [.int .i64 4] from rfl) (Reps.one (show Kd.M (Kd.int .i64) _ _ _ 6 [.int .i64 6] from rfl) (Reps.none _ _))))); intro v290 w3 ho4 hb hg_ hnew_; clear hg_ hnew_; (first | rw [← Ny289.out] at ho4 | (simp only [Int.reduceToNat] at ho4; rw [← Ny289.out] at ho4)); have n0_ := az (Kd.R_lower ho4 (below_size (zA HB.out))); have n1_ := az (below_step (zA HB.out) hb); clear HB; have HO291 := n0_; have HB := n1_; clear n0_ n1_; clear hb ho4; obtain ⟨Ao5, co5, eo5⟩ := Kd.R_slice HO291.out; subst eo5) | ((with_reducible refine gate_callee (f := 104) rfl ?_); refine goesL_ (some 5) rfl rfl Tryz.func104 (by kernel_rfl) rfl #[.int .i64 a0, .slice Ao5 y289.length co5] rfl zC ?_; (with_reducible refine (impl_oneOf.calls k a0 _ _ y289 t292 _ ?side1 ?side2 A2.out).mono ?_); (case side1 => exact (zR HO291.out)); (case side2 => exact (Kd.R_reads' HO291.out).2.1); rintro e w' ⟨rfl, ⟨nd, rfl⟩⟩; refine ⟨_, rfl, ?_⟩)); go_ret; exact ⟨zG, zA HB.out⟩
def impl_countsOf.l0 : Nat → List Int → List Int → Int → Int → Option (List Int)
 | 0, _, _, _, _ => none
 | k + 1, x3, x7, x8, x9 => if x9 < x8 then (if 0 ≤ x9 then (if x9 < (x7.length : Int) then ((impl_RuneLine.f k (rd x7 x9)).bind fun t294 => (if t294 = 7 then (if x9 > 0 then (if 0 ≤ (wrap64 (x9 - 1)) then (if (wrap64 (x9 - 1)) < (x3.length : Int) then ((impl_afterSpace.f k (rd x3 (wrap64 (x9 - 1)))).bind fun t296 => (if t296 = true then (if x3.length < 17592186044416 then (impl_countsOf.l0 k (x3 ++ [1]) x7 x8 (wrap64 (x9 + 1))) else (none)) else (if x3.length < 17592186044416 then (impl_countsOf.l0 k (x3 ++ [rd x3 (wrap64 (x9 - 1))]) x7 x8 (wrap64 (x9 + 1))) else (none)))) else (none)) else (none)) else (if x3.length < 17592186044416 then (impl_countsOf.l0 k (x3 ++ [1]) x7 x8 (wrap64 (x9 + 1))) else (none))) else (if x3.length < 17592186044416 then (impl_countsOf.l0 k (x3 ++ [t294]) x7 x8 (wrap64 (x9 + 1))) else (none)))) else (none)) else (none)) else (some x3)
def impl_countsOf.f (k : Nat) (l0 : List Int) : Option (List Int) := impl_countsOf.l0 k ([] : List Int) l0 (l0.length : Int) 0
theorem impl_countsOf.mono_l : ∀ k, (∀ y0 y1 y2 y3, LeO (impl_countsOf.l0 k y0 y1 y2 y3) (impl_countsOf.l0 (k + 1) y0 y1 y2 y3))
 | 0 => fun _ _ _ _ r h => by simp [impl_countsOf.l0] at h
 | k + 1 => by
  have ih0 := impl_countsOf.mono_l k
  ·
   intro y0 y1 y2 y3; unfold impl_countsOf.l0
   repeat' first
   | (with_reducible exact ih0 _ _ _ _)
   | (with_reducible exact impl_RuneLine.mono _ _)
   | (with_reducible exact impl_afterSpace.mono _ _)
   | (with_reducible exact LeO.refl _)
   | (with_reducible exact LeO.none _)
   | (with_reducible refine LeO.ite ?_ ?_)
   | (with_reducible refine LeO.bind ?_ (fun _ => ?_))
   | exact ih0 _ _ _ _
   | exact impl_RuneLine.mono _ _
   | exact impl_afterSpace.mono _ _
   | exact LeO.none _
   | refine LeO.ite ?_ ?_
   | refine LeO.bind ?_ (fun _ => ?_)
theorem impl_countsOf.mono : ∀ a0 k, LeO (impl_countsOf.f k a0) (impl_countsOf.f (k + 1) a0) := by
 intro a0 k; have ih0 := impl_countsOf.mono_l k; unfold impl_countsOf.f
 repeat' first
   | (with_reducible exact ih0 _ _ _ _)
   | (with_reducible exact impl_RuneLine.mono _ _)
   | (with_reducible exact impl_afterSpace.mono _ _)
   | (with_reducible exact LeO.refl _)
   | (with_reducible exact LeO.none _)
   | (with_reducible refine LeO.ite ?_ ?_)
   | (with_reducible refine LeO.bind ?_ (fun _ => ?_))
   | exact ih0 _ _ _ _
   | exact impl_RuneLine.mono _ _
   | exact impl_afterSpace.mono _ _
   | exact LeO.none _
   | refine LeO.ite ?_ ?_
   | refine LeO.bind ?_ (fun _ => ?_)
theorem impl_countsOf.calls (k : Nat) (A0 : Option Addr) (c0 : Nat) (l0 : List Int) (r : List Int) (w : World) (hr0 : Kd.C (Kd.int .i64) w A0 l0.length l0) (hc0 : l0.length ≤ c0) (h : impl_countsOf.f k l0 = some r) :
  Calls Tryz.prog 78 #[.slice A0 l0.length c0] w fun e w' => ∃ v0_ : Value, e = .returned (v0_) ∧ Kd.R (Kd.int .i64) 3 w' w.heap.size (fun _ => True) v0_ r ∧ Below w.heap.size w w' := by
 have HR0 := az hr0; have HC0 := az hc0; clear hr0 hc0; have HB := az (Below.refl w.heap.size w); have H : (impl_countsOf.l0 k ([] : List Int) l0 (l0.length : Int) 0) = some r := h; clear h; have H' := az H; clear H; go_enter Tryz.func78, Tryz.ntmps78; go_wp2; go_loopg [3, 9] k (fun kq v3 v9 w' => ∃ (x3_1 : List Int) (x9_1 : Int), v9 = .int .i64 x9_1 ∧ Aside0 (impl_countsOf.l0 kq x3_1 l0 (l0.length : Int) x9_1 = some r) ∧ Aside0 (kq ≤ k) ∧ Aside0 (Kd.R (Kd.int .i64) 3 w' w.heap.size (fun _ => True) v3 x3_1) ∧ Aside0 (Below w.heap.size w w'))
 case atStart => exact ⟨(([] : List Int)), (0), zB, H', ⟨Nat.le_refl _⟩, ⟨zU⟩, ⟨zA HB.out⟩⟩
 case round =>
  clear H'; obtain ⟨x3_1, x9_1, rfl, HA, HK1, HO_3, HB⟩ := hrel
  cases gk with
  | zero => exact absurd HA.out (by simp [impl_countsOf.l0])
  | succ k1 =>
   have H := HA.out; clear HA; simp only [impl_countsOf.l0] at H; by_cases c2 : x9_1 < (l0.length : Int)
   ·
    rw [if_pos c2] at H; have c2b0 : decide (x9_1 < (l0.length : Int)) = true := decide_eq_true c2; clear c2; by_cases c3 : 0 ≤ x9_1
    ·
     rw [if_pos c3] at H; have c3b0 : decide (0 ≤ x9_1) = true := decide_eq_true c3; clear c3; by_cases c4 : x9_1 < (l0.length : Int)
     ·
      rw [if_pos c4] at H; have c4b0 : decide (x9_1 < (l0.length : Int)) = true := decide_eq_true c4; clear c4; replace H := Option.bind_eq_some_iff.mp H; obtain ⟨t294, A50, H⟩ := H; replace H : (if t294 = 7 then (if x9_1 > 0 then (if 0 ≤ (wrap64 (x9_1 - 1)) then (if (wrap64 (x9_1 - 1)) < (x3_1.length : Int) then ((impl_afterSpace.f k1 (rd x3_1 (wrap64 (x9_1 - 1)))).bind fun t296 => (if t296 = true then (if x3_1.length < 17592186044416 then (impl_countsOf.l0 k1 (x3_1 ++ [1]) l0 (l0.length : Int) (wrap64 (x9_1 + 1))) else (none)) else (if x3_1.length < 17592186044416 then (impl_countsOf.l0 k1 (x3_1 ++ [rd x3_1 (wrap64 (x9_1 - 1))]) l0 (l0.length : Int) (wrap64 (x9_1 + 1))) else (none)))) else (none)) else (none)) else (if x3_1.length < 17592186044416 then (impl_countsOf.l0 k1 (x3_1 ++ [1]) l0 (l0.length : Int) (wrap64 (x9_1 + 1))) else (none))) else (if x3_1.length < 17592186044416 then (impl_countsOf.l0 k1 (x3_1 ++ [t294]) l0 (l0.length : Int) (wrap64 (x9_1 + 1))) else (none))) = some r := H; have A5 := az A50; clear A50; by_cases c6 : t294 = 7
      ·
       rw [if_pos c6] at H; have c6b0 : (t294 == 7) = true := beq_iff_eq.mpr c6; have c6b1 : (t294 != 7) = false := bne_eq_false_iff_eq.mpr c6; clear c6; by_cases c7 : x9_1 > 0
       ·
        rw [if_pos c7] at H; have c7b0 : decide (0 < x9_1) = true := decide_eq_true c7; clear c7; obtain ⟨ji8, hji8⟩ : ∃ j_ : Int, (wrap64 (x9_1 - 1)) = j_ := ⟨_, rfl⟩; replace H : (if 0 ≤ (ji8) then (if (ji8) < (x3_1.length : Int) then ((impl_afterSpace.f k1 (rd x3_1 (ji8))).bind fun t296 => (if t296 = true then (if x3_1.length < 17592186044416 then (impl_countsOf.l0 k1 (x3_1 ++ [1]) l0 (l0.length : Int) (wrap64 (x9_1 + 1))) else (none)) else (if x3_1.length < 17592186044416 then (impl_countsOf.l0 k1 (x3_1 ++ [rd x3_1 (ji8)]) l0 (l0.length : Int) (wrap64 (x9_1 + 1))) else (none)))) else (none)) else (none)) = some r := by first | (rw [hji8] at H; exact H) | (simp only [hji8] at H ⊢; exact H)
        (try rw [hji8] at A5); have hji8w : (IntKind.i64.wrap (x9_1 - 1)) = ji8 := (i64_w _).trans hji8; by_cases c9 : 0 ≤ (ji8)
        ·
         rw [if_pos c9] at H; have c9b0 : decide (0 ≤ (ji8)) = true := decide_eq_true c9; clear c9; by_cases c10 : (ji8) < (x3_1.length : Int)
         ·
          rw [if_pos c10] at H; have c10b0 : decide ((ji8) < (x3_1.length : Int)) = true := decide_eq_true c10; clear c10; replace H := Option.bind_eq_some_iff.mp H; obtain ⟨t296, A110, H⟩ := H; replace H : (if t296 = true then (if x3_1.length < 17592186044416 then (impl_countsOf.l0 k1 (x3_1 ++ [1]) l0 (l0.length : Int) (wrap64 (x9_1 + 1))) else (none)) else (if x3_1.length < 17592186044416 then (impl_countsOf.l0 k1 (x3_1 ++ [rd x3_1 (ji8)]) l0 (l0.length : Int) (wrap64 (x9_1 + 1))) else (none))) = some r := H; have A11 := az A110; clear A110; by_cases c12 : t296 = true
          ·
           subst c12; have H1 : (if x3_1.length < 17592186044416 then (impl_countsOf.l0 k1 (x3_1 ++ [1]) l0 (l0.length : Int) (wrap64 (x9_1 + 1))) else (none)) = some r := by rw [if_pos rfl] at H; exact H
           clear H; have H := H1; clear H1; by_cases c13 : x3_1.length < 17592186044416
           ·
            rw [if_pos c13] at H; have LMc13 := az c13; clear c13; obtain ⟨y297, hy297⟩ : ∃ y_ : List Int, y_ = (x3_1 ++ [1]) := ⟨_, rfl⟩; replace H : (impl_countsOf.l0 k1 y297 l0 (l0.length : Int) (wrap64 (x9_1 + 1))) = some r := by first | (rw [hy297]; with_reducible exact H) | (have H2_ := (Option.bind_some _ _).symm.trans H; rw [hy297]; with_reducible exact H2_) | (have H2_ := (Option.bind_some _ _).symm.trans H; with_reducible exact H2_) | with_reducible exact H | (rw [hy297]; exact H) | exact H
            have Ny297 := az hy297; clear hy297; have H' := az H; clear H; have p293 : 0 ≤ (x9_1 : Int) := of_decide_eq_true (by assumption); have q293 : x9_1 < (l0.length : Int) := of_decide_eq_true (by assumption); obtain ⟨ad293, e293, hx293_0⟩ := Kd.at_int HR0.out x9_1 p293 q293
            cases e293
            replace hx293_0 := (HB.out.cell (World.block_lt_of_cell? w _ hx293_0)).trans hx293_0; replace p293 := eq_true p293; replace q293 := eq_true q293; go_wp2_with (first | ((with_reducible refine gate_callee (f := 81) rfl ?_); refine goesL_ (some 15) rfl rfl Tryz.func81 (by kernel_rfl) rfl #[.int .i64 (rd l0 x9_1)] rfl zC ?_; (with_reducible refine (impl_RuneLine.calls k1 (rd l0 x9_1) t294 _ A5.out).mono ?_); rintro e w14 ⟨rfl, hb⟩; refine ⟨_, rfl, ?_⟩; have n0_ := az (Kd.R_below (zF HO_3.out) hb); have n1_ := az (below_step (zA HB.out) hb); clear HO_3; clear HB; have HO_3 := n0_; have HB := n1_; clear n0_ n1_; (try clear hb); (try clear hb2); (try clear hk); (try clear hi); obtain ⟨Ao15, co15, eo15⟩ := Kd.R_slice HO_3.out; subst eo15; have p295 : 0 ≤ ((ji8) : Int) := of_decide_eq_true (by assumption); have q295 : (ji8) < (x3_1.length : Int) := of_decide_eq_true (by assumption); obtain ⟨ad295, e295, hx295_0⟩ := Kd.at_int (Kd.R_reads' HO_3.out).2.2 (ji8) p295 q295; cases e295; replace p295 := eq_true p295; replace q295 := eq_true q295) | (go_at_call 82; (with_reducible refine (impl_afterSpace.calls k1 (rd x3_1 (ji8)) true _ A11.out).mono ?_); rintro e w16 ⟨rfl, hb⟩; have n0_ := az (Kd.R_below (zF HO_3.out) hb); have n1_ := az (below_step (zA HB.out) hb); clear HO_3; clear HB; have HO_3 := n0_; have HB := n1_; clear n0_ n1_; (try clear hb); (try clear hb2); (try clear hk); (try clear hi)) | ((with_reducible refine gate_builtin (b := .append) (xs := #[.tmp 34, .tmp 36]) rfl ?_); at_builtin; refine Kd.R_append (Kd.int .i64) (w0 := w) w.heap.size rfl (.tmp 34) (.tmp 36) 22 3 (.int .i64 0) 8 rfl Tryz.underlying22 info3 rfl (by decide) (by omega) (.slice (some ad295) x3_1.length co15) x3_1 1 [.int .i64 1] (fun _ => True) (fun _ => False) rfl rfl ?aP (fun _ hk => hk.elim) ?aF ?aO ?aB ?aS ?aL ?_; (case aP => exact rfl); (case aB => exact (zA HB.out)); (case aF => exact (fun _ _ => trivial)); (case aO => exact (zF HO_3.out)); (case aS => exact (below_size (zA HB.out))); (case aL => have := LMc13.out; omega); intro v298 w17 ho hb hg hat; rw [← Ny297.out] at ho; have n0_ := az (hb); have n1_ := az (ho); clear HB; clear HO_3; have HB := n0_; have HO299 := n1_; clear n0_ n1_; clear ho hb hg hat)); go_roundg k1
            case measure => have := HK1.out; omega
            case rel => exact ⟨(y297), (wrap64 (x9_1 + 1)), zB, H', ⟨zE HK1.out⟩, ⟨zF HO299.out⟩, ⟨zA HB.out⟩⟩
           ·
            rw [if_neg c13] at H; exact absurd H (by simp)
          ·
           replace c12 := Bool.eq_false_iff.mpr c12; subst c12; have H1 : (if x3_1.length < 17592186044416 then (impl_countsOf.l0 k1 (x3_1 ++ [rd x3_1 (ji8)]) l0 (l0.length : Int) (wrap64 (x9_1 + 1))) else (none)) = some r := by rw [if_neg (show ¬ (false = true) by decide)] at H; exact H
           clear H; have H := H1; clear H1; by_cases c18 : x3_1.length < 17592186044416
           ·
            rw [if_pos c18] at H; have LMc18 := az c18; clear c18; obtain ⟨y301, hy301⟩ : ∃ y_ : List Int, y_ = (x3_1 ++ [rd x3_1 (ji8)]) := ⟨_, rfl⟩; replace H : (impl_countsOf.l0 k1 y301 l0 (l0.length : Int) (wrap64 (x9_1 + 1))) = some r := by first | (rw [hy301]; with_reducible exact H) | (have H2_ := (Option.bind_some _ _).symm.trans H; rw [hy301]; with_reducible exact H2_) | (have H2_ := (Option.bind_some _ _).symm.trans H; with_reducible exact H2_) | with_reducible exact H | (rw [hy301]; exact H) | exact H
            have Ny301 := az hy301; clear hy301; have H' := az H; clear H; have p293 : 0 ≤ (x9_1 : Int) := of_decide_eq_true (by assumption); have q293 : x9_1 < (l0.length : Int) := of_decide_eq_true (by assumption); obtain ⟨ad293, e293, hx293_0⟩ := Kd.at_int HR0.out x9_1 p293 q293
            cases e293
            replace hx293_0 := (HB.out.cell (World.block_lt_of_cell? w _ hx293_0)).trans hx293_0; replace p293 := eq_true p293; replace q293 := eq_true q293; go_wp2_with (first | ((with_reducible refine gate_callee (f := 81) rfl ?_); refine goesL_ (some 15) rfl rfl Tryz.func81 (by kernel_rfl) rfl #[.int .i64 (rd l0 x9_1)] rfl zC ?_; (with_reducible refine (impl_RuneLine.calls k1 (rd l0 x9_1) t294 _ A5.out).mono ?_); rintro e w19 ⟨rfl, hb⟩; refine ⟨_, rfl, ?_⟩; have n0_ := az (Kd.R_below (zF HO_3.out) hb); have n1_ := az (below_step (zA HB.out) hb); clear HO_3; clear HB; have HO_3 := n0_; have HB := n1_; clear n0_ n1_; (try clear hb); (try clear hb2); (try clear hk); (try clear hi); obtain ⟨Ao20, co20, eo20⟩ := Kd.R_slice HO_3.out; subst eo20; have p295 : 0 ≤ ((ji8) : Int) := of_decide_eq_true (by assumption); have q295 : (ji8) < (x3_1.length : Int) := of_decide_eq_true (by assumption); obtain ⟨ad295, e295, hx295_0⟩ := Kd.at_int (Kd.R_reads' HO_3.out).2.2 (ji8) p295 q295; cases e295; replace p295 := eq_true p295; replace q295 := eq_true q295) | (go_at_call 82; (with_reducible refine (impl_afterSpace.calls k1 (rd x3_1 (ji8)) false _ A11.out).mono ?_); rintro e w21 ⟨rfl, hb⟩; have n0_ := az (Kd.R_below (zF HO_3.out) hb); have n1_ := az (below_step (zA HB.out) hb); clear HO_3; clear HB; have HO_3 := n0_; have HB := n1_; clear n0_ n1_; (try clear hb); (try clear hb2); (try clear hk); (try clear hi); have p300 : 0 ≤ ((ji8) : Int) := of_decide_eq_true (by assumption); have q300 : (ji8) < (x3_1.length : Int) := of_decide_eq_true (by assumption); obtain ⟨ad300, e300, hx300_0⟩ := Kd.at_int (Kd.R_reads' HO_3.out).2.2 (ji8) p300 q300; obtain rfl : ad295 = ad300 := (by injection e300); replace p300 := eq_true p300; replace q300 := eq_true q300) | ((with_reducible refine gate_builtin (b := .append) (xs := #[.tmp 34, .tmp 36]) rfl ?_); at_builtin; refine Kd.R_append (Kd.int .i64) (w0 := w) w.heap.size rfl (.tmp 34) (.tmp 36) 22 3 (.int .i64 0) 8 rfl Tryz.underlying22 info3 rfl (by decide) (by omega) (.slice (some ad295) x3_1.length co20) x3_1 (rd x3_1 (ji8)) [.int .i64 (rd x3_1 (ji8))] (fun _ => True) (fun _ => False) rfl rfl ?aP (fun _ hk => hk.elim) ?aF ?aO ?aB ?aS ?aL ?_; (case aP => exact rfl); (case aB => exact (zA HB.out)); (case aF => exact (fun _ _ => trivial)); (case aO => exact (zF HO_3.out)); (case aS => exact (below_size (zA HB.out))); (case aL => have := LMc18.out; omega); intro v302 w22 ho hb hg hat; rw [← Ny301.out] at ho; have n0_ := az (hb); have n1_ := az (ho); clear HB; clear HO_3; have HB := n0_; have HO303 := n1_; clear n0_ n1_; clear ho hb hg hat)); go_roundg k1
            case measure => have := HK1.out; omega
            case rel => exact ⟨(y301), (wrap64 (x9_1 + 1)), zB, H', ⟨zE HK1.out⟩, ⟨zF HO303.out⟩, ⟨zA HB.out⟩⟩
           ·
            rw [if_neg c18] at H; exact absurd H (by simp)
         ·
          rw [if_neg c10] at H; exact absurd H (by simp)
        ·
         rw [if_neg c9] at H; exact absurd H (by simp)
       ·
        rw [if_neg c7] at H; have c7b0 : decide (0 < x9_1) = false := decide_eq_false c7; clear c7; by_cases c23 : x3_1.length < 17592186044416
        ·
         rw [if_pos c23] at H; have LMc23 := az c23; clear c23; obtain ⟨y304, hy304⟩ : ∃ y_ : List Int, y_ = (x3_1 ++ [1]) := ⟨_, rfl⟩; replace H : (impl_countsOf.l0 k1 y304 l0 (l0.length : Int) (wrap64 (x9_1 + 1))) = some r := by first | (rw [hy304]; with_reducible exact H) | (have H2_ := (Option.bind_some _ _).symm.trans H; rw [hy304]; with_reducible exact H2_) | (have H2_ := (Option.bind_some _ _).symm.trans H; with_reducible exact H2_) | with_reducible exact H | (rw [hy304]; exact H) | exact H
         have Ny304 := az hy304; clear hy304; have H' := az H; clear H; have p293 : 0 ≤ (x9_1 : Int) := of_decide_eq_true (by assumption); have q293 : x9_1 < (l0.length : Int) := of_decide_eq_true (by assumption); obtain ⟨ad293, e293, hx293_0⟩ := Kd.at_int HR0.out x9_1 p293 q293
         cases e293
         replace hx293_0 := (HB.out.cell (World.block_lt_of_cell? w _ hx293_0)).trans hx293_0; replace p293 := eq_true p293; replace q293 := eq_true q293; go_wp2_with (first | ((with_reducible refine gate_callee (f := 81) rfl ?_); refine goesL_ (some 15) rfl rfl Tryz.func81 (by kernel_rfl) rfl #[.int .i64 (rd l0 x9_1)] rfl zC ?_; (with_reducible refine (impl_RuneLine.calls k1 (rd l0 x9_1) t294 _ A5.out).mono ?_); rintro e w24 ⟨rfl, hb⟩; refine ⟨_, rfl, ?_⟩; have n0_ := az (Kd.R_below (zF HO_3.out) hb); have n1_ := az (below_step (zA HB.out) hb); clear HO_3; clear HB; have HO_3 := n0_; have HB := n1_; clear n0_ n1_; (try clear hb); (try clear hb2); (try clear hk); (try clear hi)) | ((with_reducible refine gate_builtin (b := .append) (xs := #[.tmp 34, .tmp 36]) rfl ?_); at_builtin; refine Kd.R_append (Kd.int .i64) (w0 := w) w.heap.size rfl (.tmp 34) (.tmp 36) 22 3 (.int .i64 0) 8 rfl Tryz.underlying22 info3 rfl (by decide) (by omega) u3 x3_1 1 [.int .i64 1] (fun _ => True) (fun _ => False) rfl rfl ?aP (fun _ hk => hk.elim) ?aF ?aO ?aB ?aS ?aL ?_; (case aP => exact rfl); (case aB => exact (zA HB.out)); (case aF => exact (fun _ _ => trivial)); (case aO => exact (zF HO_3.out)); (case aS => exact (below_size (zA HB.out))); (case aL => have := LMc23.out; omega); intro v305 w25 ho hb hg hat; rw [← Ny304.out] at ho; have n0_ := az (hb); have n1_ := az (ho); clear HB; clear HO_3; have HB := n0_; have HO306 := n1_; clear n0_ n1_; clear ho hb hg hat)); go_roundg k1
         case measure => have := HK1.out; omega
         case rel => exact ⟨(y304), (wrap64 (x9_1 + 1)), zB, H', ⟨zE HK1.out⟩, ⟨zF HO306.out⟩, ⟨zA HB.out⟩⟩
        ·
         rw [if_neg c23] at H; exact absurd H (by simp)
      ·
       rw [if_neg c6] at H; have c6b0 : (t294 == 7) = false := beq_eq_false_iff_ne.mpr c6; have c6b1 : (t294 != 7) = true := bne_iff_ne.mpr c6; by_cases c26 : x3_1.length < 17592186044416
       ·
        rw [if_pos c26] at H; have LMc26 := az c26; clear c26; obtain ⟨y307, hy307⟩ : ∃ y_ : List Int, y_ = (x3_1 ++ [t294]) := ⟨_, rfl⟩; replace H : (impl_countsOf.l0 k1 y307 l0 (l0.length : Int) (wrap64 (x9_1 + 1))) = some r := by first | (rw [hy307]; with_reducible exact H) | (have H2_ := (Option.bind_some _ _).symm.trans H; rw [hy307]; with_reducible exact H2_) | (have H2_ := (Option.bind_some _ _).symm.trans H; with_reducible exact H2_) | with_reducible exact H | (rw [hy307]; exact H) | exact H
        have Ny307 := az hy307; clear hy307; have H' := az H; clear H; have p293 : 0 ≤ (x9_1 : Int) := of_decide_eq_true (by assumption); have q293 : x9_1 < (l0.length : Int) := of_decide_eq_true (by assumption); obtain ⟨ad293, e293, hx293_0⟩ := Kd.at_int HR0.out x9_1 p293 q293
        cases e293
        replace hx293_0 := (HB.out.cell (World.block_lt_of_cell? w _ hx293_0)).trans hx293_0; replace p293 := eq_true p293; replace q293 := eq_true q293; go_wp2_with (first | ((with_reducible refine gate_callee (f := 81) rfl ?_); refine goesL_ (some 15) rfl rfl Tryz.func81 (by kernel_rfl) rfl #[.int .i64 (rd l0 x9_1)] rfl zC ?_; (with_reducible refine (impl_RuneLine.calls k1 (rd l0 x9_1) t294 _ A5.out).mono ?_); rintro e w27 ⟨rfl, hb⟩; refine ⟨_, rfl, ?_⟩; have n0_ := az (Kd.R_below (zF HO_3.out) hb); have n1_ := az (below_step (zA HB.out) hb); clear HO_3; clear HB; have HO_3 := n0_; have HB := n1_; clear n0_ n1_; (try clear hb); (try clear hb2); (try clear hk); (try clear hi)) | ((with_reducible refine gate_builtin (b := .append) (xs := #[.tmp 34, .tmp 36]) rfl ?_); at_builtin; refine Kd.R_append (Kd.int .i64) (w0 := w) w.heap.size rfl (.tmp 34) (.tmp 36) 22 3 (.int .i64 0) 8 rfl Tryz.underlying22 info3 rfl (by decide) (by omega) u3 x3_1 t294 [.int .i64 t294] (fun _ => True) (fun _ => False) rfl rfl ?aP (fun _ hk => hk.elim) ?aF ?aO ?aB ?aS ?aL ?_; (case aP => exact rfl); (case aB => exact (zA HB.out)); (case aF => exact (fun _ _ => trivial)); (case aO => exact (zF HO_3.out)); (case aS => exact (below_size (zA HB.out))); (case aL => have := LMc26.out; omega); intro v308 w28 ho hb hg hat; rw [← Ny307.out] at ho; have n0_ := az (hb); have n1_ := az (ho); clear HB; clear HO_3; have HB := n0_; have HO309 := n1_; clear n0_ n1_; clear ho hb hg hat)); go_roundg k1
        case measure => have := HK1.out; omega
        case rel => exact ⟨(y307), (wrap64 (x9_1 + 1)), zB, H', ⟨zE HK1.out⟩, ⟨zF HO309.out⟩, ⟨zA HB.out⟩⟩
       ·
        rw [if_neg c26] at H; exact absurd H (by simp)
     ·
      rw [if_neg c4] at H; exact absurd H (by simp)
    ·
     rw [if_neg c3] at H; exact absurd H (by simp)
   ·
    rw [if_neg c2] at H; have c2b0 : decide (x9_1 < (l0.length : Int)) = false := decide_eq_false c2; clear c2; obtain rfl := Option.some.inj H; go_wp2; go_ret; exact ⟨_, zG, zF HO_3.out, zA HB.out⟩
def inL (l : List Int) (x : Int) : Bool := l.contains x
def wordB (n : Int) : Bool := inL [1, 2] n
def ansV : Nat → Int
 | 0 => 2
 | 1 => 0
 | 2 => 1
 | 3 => 0
 | 4 => 0
 | 5 => 0
 | 6 => 1
 | 7 => 0
 | 8 => 0
 | _ => 1
def isV (a b s : Int) : Nat → Bool
 | 0 => a == 4
 | 1 => inL [4, 3, 6] b
 | 2 => s == 6
 | 3 => a == 5 || (b == 5 && !(inL [3, 14, 12] a))
 | 4 => (inL [9, 10, 13] b && !(a == 3)) || (inL [9, 10] b && !(s == 0))
 | 5 => s == 8
 | 6 => a == 3
 | 7 => a == 11 || inL [11, 14, 12] b
 | 8 => (wordB a && wordB b) || (b == 2 && inL [12, 13] a) || (a == 13 && b == 1) || ((wordB a && b == 8) || (a == 9 && wordB b))
 | _ => true
theorem one_l (x : Int) (l : List Int) (hn : l.length ≤ 1000) : ∀ (d k i : Nat), l.length - i = d → i ≤ l.length → d < k → impl_oneOf.l0 k x l (l.length : Int) (i : Int) = some ((l.drop i).contains x)
 | 0, k, i, hd, hi, hk => by
  obtain ⟨k, rfl⟩ : ∃ m, k = m + 1 := ⟨k - 1, by omega⟩
  rw [impl_oneOf.l0, if_neg (by omega), List.drop_eq_nil_of_le (by omega)]
  rfl
 | d + 1, k, i, hd, hi, hk => by
  obtain ⟨k, rfl⟩ : ∃ m, k = m + 1 := ⟨k - 1, by omega⟩
  have ih := one_l x l hn d k (i + 1) (by omega) (by omega) (by omega)
  have hlt : i < l.length := by omega
  rw [impl_oneOf.l0, if_pos (by omega), if_pos (by omega), if_pos (by omega), List.drop_eq_getElem_cons hlt]
  have e : rd l (i : Int) = l[i] := by simp [rd, List.getD_eq_getElem?_getD, hlt]
  have w : wrap64 ((i : Int) + 1) = ((i + 1 : Nat) : Int) := by unfold wrap64; omega
  rw [e, w, ih, List.contains_cons]
  by_cases h : x = l[i]
  · rw [if_pos h, beq_iff_eq.mpr h, Bool.true_or]
  · rw [if_neg h, beq_eq_false_iff_ne.mpr h, Bool.false_or]
theorem one_f (k : Nat) (x : Int) (l : List Int) (hn : l.length ≤ 1000) (hk : l.length < k) : impl_oneOf.f k x l = some (l.contains x) := by
 have h := one_l x l hn l.length k 0 (by omega) (by omega) hk
 rw [List.drop_zero] at h
 exact h
theorem oneOf_calls (a0 : Int) (A1 : Option Addr) (n c1 : Nat) (l1 : List Int) (w : World) (hr1 : Kd.C (Kd.int .i64) w A1 n l1) (hc1 : n ≤ c1) (hn : n ≤ 1000) :
  Calls Tryz.prog 104 #[.int .i64 a0, .slice A1 n c1] w fun e w' => e = .returned (.bool (inL l1 a0)) ∧ Drawn0 w w' := by
 obtain rfl : l1.length = n := hr1.1
 exact impl_oneOf.calls 1001 a0 A1 c1 l1 _ w hr1 hc1 (one_f 1001 a0 l1 hn (by omega))
theorem litC (xs : List Int) {W : World} {n g : Nat} (a : Array Value) (hg : W.heap.size = g) (ha : a = (xs.map fun x => .int .i64 x).toArray := by rfl) (hn : xs.length = n := by rfl) (hm : n ≤ 1000 := by decide) : Kd.C (Kd.int .i64) (W.alloc (.cells a 3)) (some ⟨g, 0, none⟩) n xs := by
 subst ha
 subst hg
 subst hn
 refine Kd.C_of_reads (d := (0 : Int)) (h1 := fun _ => rfl) ⟨rfl, by omega, fun _ => ⟨_, rfl, fun j hj => ?_⟩⟩
 have h := blk_cell (blk_new W (.cells (xs.map fun x => .int .i64 x).toArray 3)) j
 rw [add_plain, h]
 simp [List.getD_eq_getElem?_getD, hj]
theorem rule0_calls (a b s : Int) (w : World) : Calls Tryz.prog 105 #[.agg #[.int .i64 a, .int .i64 b, .int .i64 s]] w fun e w' => e = .returned (.bool (isV a b s 0)) ∧ Below w.heap.size w w' := by
 have HB := az (below_alloc (Below.refl w.heap.size w) (.cells #[.int .i64 a, .int .i64 b, .int .i64 s] 96))
 go_enter Tryz.func105, Tryz.ntmps105
 go_wp2
 go_ret
 exact ⟨rfl, HB.out⟩
theorem rule1_calls (a b s : Int) (w : World) : Calls Tryz.prog 106 #[.agg #[.int .i64 a, .int .i64 b, .int .i64 s]] w fun e w' => e = .returned (.bool (isV a b s 1)) ∧ Below w.heap.size w w' := by
 have HB := az (below_alloc (Below.refl w.heap.size w) (.cells #[.int .i64 a, .int .i64 b, .int .i64 s] 96))
 have HE2 := az (show isV a b s 1 = inL [4, 3, 6] b by rfl)
 go_enter Tryz.func106, Tryz.ntmps106
 go_wp2_with (first | (go_at_call 104; go_must (refine (oneOf_calls b _ _ _ [4, 3, 6] _ (litC [4, 3, 6] #[.int .i64 4, .int .i64 3, .int .i64 6] ?hg) (Nat.le_refl _) (by decide)).mono ?_); (case hg => simp); rintro e w' ⟨rfl, ⟨nd1, rfl⟩⟩))
 go_ret
 exact ⟨by rw [HE2.out]; first | done | rfl, pw_below_drewN (below_alloc HB.out _) _⟩
theorem rule2_calls (a b s : Int) (w : World) : Calls Tryz.prog 107 #[.agg #[.int .i64 a, .int .i64 b, .int .i64 s]] w fun e w' => e = .returned (.bool (isV a b s 2)) ∧ Below w.heap.size w w' := by
 have HB := az (below_alloc (Below.refl w.heap.size w) (.cells #[.int .i64 a, .int .i64 b, .int .i64 s] 96))
 go_enter Tryz.func107, Tryz.ntmps107
 go_wp2
 go_ret
 exact ⟨rfl, HB.out⟩
theorem rule3_calls (a b s : Int) (w : World) : Calls Tryz.prog 108 #[.agg #[.int .i64 a, .int .i64 b, .int .i64 s]] w fun e w' => e = .returned (.bool (isV a b s 3)) ∧ Below w.heap.size w w' := by
 have HB := az (below_alloc (Below.refl w.heap.size w) (.cells #[.int .i64 a, .int .i64 b, .int .i64 s] 96))
 by_cases h5 : a = 5
 ·
  have b5 : (a == 5) = true := beq_iff_eq.mpr h5
  have HE2 := az (show isV a b s 3 = true by unfold isV; rw [b5]; rfl)
  clear h5
  go_enter Tryz.func108, Tryz.ntmps108
  go_wp2
  go_ret
  exact ⟨by rw [HE2.out]; first | done | rfl, HB.out⟩
 ·
  have b5 : (a == 5) = false := beq_eq_false_iff_ne.mpr h5
  clear h5
  by_cases h6 : b = 5
  ·
   have b6 : (b == 5) = true := beq_iff_eq.mpr h6
   have HE2 := az (show isV a b s 3 = !(inL [3, 14, 12] a) by unfold isV; rw [b5, b6]; rfl)
   clear h6
   go_enter Tryz.func108, Tryz.ntmps108
   go_wp2_with (first | (go_at_call 104; go_must (refine (oneOf_calls a _ _ _ [3, 14, 12] _ (litC [3, 14, 12] #[.int .i64 3, .int .i64 14, .int .i64 12] ?hg) (Nat.le_refl _) (by decide)).mono ?_); (case hg => simp); rintro e w' ⟨rfl, ⟨nd1, rfl⟩⟩))
   go_ret
   exact ⟨by rw [HE2.out]; first | done | rfl, pw_below_drewN (below_alloc HB.out _) _⟩
  ·
   have b6 : (b == 5) = false := beq_eq_false_iff_ne.mpr h6
   have HE2 := az (show isV a b s 3 = false by unfold isV; rw [b5, b6]; rfl)
   clear h6
   go_enter Tryz.func108, Tryz.ntmps108
   go_wp2
   go_ret
   exact ⟨by rw [HE2.out]; first | done | rfl, HB.out⟩
theorem rule4_calls (a b s : Int) (w : World) : Calls Tryz.prog 109 #[.agg #[.int .i64 a, .int .i64 b, .int .i64 s]] w fun e w' => e = .returned (.bool (isV a b s 4)) ∧ Below w.heap.size w w' := by
 have HB := az (below_alloc (Below.refl w.heap.size w) (.cells #[.int .i64 a, .int .i64 b, .int .i64 s] 96))
 have L1 := fun (W : World) (g : Nat) (hg : W.heap.size = g) => litC [9, 10, 13] #[.int .i64 9, .int .i64 10, .int .i64 13] hg
 have L2 := fun (W : World) (g : Nat) (hg : W.heap.size = g) => litC [9, 10] #[.int .i64 9, .int .i64 10] hg
 have LT : 3 ≤ 1000 ∧ 2 ≤ 1000 := by decide
 cases q1 : inL [9, 10, 13] b with
 | true =>
  by_cases h3 : a = 3
  ·
   have b3 : (a == 3) = true := beq_iff_eq.mpr h3
   have b3' : (a != 3) = false := by rw [bne, b3]; rfl
   clear h3
   cases q2 : inL [9, 10] b with
   | true =>
    have HE2 := az (show isV a b s 4 = !(s == 0) by unfold isV; rw [q1, q2, b3]; rfl)
    go_enter Tryz.func109, Tryz.ntmps109
    go_wp2_with (first | (go_at_call 104; first | ((with_reducible refine (oneOf_calls b _ 3 3 [9, 10, 13] _ (L1 _ _ ?hg) (Nat.le_refl _) LT.1).mono ?_); (case hg => simp); rintro e w' ⟨rfl, ⟨nd1, rfl⟩⟩; rw [q1]) | ((with_reducible refine (oneOf_calls b _ 2 2 [9, 10] _ (L2 _ _ ?hg) (Nat.le_refl _) LT.2).mono ?_); (case hg => simp); rintro e w' ⟨rfl, ⟨nd2, rfl⟩⟩; rw [q2])))
    go_ret
    exact ⟨by rw [HE2.out]; first | done | rfl, pw_below_drewN (below_alloc (pw_below_drewN (below_alloc HB.out _) _) _) _⟩
   | false =>
    have HE2 := az (show isV a b s 4 = false by unfold isV; rw [q1, q2, b3]; rfl)
    go_enter Tryz.func109, Tryz.ntmps109
    go_wp2_with (first | (go_at_call 104; first | ((with_reducible refine (oneOf_calls b _ 3 3 [9, 10, 13] _ (L1 _ _ ?hg) (Nat.le_refl _) LT.1).mono ?_); (case hg => simp); rintro e w' ⟨rfl, ⟨nd1, rfl⟩⟩; rw [q1]) | ((with_reducible refine (oneOf_calls b _ 2 2 [9, 10] _ (L2 _ _ ?hg) (Nat.le_refl _) LT.2).mono ?_); (case hg => simp); rintro e w' ⟨rfl, ⟨nd2, rfl⟩⟩; rw [q2])))
    go_ret
    exact ⟨by rw [HE2.out]; first | done | rfl, pw_below_drewN (below_alloc (pw_below_drewN (below_alloc HB.out _) _) _) _⟩
  ·
   have b3 : (a == 3) = false := beq_eq_false_iff_ne.mpr h3
   have b3' : (a != 3) = true := by rw [bne, b3]; rfl
   clear h3
   have HE2 := az (show isV a b s 4 = true by unfold isV; rw [q1, b3]; rfl)
   go_enter Tryz.func109, Tryz.ntmps109
   go_wp2_with (first | (go_at_call 104; first | ((with_reducible refine (oneOf_calls b _ 3 3 [9, 10, 13] _ (L1 _ _ ?hg) (Nat.le_refl _) LT.1).mono ?_); (case hg => simp); rintro e w' ⟨rfl, ⟨nd1, rfl⟩⟩; rw [q1])))
   go_ret
   exact ⟨by rw [HE2.out]; first | done | rfl, pw_below_drewN (below_alloc HB.out _) _⟩
 | false =>
  cases q2 : inL [9, 10] b with
  | true =>
   have HE2 := az (show isV a b s 4 = !(s == 0) by unfold isV; rw [q1, q2]; rfl)
   go_enter Tryz.func109, Tryz.ntmps109
   go_wp2_with (first | (go_at_call 104; first | ((with_reducible refine (oneOf_calls b _ 3 3 [9, 10, 13] _ (L1 _ _ ?hg) (Nat.le_refl _) LT.1).mono ?_); (case hg => simp); rintro e w' ⟨rfl, ⟨nd1, rfl⟩⟩; rw [q1]) | ((with_reducible refine (oneOf_calls b _ 2 2 [9, 10] _ (L2 _ _ ?hg) (Nat.le_refl _) LT.2).mono ?_); (case hg => simp); rintro e w' ⟨rfl, ⟨nd2, rfl⟩⟩; rw [q2])))
   go_ret
   exact ⟨by rw [HE2.out]; first | done | rfl, pw_below_drewN (below_alloc (pw_below_drewN (below_alloc HB.out _) _) _) _⟩
  | false =>
   have HE2 := az (show isV a b s 4 = false by unfold isV; rw [q1, q2]; rfl)
   go_enter Tryz.func109, Tryz.ntmps109
   go_wp2_with (first | (go_at_call 104; first | ((with_reducible refine (oneOf_calls b _ 3 3 [9, 10, 13] _ (L1 _ _ ?hg) (Nat.le_refl _) LT.1).mono ?_); (case hg => simp); rintro e w' ⟨rfl, ⟨nd1, rfl⟩⟩; rw [q1]) | ((with_reducible refine (oneOf_calls b _ 2 2 [9, 10] _ (L2 _ _ ?hg) (Nat.le_refl _) LT.2).mono ?_); (case hg => simp); rintro e w' ⟨rfl, ⟨nd2, rfl⟩⟩; rw [q2])))
   go_ret
   exact ⟨by rw [HE2.out]; first | done | rfl, pw_below_drewN (below_alloc (pw_below_drewN (below_alloc HB.out _) _) _) _⟩
theorem rule5_calls (a b s : Int) (w : World) : Calls Tryz.prog 110 #[.agg #[.int .i64 a, .int .i64 b, .int .i64 s]] w fun e w' => e = .returned (.bool (isV a b s 5)) ∧ Below w.heap.size w w' := by
 have HB := az (below_alloc (Below.refl w.heap.size w) (.cells #[.int .i64 a, .int .i64 b, .int .i64 s] 96))
 go_enter Tryz.func110, Tryz.ntmps110
 go_wp2
 go_ret
 exact ⟨rfl, HB.out⟩
theorem rule6_calls (a b s : Int) (w : World) : Calls Tryz.prog 111 #[.agg #[.int .i64 a, .int .i64 b, .int .i64 s]] w fun e w' => e = .returned (.bool (isV a b s 6)) ∧ Below w.heap.size w w' := by
 have HB := az (below_alloc (Below.refl w.heap.size w) (.cells #[.int .i64 a, .int .i64 b, .int .i64 s] 96))
 go_enter Tryz.func111, Tryz.ntmps111
 go_wp2
 go_ret
 exact ⟨rfl, HB.out⟩
theorem rule7_calls (a b s : Int) (w : World) : Calls Tryz.prog 112 #[.agg #[.int .i64 a, .int .i64 b, .int .i64 s]] w fun e w' => e = .returned (.bool (isV a b s 7)) ∧ Below w.heap.size w w' := by
 have HB := az (below_alloc (Below.refl w.heap.size w) (.cells #[.int .i64 a, .int .i64 b, .int .i64 s] 96))
 by_cases h5 : a = 11
 ·
  have b5 : (a == 11) = true := beq_iff_eq.mpr h5
  have HE2 := az (show isV a b s 7 = true by unfold isV; rw [b5]; rfl)
  clear h5
  go_enter Tryz.func112, Tryz.ntmps112
  go_wp2
  go_ret
  exact ⟨by rw [HE2.out]; first | done | rfl, HB.out⟩
 ·
  have b5 : (a == 11) = false := beq_eq_false_iff_ne.mpr h5
  have HE2 := az (show isV a b s 7 = inL [11, 14, 12] b by unfold isV; rw [b5]; rfl)
  clear h5
  go_enter Tryz.func112, Tryz.ntmps112
  go_wp2_with (first | (go_at_call 104; go_must (refine (oneOf_calls b _ _ _ [11, 14, 12] _ (litC [11, 14, 12] #[.int .i64 11, .int .i64 14, .int .i64 12] ?hg) (Nat.le_refl _) (by decide)).mono ?_); (case hg => simp); rintro e w' ⟨rfl, ⟨nd1, rfl⟩⟩))
  go_ret
  exact ⟨by rw [HE2.out]; first | done | rfl, pw_below_drewN (below_alloc HB.out _) _⟩
theorem rule9_calls (a b s : Int) (w : World) : Calls Tryz.prog 114 #[.agg #[.int .i64 a, .int .i64 b, .int .i64 s]] w fun e w' => e = .returned (.bool (isV a b s 9)) ∧ Below w.heap.size w w' := by
 have HB := az (below_alloc (Below.refl w.heap.size w) (.cells #[.int .i64 a, .int .i64 b, .int .i64 s] 96))
 go_enter Tryz.func114, Tryz.ntmps114
 go_wp2
 go_ret
 exact ⟨rfl, HB.out⟩
theorem word_calls (x : Int) (w : World) : Calls Tryz.prog 103 #[.int .i64 x] w fun e w' => e = .returned (.bool (wordB x)) ∧ Below w.heap.size w w' := by
 go_enter Tryz.func103, Tryz.ntmps103
 go_wp2_with (go_at_call 104; go_must (refine (oneOf_calls x _ _ _ [1, 2] _ (litC [1, 2] #[.int .i64 1, .int .i64 2] ?hg) (Nat.le_refl _) (by decide)).mono ?_); (case hg => simp); rintro e w' ⟨rfl, ⟨nd1, rfl⟩⟩)
 go_ret
 exact ⟨rfl, pw_below_drewN (below_alloc (Below.refl _ _) _) _⟩
theorem rule8_calls (a b s : Int) (d : Nat) (w : World) (hd : w.cell? ⟨d, 0, none⟩ = some (.func (.func 103) #[] #[])) (hdl : d < w.heap.size) : Calls Tryz.prog 113 #[.agg #[.int .i64 a, .int .i64 b, .int .i64 s], .pointer (some ⟨d, 0, none⟩)] w fun e w' => e = .returned (.bool (isV a b s 8)) ∧ Below w.heap.size w w' := by
 obtain ⟨W0, hW0⟩ : ∃ W0, w.alloc (.cells #[.int .i64 a, .int .i64 b, .int .i64 s] 96) = W0 := ⟨_, rfl⟩
 have hB0 : Below w.heap.size w W0 := by rw [← hW0]; exact below_alloc (Below.refl _ _) _
 have hk : W0.heap[w.heap.size]? = some (.cells #[.int .i64 a, .int .i64 b, .int .i64 s] 96) := by rw [← hW0]; exact blk_new w _
 have x0 := (blk_cell hk 0).trans (show _ = some (Value.int .i64 a) from rfl)
 have x1 := (blk_cell hk 1).trans (show _ = some (Value.int .i64 b) from rfl)
 have xc := (hB0.cell (p := ⟨d, 0, none⟩) hdl).trans hd
 have lt1 : w.heap.size < W0.heap.size := by rw [← hW0]; simp
 have lt2 : d < W0.heap.size := Nat.lt_trans hdl lt1
 have HB0 := az hB0
 have H0 := az (Below.refl W0.heap.size W0)
 clear hB0 hk hd hdl
 have HV := az (show isV a b s 8 = ((wordB a && wordB b) || (b == 2 && inL [12, 13] a) || (a == 13 && b == 1) || ((wordB a && b == 8) || (a == 9 && wordB b))) from rfl)
 have HX := H0
 clear H0
 go_enter Tryz.func113, Tryz.ntmps113
 go_upto_region 1 with fail
 clear hW0
 go_cut [4] (fun v4 wc => v4 = .bool (wordB a && wordB b) ∧ Aside0 (Below W0.heap.size W0 wc))
 case first =>
  cases q1 : wordB a
  all_goals
   go_wp2_with (first | (go_at_call 103; go_must (refine (word_calls _ _).mono ?_); rintro e w' ⟨rfl, hb⟩; have n0 := az (below_step (zA HX.out) hb); clear HX hb; have HX := n0; clear n0; have y0 := (HX.out.cell (p := ⟨w.heap.size, 0, none⟩) lt1).trans x0; have y1 := (HX.out.cell (p := ⟨w.heap.size, 1, none⟩) lt1).trans x1; have yc := (HX.out.cell (p := ⟨d, 0, none⟩) lt2).trans xc))
   go_meet
   exact ⟨by rw [q1]; first | done | rfl, ⟨(zA HX.out)⟩⟩
 case rest =>
 clear HX
 obtain ⟨rfl, HX⟩ := hcut
 cases v1 : (wordB a && wordB b)
 case true =>
  have HE2 := az (show isV a b s 8 = true by rw [HV.out, v1]; rfl)
  go_wp2
  go_ret
  exact ⟨by rw [HE2.out]; first | done | rfl, below_then HB0.out HB0.out.size (zA HX.out)⟩
 case false =>
 go_upto_region 2 with fail
 have z0 := (HX.out.cell (p := ⟨w.heap.size, 0, none⟩) lt1).trans x0; have z1 := (HX.out.cell (p := ⟨w.heap.size, 1, none⟩) lt1).trans x1; have zc := (HX.out.cell (p := ⟨d, 0, none⟩) lt2).trans xc
 go_cut [4] (fun v4 wd => v4 = .bool (b == 2 && inL [12, 13] a) ∧ Aside0 (Below W0.heap.size W0 wd))
 case first =>
  cases b2 : (b == 2)
  all_goals
   go_wp2_with (first | (go_at_call 104; go_must (refine (oneOf_calls a _ _ _ [12, 13] _ (litC [12, 13] #[.int .i64 12, .int .i64 13] ?hg) (Nat.le_refl _) (by decide)).mono ?_); (case hg => simp); rintro e w' ⟨rfl, ⟨nd1, rfl⟩⟩))
   go_meet
   exact ⟨by rw [b2]; first | done | rfl, ⟨(zA HX.out)⟩⟩
 case rest =>
 clear HX z0 z1 zc
 obtain ⟨rfl, HX⟩ := hcut
 cases v2 : (b == 2 && inL [12, 13] a)
 case true =>
  have HE2 := az (show isV a b s 8 = true by rw [HV.out, v1, v2]; rfl)
  go_wp2
  go_ret
  exact ⟨by rw [HE2.out]; first | done | rfl, below_then HB0.out HB0.out.size (zA HX.out)⟩
 case false =>
 go_upto_region 3 with fail
 have z0 := (HX.out.cell (p := ⟨w.heap.size, 0, none⟩) lt1).trans x0; have z1 := (HX.out.cell (p := ⟨w.heap.size, 1, none⟩) lt1).trans x1; have zc := (HX.out.cell (p := ⟨d, 0, none⟩) lt2).trans xc
 go_cut [4] (fun v4 wd => v4 = .bool (a == 13 && b == 1) ∧ Aside0 (Below W0.heap.size W0 wd))
 case first =>
  cases a13 : (a == 13)
  all_goals
   go_wp2
   go_meet
   exact ⟨by rw [a13]; first | done | rfl, ⟨(zA HX.out)⟩⟩
 case rest =>
 clear HX z0 z1 zc
 obtain ⟨rfl, HX⟩ := hcut
 cases v3 : (a == 13 && b == 1)
 case true =>
  have HE2 := az (show isV a b s 8 = true by rw [HV.out, v1, v2, v3]; rfl)
  go_wp2
  go_ret
  exact ⟨by rw [HE2.out]; first | done | rfl, below_then HB0.out HB0.out.size (zA HX.out)⟩
 case false =>
 have HF := az (show isV a b s 8 = ((wordB a && b == 8) || (a == 9 && wordB b)) by rw [HV.out, v1, v2, v3]; rfl)
 clear v2 v3
 have z0 := (HX.out.cell (p := ⟨w.heap.size, 0, none⟩) lt1).trans x0; have z1 := (HX.out.cell (p := ⟨w.heap.size, 1, none⟩) lt1).trans x1; have zc := (HX.out.cell (p := ⟨d, 0, none⟩) lt2).trans xc
 cases q1 : wordB a
 all_goals
  cases b8 : (b == 8)
  all_goals
   cases a9 : (a == 9)
   all_goals
    have HE2 := az (HF.out.trans (by rw [q1, b8, a9]))
    go_wp2_with (first | (go_at_call 103; go_must (refine (word_calls _ _).mono ?_); rintro e w' ⟨rfl, hb⟩; have n0 := az (below_step (zA HX.out) hb); clear HX hb; have HX := n0; clear n0; have y0 := (HX.out.cell (p := ⟨w.heap.size, 0, none⟩) lt1).trans x0; have y1 := (HX.out.cell (p := ⟨w.heap.size, 1, none⟩) lt1).trans x1; have yc := (HX.out.cell (p := ⟨d, 0, none⟩) lt2).trans xc))
    go_ret
    exact ⟨by rw [HE2.out]; first | done | rfl, below_then HB0.out HB0.out.size (zA HX.out)⟩
def RC (W : World) (v : Value) (ans : Int) (fv : Value) : Prop := ∃ bB cB : Nat, v = .func (.func 102) #[] #[.pointer (some ⟨bB, 0, none⟩), .pointer (some ⟨cB, 0, none⟩)] ∧ bB < W.heap.size ∧ cB < W.heap.size ∧ W.cell? ⟨bB, 0, none⟩ = some (.int .i64 ans) ∧ W.cell? ⟨cB, 0, none⟩ = some fv
theorem RC.below {W W' : World} {v : Value} {ans : Int} {fv : Value} (h : RC W v ans fv) (hb : Below W.heap.size W W') : RC W' v ans fv := by
 obtain ⟨bB, cB, h0, h1, h2, h3, h4⟩ := h
 exact ⟨bB, cB, h0, Nat.lt_of_lt_of_le h1 hb.size, Nat.lt_of_lt_of_le h2 hb.size, (hb.cell (p := ⟨bB, 0, none⟩) h1).trans h3, (hb.cell (p := ⟨cB, 0, none⟩) h2).trans h4⟩
theorem when_calls (ans : Int) (fn : Fn) (lb : Array Value) (w : World) : Calls Tryz.prog 101 #[.int .i64 ans, .func fn #[] lb] w fun e w' => ∃ lb', e = .returned (.func (.func 102) #[] lb') ∧ RC w' (.func (.func 102) #[] lb') ans (.func fn #[] lb) ∧ Below w.heap.size w w' := by
 go_enter Tryz.func101, Tryz.ntmps101
 go_wp2
 go_ret
 have e1 := blk_new w (.cells #[.int .i64 ans] 3)
 have e2 := blk_new (w.alloc (.cells #[.int .i64 ans] 3)) (.cells #[.func fn #[] lb] 108)
 refine ⟨_, rfl, ⟨w.heap.size, w.heap.size + 1, rfl, by simp; omega, by simp, (blk_cell (blk_alloc e1 _) 0).trans rfl, ?_⟩, below_alloc (below_alloc (Below.refl _ _) _) _⟩
 rw [show (w.alloc (.cells #[.int .i64 ans] 3)).heap.size = w.heap.size + 1 by simp] at e2
 exact (blk_cell e2 0).trans rfl
theorem when2_calls (f : Nat) (lb : Array Value) (eg : ∀ args w, (callFunc f args).run Tryz.prog w = .ok (.enter f args) w) (a b s ans : Int) (v : Bool) (bB cB : Nat) (w : World) (h1 : w.cell? ⟨bB, 0, none⟩ = some (.int .i64 ans)) (h2 : w.cell? ⟨cB, 0, none⟩ = some (.func (.func f) #[] lb)) (l1 : bB < w.heap.size) (l2 : cB < w.heap.size)
  (hp : ∀ W, Below w.heap.size w W → Calls Tryz.prog f (#[.agg #[.int .i64 a, .int .i64 b, .int .i64 s]] ++ lb) W fun e w' => e = .returned (.bool v) ∧ Below W.heap.size W w') :
  Calls Tryz.prog 102 #[.agg #[.int .i64 a, .int .i64 b, .int .i64 s], .pointer (some ⟨bB, 0, none⟩), .pointer (some ⟨cB, 0, none⟩)] w fun e w' => e = .returned (.tuple #[.int .i64 ans, .bool v]) ∧ Below w.heap.size w w' := by
 obtain ⟨W0, hW0⟩ : ∃ W0, w.alloc (.cells #[.int .i64 a, .int .i64 b, .int .i64 s] 96) = W0 := ⟨_, rfl⟩
 have hB0 : Below w.heap.size w W0 := by rw [← hW0]; exact below_alloc (Below.refl _ _) _
 have hk : W0.heap[w.heap.size]? = some (.cells #[.int .i64 a, .int .i64 b, .int .i64 s] 96) := by rw [← hW0]; exact blk_new w _
 have x1 := (hB0.cell (p := ⟨bB, 0, none⟩) l1).trans h1
 have x2 := (hB0.cell (p := ⟨cB, 0, none⟩) l2).trans h2
 have HB0 := az hB0
 have HP := az hp
 have y0 := (blk_cell hk 0).trans (show _ = some (Value.int .i64 a) from rfl)
 have y1 := (blk_cell hk 1).trans (show _ = some (Value.int .i64 b) from rfl)
 have y2 := (blk_cell hk 2).trans (show _ = some (Value.int .i64 s) from rfl)
 have hu := Tryz.underlying96
 have lb0 : bB < W0.heap.size := Nat.lt_of_lt_of_le l1 hB0.size
 clear hB0 hk h1 h2 l1 l2 hp
 go_enter Tryz.func102, Tryz.ntmps102
 go_upto_region 1 with fail
 clear hW0
 go_region_with (go_at_fn f; refine (HP.out _ (by first | exact HB0.out | exact pw_below_drewN HB0.out _ | exact below_drew1 HB0.out)).mono ?_; rintro e w' ⟨rfl, hb⟩; have HX := az (below_then HB0.out HB0.out.size (below_then (by first | exact Below.refl _ _ | exact pw_below_drewN (Below.refl _ _) _ | exact below_drew1 (Below.refl _ _)) (by first | exact Nat.le_refl _ | simp) hb)); have z1 := ((below_then (B := W0.heap.size) (by first | exact Below.refl _ _ | exact pw_below_drewN (Below.refl _ _) _ | exact below_drew1 (Below.refl _ _)) (by first | exact Nat.le_refl _ | simp) hb).cell (p := ⟨bB, 0, none⟩) lb0).trans x1; clear hb)
 all_goals
  go_wp2
  go_ret2
  exact ⟨rfl, by repeat (first | (with_reducible first | exact HX.out | apply pw_below_drewN | apply below_drew1) | exact HX.out)⟩
def RuleAt (W : World) (v : Value) (i : Nat) : Prop := ∃ (bB cB f : Nat) (lb : Array Value), v = .func (.func 102) #[] #[.pointer (some ⟨bB, 0, none⟩), .pointer (some ⟨cB, 0, none⟩)] ∧ bB < W.heap.size ∧ cB < W.heap.size ∧ W.cell? ⟨bB, 0, none⟩ = some (.int .i64 (ansV i)) ∧ W.cell? ⟨cB, 0, none⟩ = some (.func (.func f) #[] lb) ∧ (∀ args w, (callFunc f args).run Tryz.prog w = .ok (.enter f args) w) ∧ ∀ (a b s : Int) (W' : World), Below W.heap.size W W' → Calls Tryz.prog f (#[.agg #[.int .i64 a, .int .i64 b, .int .i64 s]] ++ lb) W' fun e w' => e = .returned (.bool (isV a b s i)) ∧ Below W'.heap.size W' w'
theorem RuleAt.below {W W' : World} {v : Value} {i : Nat} (h : RuleAt W v i) (hb : Below W.heap.size W W') : RuleAt W' v i := by
 obtain ⟨bB, cB, f, lb, h0, h1, h2, h3, h4, h5, h6⟩ := h
 exact ⟨bB, cB, f, lb, h0, Nat.lt_of_lt_of_le h1 hb.size, Nat.lt_of_lt_of_le h2 hb.size, (hb.cell (p := ⟨bB, 0, none⟩) h1).trans h3, (hb.cell (p := ⟨cB, 0, none⟩) h2).trans h4, h5, fun a b s X hX => h6 a b s X (below_then hb hb.size hX)⟩
theorem RuleAt.of {W : World} {v : Value} {i f : Nat} {lb : Array Value} (h : RC W v (ansV i) (.func (.func f) #[] lb)) (eg : ∀ args w, (callFunc f args).run Tryz.prog w = .ok (.enter f args) w) (hp : ∀ (a b s : Int) (W' : World), Below W.heap.size W W' → Calls Tryz.prog f (#[.agg #[.int .i64 a, .int .i64 b, .int .i64 s]] ++ lb) W' fun e w' => e = .returned (.bool (isV a b s i)) ∧ Below W'.heap.size W' w') : RuleAt W v i := by
 obtain ⟨bB, cB, h0, h1, h2, h3, h4⟩ := h
 exact ⟨bB, cB, f, lb, h0, h1, h2, h3, h4, eg, hp⟩
theorem rule_calls {W : World} {v : Value} {i : Nat} (h : RuleAt W v i) (a b s : Int) : ∃ lb, v = .func (.func 102) #[] lb ∧ Calls Tryz.prog 102 (#[.agg #[.int .i64 a, .int .i64 b, .int .i64 s]] ++ lb) W fun e w' => e = .returned (.tuple #[.int .i64 (ansV i), .bool (isV a b s i)]) ∧ Below W.heap.size W w' := by
 obtain ⟨bB, cB, f, lb, h0, h1, h2, h3, h4, h5, h6⟩ := h
 exact ⟨_, h0, when2_calls f lb h5 a b s _ _ bB cB W h3 h4 h1 h2 (fun X hX => h6 a b s X hX)⟩
def RulesAt (W : World) (g : Nat) : Prop := g < W.heap.size ∧ ∀ i, i < 10 → ∃ v, W.cell? ⟨g, i, none⟩ = some v ∧ RuleAt W v i
theorem RulesAt.below {W W' : World} {g : Nat} (h : RulesAt W g) (hb : Below W.heap.size W W') : RulesAt W' g := by
 refine ⟨Nat.lt_of_lt_of_le h.1 hb.size, fun i hi => ?_⟩
 obtain ⟨v, h1, h2⟩ := h.2 i hi
 exact ⟨v, (hb.cell (p := ⟨g, i, none⟩) h.1).trans h1, h2.below hb⟩
def AllR (W : World) (n : Nat) (vs : List Value) : Prop := ∀ i v, i < n → vs[n - 1 - i]? = some v → RuleAt W v i
theorem AllR.more {W W' : World} {n : Nat} {vs : List Value} (h : AllR W n vs) (hb : Below W.heap.size W W') {v : Value} (hv : RuleAt W' v n) : AllR W' (n + 1) (v :: vs) := by
 intro i u hi hu
 by_cases e : i = n
 ·
  subst e
  rw [show i + 1 - 1 - i = 0 by omega, List.getElem?_cons_zero] at hu
  obtain rfl := Option.some.inj hu
  exact hv
 ·
  rw [show n + 1 - 1 - i = (n - 1 - i) + 1 by omega, List.getElem?_cons_succ] at hu
  exact (h i u (by omega) hu).below hb
theorem eg_of (f : Nat) {fn : Func} (hf : Tryz.prog.funcs[f]? = some fn) (hname : (fn.name == "runtime.NumGoroutine") = false) (hb : fn.body.isSome = true) : ∀ args w, (callFunc f args).run Tryz.prog w = .ok (.enter f args) w := fun args w => enters_ hf hname hb args w
theorem rules_end {W : World} {v0 v1 v2 v3 v4 v5 v6 v7 v8 v9 : Value} (h : AllR W 10 [v9, v8, v7, v6, v5, v4, v3, v2, v1, v0]) : RulesAt (W.alloc (.cells #[v0, v1, v2, v3, v4, v5, v6, v7, v8, v9] 94)) W.heap.size := by
 refine ⟨by simp, fun i hi => ?_⟩
 have hn := blk_cell (blk_new W (.cells #[v0, v1, v2, v3, v4, v5, v6, v7, v8, v9] 94)) i
 have hb : Below W.heap.size W (W.alloc (.cells #[v0, v1, v2, v3, v4, v5, v6, v7, v8, v9] 94)) := below_alloc (Below.refl _ _) _
 match i, hi with
 | 0, _ => exact ⟨v0, hn.trans rfl, (h 0 v0 (by decide) rfl).below hb⟩
 | 1, _ => exact ⟨v1, hn.trans rfl, (h 1 v1 (by decide) rfl).below hb⟩
 | 2, _ => exact ⟨v2, hn.trans rfl, (h 2 v2 (by decide) rfl).below hb⟩
 | 3, _ => exact ⟨v3, hn.trans rfl, (h 3 v3 (by decide) rfl).below hb⟩
 | 4, _ => exact ⟨v4, hn.trans rfl, (h 4 v4 (by decide) rfl).below hb⟩
 | 5, _ => exact ⟨v5, hn.trans rfl, (h 5 v5 (by decide) rfl).below hb⟩
 | 6, _ => exact ⟨v6, hn.trans rfl, (h 6 v6 (by decide) rfl).below hb⟩
 | 7, _ => exact ⟨v7, hn.trans rfl, (h 7 v7 (by decide) rfl).below hb⟩
 | 8, _ => exact ⟨v8, hn.trans rfl, (h 8 v8 (by decide) rfl).below hb⟩
 | 9, _ => exact ⟨v9, hn.trans rfl, (h 9 v9 (by decide) rfl).below hb⟩
theorem rat0 {W : World} {v : Value} (h : RC W v 2 (.func (.func 105) #[] #[])) : RuleAt W v 0 := RuleAt.of (i := 0) h (eg_of _ Tryz.func105 (by kernel_rfl) rfl) (fun a b s X hX => rule0_calls a b s X)
theorem rat1 {W : World} {v : Value} (h : RC W v 0 (.func (.func 106) #[] #[])) : RuleAt W v 1 := RuleAt.of (i := 1) h (eg_of _ Tryz.func106 (by kernel_rfl) rfl) (fun a b s X hX => rule1_calls a b s X)
theorem rat2 {W : World} {v : Value} (h : RC W v 1 (.func (.func 107) #[] #[])) : RuleAt W v 2 := RuleAt.of (i := 2) h (eg_of _ Tryz.func107 (by kernel_rfl) rfl) (fun a b s X hX => rule2_calls a b s X)
theorem rat3 {W : World} {v : Value} (h : RC W v 0 (.func (.func 108) #[] #[])) : RuleAt W v 3 := RuleAt.of (i := 3) h (eg_of _ Tryz.func108 (by kernel_rfl) rfl) (fun a b s X hX => rule3_calls a b s X)
theorem rat4 {W : World} {v : Value} (h : RC W v 0 (.func (.func 109) #[] #[])) : RuleAt W v 4 := RuleAt.of (i := 4) h (eg_of _ Tryz.func109 (by kernel_rfl) rfl) (fun a b s X hX => rule4_calls a b s X)
theorem rat5 {W : World} {v : Value} (h : RC W v 0 (.func (.func 110) #[] #[])) : RuleAt W v 5 := RuleAt.of (i := 5) h (eg_of _ Tryz.func110 (by kernel_rfl) rfl) (fun a b s X hX => rule5_calls a b s X)
theorem rat6 {W : World} {v : Value} (h : RC W v 1 (.func (.func 111) #[] #[])) : RuleAt W v 6 := RuleAt.of (i := 6) h (eg_of _ Tryz.func111 (by kernel_rfl) rfl) (fun a b s X hX => rule6_calls a b s X)
theorem rat7 {W : World} {v : Value} (h : RC W v 0 (.func (.func 112) #[] #[])) : RuleAt W v 7 := RuleAt.of (i := 7) h (eg_of _ Tryz.func112 (by kernel_rfl) rfl) (fun a b s X hX => rule7_calls a b s X)
theorem rat8 {W : World} {v : Value} (d : Nat) (hl : d < W.heap.size) (hd : W.cell? ⟨d, 0, none⟩ = some (.func (.func 103) #[] #[])) (h : RC W v 0 (.func (.func 113) #[] #[.pointer (some ⟨d, 0, none⟩)])) : RuleAt W v 8 := RuleAt.of (i := 8) h (eg_of _ Tryz.func113 (by kernel_rfl) rfl) (fun a b s X hX => rule8_calls a b s d X ((hX.cell (p := ⟨d, 0, none⟩) hl).trans hd) (Nat.lt_of_lt_of_le hl hX.size))
theorem rat9 {W : World} {v : Value} (h : RC W v 1 (.func (.func 114) #[] #[])) : RuleAt W v 9 := RuleAt.of (i := 9) h (eg_of _ Tryz.func114 (by kernel_rfl) rfl) (fun a b s X hX => rule9_calls a b s X)
theorem run_store_funcR {P : Program} {w : World} {a : Addr} {m : Mode} (fn : Fn) (first captured : Array Value) : (store a (.func fn first captured) m).run P w = stored P w a (.func fn first captured) m := run_store P w a _ m rfl
attribute [local go_sem] run_store_funcR
theorem rules_calls (w : World) : Calls Tryz.prog 80 #[] w fun e w' => ∃ g, e = .returned (.slice (some ⟨g, 0, none⟩) 10 10) ∧ RulesAt w' g ∧ Below w.heap.size w w' := by
 obtain ⟨W0, hW0⟩ : ∃ W0, (w.alloc (.cells #[Value.nilFunc] 73)).setCell ⟨w.heap.size, 0, none⟩ (.func (.func 103) #[] #[]) = W0 := ⟨_, rfl⟩
 have hB0 : Below w.heap.size w W0 := by rw [← hW0]; exact (below_alloc (Below.refl _ _) _).setCell (p := ⟨w.heap.size, 0, none⟩) (Nat.le_refl _) _
 have hd : W0.cell? ⟨w.heap.size, 0, none⟩ = some (.func (.func 103) #[] #[]) := by rw [← hW0]; exact (blk_cell (blk_set (blk_new w _) 0 _) 0).trans rfl
 have lt0 : w.heap.size < W0.heap.size := by rw [← hW0]; simp [World.setCell]
 have HD := az hd
 have HB0 := az hB0
 have HB := az (Below.refl W0.heap.size W0)
 have HA : Aside0 (AllR W0 0 []) := ⟨fun i v hi => absurd hi (Nat.not_lt_zero _)⟩
 clear hd hB0
 go_enter Tryz.func80, Tryz.ntmps80
 go_upto_region 3 with fail
 clear hW0
 go_wp2_with (go_at_call 101; first
  | ((with_reducible refine (when_calls 2 (.func 105) #[] _).mono ?_); go_must (rintro e w1 ⟨v0, rfl, hrc, hb⟩; have n1 := az (below_step HB.out hb); clear HB; have n0 := az (HA.out.more hb (rat0 hrc)); have HB := n1; clear n1; clear HA hrc hb; have HA := n0; clear n0))
  | ((with_reducible refine (when_calls 0 (.func 106) #[] _).mono ?_); go_must (rintro e w2 ⟨v1, rfl, hrc, hb⟩; have n1 := az (below_step HB.out hb); clear HB; have n0 := az (HA.out.more hb (rat1 hrc)); have HB := n1; clear n1; clear HA hrc hb; have HA := n0; clear n0))
  | ((with_reducible refine (when_calls 1 (.func 107) #[] _).mono ?_); go_must (rintro e w3 ⟨v2, rfl, hrc, hb⟩; have n1 := az (below_step HB.out hb); clear HB; have n0 := az (HA.out.more hb (rat2 hrc)); have HB := n1; clear n1; clear HA hrc hb; have HA := n0; clear n0))
  | ((with_reducible refine (when_calls 0 (.func 108) #[] _).mono ?_); go_must (rintro e w4 ⟨v3, rfl, hrc, hb⟩; have n1 := az (below_step HB.out hb); clear HB; have n0 := az (HA.out.more hb (rat3 hrc)); have HB := n1; clear n1; clear HA hrc hb; have HA := n0; clear n0))
  | ((with_reducible refine (when_calls 0 (.func 109) #[] _).mono ?_); go_must (rintro e w5 ⟨v4, rfl, hrc, hb⟩; have n1 := az (below_step HB.out hb); clear HB; have n0 := az (HA.out.more hb (rat4 hrc)); have HB := n1; clear n1; clear HA hrc hb; have HA := n0; clear n0))
  | ((with_reducible refine (when_calls 0 (.func 110) #[] _).mono ?_); go_must (rintro e w6 ⟨v5, rfl, hrc, hb⟩; have n1 := az (below_step HB.out hb); clear HB; have n0 := az (HA.out.more hb (rat5 hrc)); have HB := n1; clear n1; clear HA hrc hb; have HA := n0; clear n0))
  | ((with_reducible refine (when_calls 1 (.func 111) #[] _).mono ?_); go_must (rintro e w7 ⟨v6, rfl, hrc, hb⟩; have n1 := az (below_step HB.out hb); clear HB; have n0 := az (HA.out.more hb (rat6 hrc)); have HB := n1; clear n1; clear HA hrc hb; have HA := n0; clear n0))
  | ((with_reducible refine (when_calls 0 (.func 112) #[] _).mono ?_); go_must (rintro e w8 ⟨v7, rfl, hrc, hb⟩; have n1 := az (below_step HB.out hb); clear HB; have n0 := az (HA.out.more hb (rat7 hrc)); have HB := n1; clear n1; clear HA hrc hb; have HA := n0; clear n0))
  | ((with_reducible refine (when_calls 0 (.func 113) #[.pointer (some ⟨w.heap.size, 0, none⟩)] _).mono ?_); go_must (rintro e w9 ⟨v8, rfl, hrc, hb⟩; have n1 := az (below_step HB.out hb); clear HB; have n0 := az (HA.out.more hb (rat8 w.heap.size (Nat.lt_of_lt_of_le lt0 n1.out.size) ((n1.out.cell (p := ⟨w.heap.size, 0, none⟩) lt0).trans HD.out) hrc)); have HB := n1; clear n1; clear HA hrc hb; have HA := n0; clear n0))
  | ((with_reducible refine (when_calls 1 (.func 114) #[] _).mono ?_); go_must (rintro e w10 ⟨v9, rfl, hrc, hb⟩; have n1 := az (below_step HB.out hb); clear HB; have n0 := az (HA.out.more hb (rat9 hrc)); have HB := n1; clear n1; clear HA hrc hb; have HA := n0; clear n0)))
 go_ret
 exact ⟨_, rfl, rules_end HA.out, below_alloc (below_then HB0.out HB0.out.size HB.out) _⟩
def placeR (a b s : Int) : Nat → Nat → Int
 | 0, _ => 1
 | g + 1, i => if isV a b s i = true then ansV i else placeR a b s g (i + 1)
def placeV (a b s : Int) : Int := placeR a b s 10 0
def brX (k : Nat) (l0 cs : List Int) (js : List Bool) (i : Nat) (s : Int) : Option Int :=
 if i + 1 = l0.length then some 2 else if js.getD (i + 1) false = true then some 0 else (impl_RuneLine.f k (l0.getD (i + 1) 0)).bind fun t => (impl_afterSpace.f k (cs.getD i 0)).bind fun u => some (if t = 7 ∧ u = false then 0 else placeV (cs.getD i 0) (cs.getD (i + 1) 0) s)
def brL (k : Nat) (l0 cs : List Int) (js : List Bool) : Nat → Nat → Int → List Int → Option (List Int)
 | 0, _, _, out => some out
 | g + 1, i, s, out => (brX k l0 cs js i (if cs.getD i 0 = 3 then s else cs.getD i 0)).bind fun x => brL k l0 cs js g (i + 1) (if cs.getD i 0 = 3 then s else cs.getD i 0) (out ++ [x])
def impl_breaks.f (k : Nat) (l0 : List Int) : Option (List Int) := (impl_countsOf.f k l0).bind fun cs => (impl_joined.f k l0).bind fun js => if cs.length = l0.length ∧ js.length = l0.length ∧ l0.length ≤ 1000 then brL k l0 cs js l0.length 0 0 [] else none
theorem brX_mono (k : Nat) (l0 cs : List Int) (js : List Bool) (i : Nat) (s : Int) : LeO (brX k l0 cs js i s) (brX (k + 1) l0 cs js i s) := by
 unfold brX
 exact LeO.ite (LeO.refl _) (LeO.ite (LeO.refl _) (LeO.bind (impl_RuneLine.mono _ _) (fun t => LeO.bind (impl_afterSpace.mono _ _) (fun u => LeO.refl _))))
theorem brL_mono (k : Nat) (l0 cs : List Int) (js : List Bool) : ∀ (g i : Nat) (s : Int) (out : List Int), LeO (brL k l0 cs js g i s out) (brL (k + 1) l0 cs js g i s out)
 | 0, _, _, _ => LeO.refl _
 | g + 1, i, s, out => by
  simp only [brL]
  exact LeO.bind (brX_mono _ _ _ _ _ _) (fun x => brL_mono k l0 cs js g _ _ _)
theorem impl_breaks.mono : ∀ a0 k, LeO (impl_breaks.f k a0) (impl_breaks.f (k + 1) a0) := by
 intro a0 k
 unfold impl_breaks.f
 exact LeO.bind (impl_countsOf.mono _ _) (fun cs => LeO.bind (impl_joined.mono _ _) (fun js => LeO.ite (brL_mono _ _ _ _ _ _ _ _) (LeO.refl _)))
theorem below_of {w w' : World} (h : Below w.heap.size w w') : Below w.heap.size w w' := h
theorem place_at {a b s : Int} : ∀ (g q : Nat), isV a b s q = true → placeR a b s (g + 1) q = ansV q := fun g q h => by rw [placeR, if_pos h]
theorem place_on {a b s : Int} : ∀ (g q : Nat), isV a b s q = false → placeR a b s (g + 1) q = placeR a b s g (q + 1) := fun g q h => by rw [placeR, if_neg (by rw [h]; decide)]
theorem impl_breaks.calls (k : Nat) (A0 : Option Addr) (c0 : Nat) (l0 : List Int) (r : List Int) (w : World) (hr0 : Kd.C (Kd.int .i64) w A0 l0.length l0) (hc0 : l0.length ≤ c0) (h : impl_breaks.f k l0 = some r) :
  Calls Tryz.prog 49 #[.slice A0 l0.length c0] w fun e w' => ∃ v0_ : Value, e = .returned (v0_) ∧ Kd.R (Kd.int .i64) 3 w' w.heap.size (fun _ => True) v0_ r ∧ Below w.heap.size w w' := by
 have HR := az hr0
 have HC := az hc0
 clear hr0 hc0
 unfold impl_breaks.f at h
 replace h := Option.bind_eq_some_iff.mp h
 obtain ⟨cs, hcs, h⟩ := h
 replace h := Option.bind_eq_some_iff.mp h
 obtain ⟨js, hjs, h⟩ := h
 by_cases hl : cs.length = l0.length ∧ js.length = l0.length ∧ l0.length ≤ 1000
 case neg => rw [if_neg hl] at h; cases h
 case pos =>
 rw [if_pos hl] at h
 have HL := az hl
 have HCS := az hcs
 have HJS := az hjs
 have HF := az h
 clear hcs hjs h hl
 go_enter Tryz.func49, Tryz.ntmps49
 go_upto_region 4 with (first
  | (go_at_call 78; go_must (refine (impl_countsOf.calls k A0 c0 l0 cs _ HR.out HC.out HCS.out).mono ?_); rintro e w1 ⟨v1, rfl, ho1, hb1⟩; obtain ⟨A1, c1, e1⟩ := Kd.R_slice ho1; subst e1; have HO1 := az ho1; have HB1 := az hb1; clear ho1 hb1)
  | (go_at_call 79; go_must (refine (impl_joined.calls k A0 c0 l0 js _ (Kd.C_below HR.out HB1.out) HC.out HJS.out).mono ?_); rintro e w2 ⟨v2, rfl, ho2, hb2⟩; obtain ⟨A2, c2, e2⟩ := Kd.R_slice ho2; subst e2; have HO2 := az ho2; have HB2 := az (below_then HB1.out HB1.out.size hb2); have HC1 := az (Kd.C_below (Kd.R_reads' HO1.out).2.2 hb2); clear ho2 hb2)
  | (go_at_call 80; go_must (refine (rules_calls _).mono ?_); rintro e w3 ⟨g, rfl, hru, hb3⟩; have HRU := az hru; have HB3 := az (below_then HB2.out HB2.out.size hb3); have HCC := az (Kd.C_below HC1.out hb3); have HJJ := az (Kd.C_below (Kd.R_reads' HO2.out).2.2 hb3); clear hru hb3))
 have HR3 := az (Kd.C_below HR.out HB3.out)
 clear HO1 HO2 HB1 HB2 HC1
 go_wp2
 go_loopg [6, 7, 21] cs.length (fun gg s6 s7 s21 wr => ∃ (i : Nat) (s : Int) (out : List Int), s21 = .int .i64 i ∧ s7 = .int .i64 s ∧ i ≤ cs.length ∧ cs.length - i ≤ gg ∧ Aside0 (brL k l0 cs js (cs.length - i) i s out = some r) ∧ Aside0 (out.length = i) ∧ Aside0 (Kd.R (Kd.int .i64) 3 wr w3.heap.size (fun _ => True) s6 out) ∧ Aside0 (Below w3.heap.size w3 wr))
 case atStart => exact ⟨0, 0, [], rfl, rfl, Nat.zero_le _, by omega, ⟨by rw [Nat.sub_zero, HL.out.1]; exact HF.out⟩, ⟨rfl⟩, ⟨Kd.R_nil _ _ _ _ _⟩, ⟨Below.refl _ _⟩⟩
 case round =>
  clear HF
  obtain ⟨i, s, out, rfl, rfl, hi, hg, HF, HLO, HO, HB⟩ := hrel
  by_cases hlt : i < cs.length
  ·
   have hltz : (i : Int) < (cs.length : Int) := by omega
   have hn9 : cs.length ≤ 1000 := by have := HL.out; omega
   have hf := HF.out
   rw [show cs.length - i = (cs.length - (i + 1)) + 1 by omega, brL] at hf
   replace hf := Option.bind_eq_some_iff.mp hf
   obtain ⟨x, hx, hf⟩ := hf
   obtain ⟨a, ha⟩ : ∃ a, cs.getD i 0 = a := ⟨_, rfl⟩
   rw [ha] at hx hf
   obtain ⟨s2, hs2⟩ : ∃ s2, (if a = 3 then s else a) = s2 := ⟨_, rfl⟩
   rw [hs2] at hx hf
   have HX := az hx
   have HFF := az hf
   have HAA := az ha
   obtain ⟨ad, hA1, hxa⟩ := Kd.at_int (Kd.C_below HCC.out (below_of HB.out)) (i : Int) (by omega) hltz
   subst hA1
   simp only [rd, Int.toNat_natCast] at hxa
   rw [ha] at hxa
   clear hx hf HF ha
   go_upto_if 27 with fail
   have HS2 := az hs2
   clear hs2
   go_cut [7] from 22 to 83 (fun v7 wc => v7 = .int .i64 s2 ∧ wc = wr)
   case first =>
    by_cases h3 : a = 3
    ·
     have b3 : (a != 3) = false := bne_eq_false_iff_eq.mpr h3
     obtain rfl : s = s2 := by rw [← HS2.out, if_pos h3]
     go_wp2
     go_meet
     exact ⟨rfl, rfl⟩
    ·
     have b3 : (a != 3) = true := bne_iff_ne.mpr h3
     obtain rfl : a = s2 := by rw [← HS2.out, if_neg h3]
     go_wp2
     go_meet
     exact ⟨rfl, rfl⟩
   case rest =>
   obtain ⟨rfl, hwc⟩ := hcut
   subst hwc
   have hxx := HX.out
   unfold brX at hxx
   by_cases hlast : i + 1 = l0.length
   ·
    rw [if_pos hlast] at hxx
    have HXE := az (Option.some.inj hxx).symm
    clear hxx
    have hw1 : wrap64 ((l0.length : Int) - 1) = (i : Int) := by unfold wrap64; omega
    have hw2 : IntKind.i64.wrap ((l0.length : Int) - 1) = (i : Int) := by rw [i64_w]; exact hw1
    have hd : decide ((i : Int) = (i : Int)) = true := by simp
    clear hlast
    go_wp2_with (first | ((with_reducible refine gate_builtin (b := .append) (xs := #[.tmp 34, .tmp 35]) rfl ?_); at_builtin; go_must (refine appI (w0 := w3) (base := w3.heap.size) Tryz.underlying22 info3 rfl (.tmp 34) (.tmp 35) rfl _ out 2 rfl rfl HO.out HB.out HB.out.size ?aL ?_); (case aL => have := HLO.out; omega); intro v9 w9 ho9 hb9 hg9 hat9; have HO9 := az ho9; have HB9 := az hb9; clear ho9 hb9 hg9 hat9))
    go_roundg (cs.length - (i + 1))
    case measure => omega
    case rel => exact ⟨i + 1, s2, _, by go_num, rfl, by omega, Nat.le_refl _, ⟨HFF.out⟩, ⟨by rw [List.length_append, HLO.out]; rfl⟩, ⟨by have := HXE.out; rw [this]; exact HO9.out⟩, HB9⟩
   ·
    rw [if_neg hlast] at hxx
    have hw1 : wrap64 ((l0.length : Int) - 1) = (l0.length : Int) - 1 := by have := HL.out; unfold wrap64; omega
    have hw2 : IntKind.i64.wrap ((l0.length : Int) - 1) = (l0.length : Int) - 1 := by rw [i64_w]; exact hw1
    have hne : ((i : Int) == (l0.length : Int) - 1) = false := beq_eq_false_iff_ne.mpr (by omega)
    obtain ⟨m, hm⟩ : ∃ m : Nat, m = i + 1 := ⟨_, rfl⟩
    rw [← hm] at hxx
    have hw3 : wrap64 ((i : Int) + 1) = (m : Int) := by unfold wrap64; omega
    have hw4 : IntKind.i64.wrap ((i : Int) + 1) = (m : Int) := by rw [i64_w]; exact hw3
    have hi1 : (m : Int) < (js.length : Int) := by have := HL.out; omega
    have hi2 : (m : Int) < (l0.length : Int) := by have := HL.out; omega
    have hi3 : (m : Int) < (cs.length : Int) := by have := HL.out; omega
    have HM := az hm
    clear hm
    obtain ⟨ad2, hA2, hxj⟩ := Kd.at_bool (Kd.C_below HJJ.out HB.out) (m : Int) (by omega) hi1
    subst hA2
    obtain ⟨ad0, hA0, hxr⟩ := Kd.at_int (Kd.C_below HR3.out HB.out) (m : Int) (by omega) hi2
    subst hA0
    simp only [rd, rdOf, Int.toNat_natCast] at hxj hxr
    obtain ⟨j, hj⟩ : ∃ j, js.getD m false = j := ⟨_, rfl⟩
    obtain ⟨ru, hru⟩ : ∃ ru, l0.getD m 0 = ru := ⟨_, rfl⟩
    rw [hj] at hxj hxx
    rw [hru] at hxr hxx
    clear hj hru hlast
    cases j
    ·
     rw [if_neg (by decide)] at hxx
     replace hxx := Option.bind_eq_some_iff.mp hxx
     obtain ⟨tl, htl, hxx⟩ := hxx
     replace hxx := Option.bind_eq_some_iff.mp hxx
     obtain ⟨uu, huu, hxx⟩ := hxx
     rw [HAA.out] at huu hxx
     have HTL := az htl
     have HUU := az huu
     have HXE := az (Option.some.inj hxx).symm
     clear htl huu hxx
     obtain ⟨ad1, hA1, hxb⟩ := Kd.at_int (Kd.C_below HCC.out HB.out) (m : Int) (by omega) hi3
     simp only [rd, Int.toNat_natCast] at hxb
     obtain ⟨bb, hbb⟩ : ∃ bb, cs.getD m 0 = bb := ⟨_, rfl⟩
     rw [hbb] at hxb
     have HBB := az hbb
     obtain rfl : ad = ad1 := by injection hA1
     clear hA1 hbb
     have HXB := az hxb
     clear hxb
     have HXE2 := az (show x = (if tl = 7 ∧ uu = false then 0 else placeV a bb s2) by rw [HXE.out, HM.out, ← HBB.out, HM.out])
     clear HXE
     go_upto_region 11 with fail
     go_cut [55] from 22 to 83 (fun v55 wd => v55 = .bool (decide (tl = 7) && !uu) ∧ Aside0 (Below wc.heap.size wc wd))
     case first =>
      by_cases h7 : tl = 7
      ·
       have b7 : (tl == 7) = true := beq_iff_eq.mpr h7
       have d7 : decide (tl = 7) = true := decide_eq_true h7
       clear h7
       go_wp2_with (first
        | (go_at_call 81; go_must (refine (impl_RuneLine.calls k ru tl _ HTL.out).mono ?_); rintro e w4 ⟨rfl, hb4⟩; have HB4 := az hb4; clear hb4)
        | (go_at_call 82; go_must (refine (impl_afterSpace.calls k a uu _ HUU.out).mono ?_); rintro e w5 ⟨rfl, hb5⟩; have HB5 := az hb5; clear hb5))
       go_meet
       exact ⟨by rw [d7]; first | done | rfl, ⟨below_then HB4.out HB4.out.size HB5.out⟩⟩
      ·
       have b7 : (tl == 7) = false := beq_eq_false_iff_ne.mpr h7
       have d7 : decide (tl = 7) = false := decide_eq_false h7
       clear h7
       go_wp2_with (first
        | (go_at_call 81; go_must (refine (impl_RuneLine.calls k ru tl _ HTL.out).mono ?_); rintro e w4 ⟨rfl, hb4⟩; have HB4 := az hb4; clear hb4))
       go_meet
       exact ⟨by rw [d7]; first | done | rfl, HB4⟩
     case rest =>
     obtain ⟨rfl, HBD⟩ := hcut
     have HO2 := az (Kd.R_below HO.out HBD.out)
     have HB2 := az (below_then HB.out HB.out.size HBD.out)
     have HL9 := az hlt
     cases vd : (decide (tl = 7) && !uu)
     case true =>
      have HXE3 := az (show x = 0 by rw [HXE2.out, if_pos (by simpa using vd)])
      go_wp2_with (first | ((with_reducible refine gate_builtin (b := .append) (xs := #[.tmp 56, .tmp 57]) rfl ?_); at_builtin; go_must (refine appI (w0 := w3) (base := w3.heap.size) Tryz.underlying22 info3 rfl (.tmp 56) (.tmp 57) rfl _ out 0 rfl rfl HO2.out HB2.out HB2.out.size ?aL ?_); (case aL => have := HLO.out; omega); intro v9 w9 ho9 hb9 hg9 hat9; have HO9 := az ho9; have HB9 := az hb9; clear ho9 hb9 hg9 hat9))
      go_roundg (cs.length - (i + 1))
      case measure => omega
      case rel => exact ⟨m, s2, _, by first | rfl | go_num, rfl, zE HM.out, zE HM.out, ⟨by rw [HM.out]; exact HFF.out⟩, ⟨by rw [List.length_append, HLO.out, HM.out]; rfl⟩, ⟨by have := HXE3.out; rw [this]; exact HO9.out⟩, HB9⟩
     case false =>
     have HXE4 := az (show x = placeV a bb s2 by rw [HXE2.out, if_neg (by simpa using vd)])
     go_wp2
     go_loopg [6, 61] 10 (fun gq s6 s61 wq => ∃ q : Nat, s61 = .int .i64 q ∧ q < 10 ∧ 10 - q ≤ gq ∧ Aside0 (placeV a bb s2 = placeR a bb s2 (10 - q) q) ∧ Aside0 (Below wc.heap.size wc wq) ∧ Aside0 (Kd.R (Kd.int .i64) 3 wq w3.heap.size (fun _ => True) s6 out))
     case atStart => exact ⟨0, rfl, by decide, by decide, ⟨rfl⟩, ⟨Below.refl _ _⟩, HO2⟩
     case round =>
      obtain ⟨q, rfl, hq, hgq, HP, HBq, HOq⟩ := hrel
      obtain ⟨vr, hvr, hra⟩ := ((HRU.out.below HB2.out).below HBq.out).2 q hq
      obtain ⟨lb, rfl, hcall⟩ := rule_calls hra a bb s2
      have HCALL := az hcall
      have hqz : (q : Int) < 10 := by omega
      have hq0 : (0 : Int) ≤ (q : Int) := by omega
      have hxb := ((HBq.out.cell (World.block_lt_of_cell? _ _ ((HBD.out.cell (World.block_lt_of_cell? _ _ HXB.out)).trans HXB.out))).trans ((HBD.out.cell (World.block_lt_of_cell? _ _ HXB.out)).trans HXB.out))
      clear hra hcall
      have eg := eg_of 102 Tryz.func102 (by kernel_rfl) rfl
      have hu := Tryz.underlying96
      cases hv : isV a bb s2 q
      case true =>
       have HXE5 := az (show x = ansV q by rw [HXE4.out, HP.out, show 10 - q = (10 - (q + 1)) + 1 by omega, place_at _ _ hv])
       rw [hv] at HCALL
       go_wp2_with (first | (go_at_call 102; go_must (refine (HCALL.out).mono ?_); rintro e w6 ⟨rfl, hb6⟩; have HB6 := az (below_then HBq.out HBq.out.size hb6); have HO6 := az (Kd.R_below HOq.out hb6); have HB7 := az (below_then (below_then HB2.out HB2.out.size HBq.out) (below_then HB2.out HB2.out.size HBq.out).size hb6); clear hb6) | ((with_reducible refine gate_builtin (b := .append) (xs := #[.tmp 79, .tmp 81]) rfl ?_); at_builtin; go_must (refine appI (w0 := w3) (base := w3.heap.size) Tryz.underlying22 info3 rfl (.tmp 79) (.tmp 81) rfl _ out (ansV q) rfl rfl HO6.out HB7.out HB7.out.size ?aL ?_); (case aL => have := HLO.out; omega); intro v9 w9 ho9 hb9 hg9 hat9; have HO9 := az ho9; have HB9 := az hb9; clear ho9 hb9 hg9 hat9))
       go_roundg (cs.length - (i + 1))
       case measure => have := HL9.out; omega
       case rel => exact ⟨m, s2, _, by first | rfl | go_num, rfl, zE HM.out, zE HM.out, ⟨by rw [HM.out]; exact HFF.out⟩, ⟨by rw [List.length_append, HLO.out, HM.out]; rfl⟩, ⟨by have := HXE5.out; rw [this]; exact HO9.out⟩, HB9⟩
      case false =>
       have HP2 := az (show placeV a bb s2 = placeR a bb s2 (10 - (q + 1)) (q + 1) by rw [HP.out, show 10 - q = (10 - (q + 1)) + 1 by omega, place_on _ _ hv])
       have hq9 : q ≠ 9 := by rintro rfl; exact absurd hv (show ¬ (true = false) by decide)
       rw [hv] at HCALL
       go_wp2_with (first | (go_at_call 102; go_must (refine (HCALL.out).mono ?_); rintro e w6 ⟨rfl, hb6⟩; have HB6 := az (below_then HBq.out HBq.out.size hb6); have HO6 := az (Kd.R_below HOq.out hb6); have HB7 := az (below_then (below_then HB2.out HB2.out.size HBq.out) (below_then HB2.out HB2.out.size HBq.out).size hb6); clear hb6))
       go_roundg (10 - (q + 1))
       case measure => omega
       case rel => exact ⟨q + 1, by go_num, by omega, by omega, HP2, HB6, HO6⟩
    ·
     rw [if_pos rfl] at hxx
     have HXE := az (Option.some.inj hxx).symm
     clear hxx
     go_wp2_with (first | ((with_reducible refine gate_builtin (b := .append) (xs := #[.tmp 56, .tmp 57]) rfl ?_); at_builtin; go_must (refine appI (w0 := w3) (base := w3.heap.size) Tryz.underlying22 info3 rfl (.tmp 56) (.tmp 57) rfl _ out 0 rfl rfl HO.out HB.out HB.out.size ?aL ?_); (case aL => have := HLO.out; omega); intro v9 w9 ho9 hb9 hg9 hat9; have HO9 := az ho9; have HB9 := az hb9; clear ho9 hb9 hg9 hat9))
     go_roundg (cs.length - (i + 1))
     case measure => omega
     case rel => exact ⟨m, s2, _, by first | rfl | go_num, rfl, zE HM.out, zE HM.out, ⟨by rw [HM.out]; exact HFF.out⟩, ⟨by rw [List.length_append, HLO.out, HM.out]; rfl⟩, ⟨by have := HXE.out; rw [this]; exact HO9.out⟩, HB9⟩
  ·
   have hltz : ¬ (i : Int) < (cs.length : Int) := by omega
   obtain rfl : i = cs.length := by omega
   have hf := HF.out
   rw [Nat.sub_self, brL] at hf
   obtain rfl := Option.some.inj hf
   clear hf HF
   go_wp2
   go_ret
   exact ⟨_, rfl, Kd.R_lower HO.out HB3.out.size, below_then HB3.out HB3.out.size HB.out⟩
def impl_BreaksOf.f (k : Nat) (l0 : List Int) : Option (List Int) := (impl_lettersOk.f l0).bind fun t429 => (if t429 = true then ((impl_breaks.f k l0).bind fun t430 => (some t430)) else (some ([] : List Int)))
theorem impl_BreaksOf.mono : ∀ a0 k, LeO (impl_BreaksOf.f k a0) (impl_BreaksOf.f (k + 1) a0) := by
 intro a0 k; unfold impl_BreaksOf.f
 repeat' first
   | (with_reducible exact impl_breaks.mono _ _)
   | (with_reducible exact LeO.refl _)
   | (with_reducible exact LeO.none _)
   | (with_reducible refine LeO.ite ?_ ?_)
   | (with_reducible refine LeO.bind ?_ (fun _ => ?_))
   | exact impl_breaks.mono _ _
   | exact LeO.none _
   | refine LeO.ite ?_ ?_
   | refine LeO.bind ?_ (fun _ => ?_)
theorem impl_BreaksOf.calls (k : Nat) (A0 : Option Addr) (c0 : Nat) (l0 : List Int) (r : List Int) (w : World) (hr0 : Kd.C (Kd.int .i64) w A0 l0.length l0) (hc0 : l0.length ≤ c0) (h : impl_BreaksOf.f k l0 = some r) :
  Calls Tryz.prog 23 #[.slice A0 l0.length c0] w fun e w' => ∃ v0_ : Value, e = .returned (v0_) ∧ Kd.R (Kd.int .i64) 3 w' w.heap.size (fun _ => True) v0_ r ∧ Below w.heap.size w w' := by
 have HR0 := az hr0; have HC0 := az hc0; clear hr0 hc0; have HB := az (Below.refl w.heap.size w); have H : ((impl_lettersOk.f l0).bind fun t429 => (if t429 = true then ((impl_breaks.f k l0).bind fun t430 => (some t430)) else (some ([] : List Int)))) = some r := h; clear h; replace H := Option.bind_eq_some_iff.mp H; obtain ⟨t429, A20, H⟩ := H; replace H : (if t429 = true then ((impl_breaks.f k l0).bind fun t430 => (some t430)) else (some ([] : List Int))) = some r := H; have A2 := az A20; clear A20; by_cases c3 : t429 = true
 ·
  subst c3; have H1 : ((impl_breaks.f k l0).bind fun t430 => (some t430)) = some r := by rw [if_pos rfl] at H; exact H
  clear H; have H := H1; clear H1; replace H := Option.bind_eq_some_iff.mp H; obtain ⟨t430, A40, H⟩ := H; replace H : (some t430) = some r := H; have A4 := az A40; clear A40; obtain rfl := Option.some.inj H; go_enter Tryz.func23, Tryz.ntmps23; go_wp2_with (first | ((with_reducible refine gate_callee (f := 48) rfl ?_); refine goesL_ (some 4) rfl rfl Tryz.func48 (by kernel_rfl) rfl #[.slice A0 l0.length c0] rfl zC ?_; (with_reducible refine (impl_lettersOk.calls _ _ l0 true _ ?side1 ?side2 A2.out).mono ?_); (case side1 => exact (zN HR0.out)); (case side2 => exact HC0.out); rintro e w5 ⟨rfl, hb⟩; refine ⟨_, rfl, ?_⟩; have n0_ := az (below_step (zA HB.out) hb); clear HB; have HB := n0_; clear n0_; (try clear hb); (try clear hb2); (try clear hk); (try clear hi)) | ((with_reducible refine gate_callee (f := 49) rfl ?_); refine goesL_ (some 7) rfl rfl Tryz.func49 (by kernel_rfl) rfl #[.slice A0 l0.length c0] rfl zC ?_; (with_reducible refine (impl_breaks.calls k _ _ l0 t430 _ ?side1 ?side2 A4.out).mono ?_); (case side1 => exact (zM HR0.out HB.out)); (case side2 => exact HC0.out); rintro e w6 ⟨v431, rfl, ho0, hb⟩; refine ⟨_, rfl, ?_⟩; have n0_ := az (Kd.R_lower ho0 (below_size (zA HB.out))); have n1_ := az (below_step (zA HB.out) hb); clear HB; have HO432 := n0_; have HB := n1_; clear n0_ n1_; (try clear hb); (try clear hb2); (try clear hk); (try clear hi); (try clear ho0))); go_ret; exact ⟨_, zG, zF HO432.out, zA HB.out⟩
 ·
  replace c3 := Bool.eq_false_iff.mpr c3; subst c3; have H1 : (some ([] : List Int)) = some r := by rw [if_neg (show ¬ (false = true) by decide)] at H; exact H
  clear H; have H := H1; clear H1; obtain rfl := Option.some.inj H; go_enter Tryz.func23, Tryz.ntmps23; go_wp2_with (first | ((with_reducible refine gate_callee (f := 48) rfl ?_); refine goesL_ (some 4) rfl rfl Tryz.func48 (by kernel_rfl) rfl #[.slice A0 l0.length c0] rfl zC ?_; (with_reducible refine (impl_lettersOk.calls _ _ l0 false _ ?side1 ?side2 A2.out).mono ?_); (case side1 => exact (zN HR0.out)); (case side2 => exact HC0.out); rintro e w7 ⟨rfl, hb⟩; refine ⟨_, rfl, ?_⟩; have n0_ := az (below_step (zA HB.out) hb); clear HB; have HB := n0_; clear n0_; (try clear hb); (try clear hb2); (try clear hk); (try clear hi))); go_ret; exact ⟨_, zG, zU, zA HB.out⟩
def FlO (t : Nat) (gb : Nat) (A0 : Option Addr) (c0 : Nat) (rs : List Int) (A1 : Option Addr) (c1 : Nat) (ws : List Int) (A2 : Option Addr) (c2 : Nat) (bs : List Int) (wide : Int) (W : World) : Prop :=
 W.heap[gb]? = some (.cells #[.slice A0 rs.length c0, .slice A1 ws.length c1, .slice A2 bs.length c2, .int .i64 wide] t (0, 0)) ∧ Kd.C (Kd.int .i64) W A0 rs.length rs ∧ rs.length ≤ c0 ∧ Kd.C (Kd.int .i64) W A1 ws.length ws ∧ ws.length ≤ c1 ∧ Kd.C (Kd.int .i64) W A2 bs.length bs ∧ bs.length ≤ c2
theorem FlO.below {t gb : Nat} {A0 : Option Addr} {c0 : Nat} {rs : List Int} {A1 : Option Addr} {c1 : Nat} {ws : List Int} {A2 : Option Addr} {c2 : Nat} {bs : List Int} {wide : Int} {W W' : World} (h : FlO t gb A0 c0 rs A1 c1 ws A2 c2 bs wide W) (hb : Below W.heap.size W W') : FlO t gb A0 c0 rs A1 c1 ws A2 c2 bs wide W' :=
 ⟨blk_below h.1 hb, Kd.C_below h.2.1 hb, h.2.2.1, Kd.C_below h.2.2.2.1 hb, h.2.2.2.2.1, Kd.C_below h.2.2.2.2.2.1 hb, h.2.2.2.2.2.2⟩
abbrev FlI (t : Nat) (gb : Nat) (A0 : Option Addr) (c0 : Nat) (rs : List Int) (A1 : Option Addr) (c1 : Nat) (ws : List Int) (A2 : Option Addr) (c2 : Nat) (bs : List Int) (wide : Int) (w0 W : World) : Prop :=
 W.cell? ⟨gb, 0, none⟩ = some (.slice A0 rs.length c0) ∧ W.cell? ⟨gb, 1, none⟩ = some (.slice A1 ws.length c1) ∧ W.cell? ⟨gb, 2, none⟩ = some (.slice A2 bs.length c2) ∧ W.cell? ⟨gb, 3, none⟩ = some (.int .i64 wide) ∧ Aside0 (FlO t gb A0 c0 rs A1 c1 ws A2 c2 bs wide W ∧ Below w0.heap.size w0 W)
theorem FlI.of {t gb : Nat} {A0 : Option Addr} {c0 : Nat} {rs : List Int} {A1 : Option Addr} {c1 : Nat} {ws : List Int} {A2 : Option Addr} {c2 : Nat} {bs : List Int} {wide : Int} {w0 W : World} (h : FlO t gb A0 c0 rs A1 c1 ws A2 c2 bs wide W) (hb : Below w0.heap.size w0 W) : FlI t gb A0 c0 rs A1 c1 ws A2 c2 bs wide w0 W :=
 ⟨(blk_cell h.1 0).trans rfl, (blk_cell h.1 1).trans rfl, (blk_cell h.1 2).trans rfl, (blk_cell h.1 3).trans rfl, ⟨h, hb⟩⟩
theorem FlI.below {t gb : Nat} {A0 : Option Addr} {c0 : Nat} {rs : List Int} {A1 : Option Addr} {c1 : Nat} {ws : List Int} {A2 : Option Addr} {c2 : Nat} {bs : List Int} {wide : Int} {w0 W W' : World} (h : FlI t gb A0 c0 rs A1 c1 ws A2 c2 bs wide w0 W) (hb : Below W.heap.size W W') : FlI t gb A0 c0 rs A1 c1 ws A2 c2 bs wide w0 W' :=
 FlI.of (h.2.2.2.2.out.1.below hb) (below_then h.2.2.2.2.out.2 h.2.2.2.2.out.2.size hb)
theorem FlI.drew {t gb : Nat} {A0 : Option Addr} {c0 : Nat} {rs : List Int} {A1 : Option Addr} {c1 : Nat} {ws : List Int} {A2 : Option Addr} {c2 : Nat} {bs : List Int} {wide : Int} {w0 W : World} (h : FlI t gb A0 c0 rs A1 c1 ws A2 c2 bs wide w0 W) : FlI t gb A0 c0 rs A1 c1 ws A2 c2 bs wide w0 W.drew := h.below (below_drew (Below.refl _ _))
def mustN (bs : List Int) (n : Nat) : Nat → Nat → Nat
 | 0, _ => n
 | g + 1, i => if bs.getD i 0 = 2 then i + 1 else mustN bs n g (i + 1)
theorem mustN_le (bs : List Int) (n : Nat) : ∀ (g i : Nat), i + g ≤ n → mustN bs n g i ≤ n
 | 0, _, _ => Nat.le_refl _
 | g + 1, i, h => by
  rw [mustN]
  split
  · omega
  · exact mustN_le bs n g (i + 1) (by omega)
def mustV (bs : List Int) (n : Nat) (i : Nat) : Nat := mustN bs n (bs.length - i) i
def FlK (t : Nat) (gb : Nat) (A0 : Option Addr) (c0 : Nat) (rs : List Int) (A1 : Option Addr) (c1 : Nat) (ws : List Int) (A2 : Option Addr) (c2 : Nat) (bs : List Int) (wide : Int) (p : Addr) (e : Int) (q : Addr) (y : Int) (w0 W : World) : Prop := FlO t gb A0 c0 rs A1 c1 ws A2 c2 bs wide W ∧ Below w0.heap.size w0 W ∧ w0.cell? p = some (.int .i64 e) ∧ w0.cell? q = some (.int .i64 y)
abbrev FlJ (t : Nat) (gb : Nat) (A0 : Option Addr) (c0 : Nat) (rs : List Int) (A1 : Option Addr) (c1 : Nat) (ws : List Int) (A2 : Option Addr) (c2 : Nat) (bs : List Int) (wide : Int) (p : Addr) (e : Int) (q : Addr) (y : Int) (w0 W : World) : Prop :=
 W.cell? ⟨gb, 0, none⟩ = some (.slice A0 rs.length c0) ∧ W.cell? ⟨gb, 1, none⟩ = some (.slice A1 ws.length c1) ∧ W.cell? ⟨gb, 2, none⟩ = some (.slice A2 bs.length c2) ∧ W.cell? ⟨gb, 3, none⟩ = some (.int .i64 wide) ∧ W.cell? p = some (.int .i64 e) ∧ W.cell? q = some (.int .i64 y) ∧ Aside0 (FlK t gb A0 c0 rs A1 c1 ws A2 c2 bs wide p e q y w0 W)
theorem FlJ.of {t gb : Nat} {A0 : Option Addr} {c0 : Nat} {rs : List Int} {A1 : Option Addr} {c1 : Nat} {ws : List Int} {A2 : Option Addr} {c2 : Nat} {bs : List Int} {wide : Int} {p : Addr} {e : Int} {q : Addr} {y : Int} {w0 W : World} (h : FlK t gb A0 c0 rs A1 c1 ws A2 c2 bs wide p e q y w0 W) : FlJ t gb A0 c0 rs A1 c1 ws A2 c2 bs wide p e q y w0 W :=
 ⟨(blk_cell h.1.1 0).trans rfl, (blk_cell h.1.1 1).trans rfl, (blk_cell h.1.1 2).trans rfl, (blk_cell h.1.1 3).trans rfl, (h.2.1.cell (World.block_lt_of_cell? _ _ h.2.2.1)).trans h.2.2.1, (h.2.1.cell (World.block_lt_of_cell? _ _ h.2.2.2)).trans h.2.2.2, ⟨h⟩⟩
theorem FlJ.below {t gb : Nat} {A0 : Option Addr} {c0 : Nat} {rs : List Int} {A1 : Option Addr} {c1 : Nat} {ws : List Int} {A2 : Option Addr} {c2 : Nat} {bs : List Int} {wide : Int} {p : Addr} {e : Int} {q : Addr} {y : Int} {w0 W W' : World} (h : FlJ t gb A0 c0 rs A1 c1 ws A2 c2 bs wide p e q y w0 W) (hb : Below W.heap.size W W') : FlJ t gb A0 c0 rs A1 c1 ws A2 c2 bs wide p e q y w0 W' :=
 FlJ.of ⟨h.2.2.2.2.2.2.out.1.below hb, below_then h.2.2.2.2.2.2.out.2.1 h.2.2.2.2.2.2.out.2.1.size hb, h.2.2.2.2.2.2.out.2.2⟩
theorem FlJ.drew {t gb : Nat} {A0 : Option Addr} {c0 : Nat} {rs : List Int} {A1 : Option Addr} {c1 : Nat} {ws : List Int} {A2 : Option Addr} {c2 : Nat} {bs : List Int} {wide : Int} {p : Addr} {e : Int} {q : Addr} {y : Int} {w0 W : World} (h : FlJ t gb A0 c0 rs A1 c1 ws A2 c2 bs wide p e q y w0 W) : FlJ t gb A0 c0 rs A1 c1 ws A2 c2 bs wide p e q y w0 W.drew := h.below (below_drew (Below.refl _ _))
def impl_isWide.f (a0 : Int) : Option (Bool) := if a0 ≥ 0 then (some (decide (a0 ≤ 20000))) else (some false)
theorem impl_isWide.calls (a0 : Int) (r : Bool) (w : World) (h : impl_isWide.f a0 = some r) :
  Calls Tryz.prog 58 #[.int .i64 a0] w fun e w' => e = .returned (.bool r) ∧ Drawn0 w w' := by
 have H : (if a0 ≥ 0 then (some (decide (a0 ≤ 20000))) else (some false)) = some r := h
 clear h
 by_cases c2 : a0 ≥ 0
 ·
  rw [if_pos c2] at H
  have c2b0 : decide (0 ≤ a0) = true := decide_eq_true c2
  clear c2
  obtain rfl := Option.some.inj H
  go_enter Tryz.func58, Tryz.ntmps58
  go_wp2
  go_ret
  exact ⟨zB, zD⟩
 ·
  rw [if_neg c2] at H
  have c2b0 : decide (0 ≤ a0) = false := decide_eq_false c2
  clear c2
  obtain rfl := Option.some.inj H
  go_enter Tryz.func58, Tryz.ntmps58
  go_wp2
  go_ret
  exact ⟨zB, zD⟩
def impl_fillable.f (k : Nat) (l0 : List Int) (l1 : List (S50)) (a2 : Int) : Option (Bool) := (impl_lettersOk.f l0).bind fun t265 => (if t265 = true then ((impl_SpansOk.f k l1 (l0.length : Int)).bind fun t266 => (if t266 = true then ((impl_isWide.f a2).bind fun t267 => (some t267)) else (some false))) else (some false))
theorem impl_fillable.mono : ∀ a0 a1 a2 k, LeO (impl_fillable.f k a0 a1 a2) (impl_fillable.f (k + 1) a0 a1 a2) := by
 intro a0 a1 a2 k; unfold impl_fillable.f
 repeat' first
   | (with_reducible exact impl_SpansOk.mono _ _ _)
   | (with_reducible exact LeO.refl _)
   | (with_reducible exact LeO.none _)
   | (with_reducible refine LeO.ite ?_ ?_)
   | (with_reducible refine LeO.bind ?_ (fun _ => ?_))
   | exact impl_SpansOk.mono _ _ _
   | exact LeO.none _
   | refine LeO.ite ?_ ?_
   | refine LeO.bind ?_ (fun _ => ?_)
theorem impl_fillable.calls (k : Nat) (A0 : Option Addr) (c0 : Nat) (l0 : List Int) (A1 : Option Addr) (c1 : Nat) (l1 : List (S50)) (a2 : Int) (r : Bool) (w : World) (hr0 : Kd.C (Kd.int .i64) w A0 l0.length l0) (hc0 : l0.length ≤ c0) (hr1 : Kd.C k50 w A1 l1.length l1) (hc1 : l1.length ≤ c1) (h : impl_fillable.f k l0 l1 a2 = some r) :
  Calls Tryz.prog 39 #[.slice A0 l0.length c0, .slice A1 l1.length c1, .int .i64 a2] w fun e w' => e = .returned (.bool r) ∧ Below w.heap.size w w' := by
 have HR0 := az hr0; have HC0 := az hc0; clear hr0 hc0; have HR1 := az hr1; have HC1 := az hc1; clear hr1 hc1; have HB := az (Below.refl w.heap.size w); have H : ((impl_lettersOk.f l0).bind fun t265 => (if t265 = true then ((impl_SpansOk.f k l1 (l0.length : Int)).bind fun t266 => (if t266 = true then ((impl_isWide.f a2).bind fun t267 => (some t267)) else (some false))) else (some false))) = some r := h; clear h; replace H := Option.bind_eq_some_iff.mp H; obtain ⟨t265, A40, H⟩ := H; replace H : (if t265 = true then ((impl_SpansOk.f k l1 (l0.length : Int)).bind fun t266 => (if t266 = true then ((impl_isWide.f a2).bind fun t267 => (some t267)) else (some false))) else (some false)) = some r := H; have A4 := az A40; clear A40; by_cases c5 : t265 = true
 ·
  subst c5; have H1 : ((impl_SpansOk.f k l1 (l0.length : Int)).bind fun t266 => (if t266 = true then ((impl_isWide.f a2).bind fun t267 => (some t267)) else (some false))) = some r := by rw [if_pos rfl] at H; exact H
  clear H; have H := H1; clear H1; replace H := Option.bind_eq_some_iff.mp H; obtain ⟨t266, A60, H⟩ := H; replace H : (if t266 = true then ((impl_isWide.f a2).bind fun t267 => (some t267)) else (some false)) = some r := H; have A6 := az A60; clear A60; by_cases c7 : t266 = true
  ·
   subst c7; have H1 : ((impl_isWide.f a2).bind fun t267 => (some t267)) = some r := by rw [if_pos rfl] at H; exact H
   clear H; have H := H1; clear H1; replace H := Option.bind_eq_some_iff.mp H; obtain ⟨t267, A80, H⟩ := H; replace H : (some t267) = some r := H; have A8 := az A80; clear A80; obtain rfl := Option.some.inj H; go_enter Tryz.func39, Tryz.ntmps39; go_wp2_with (first | ((with_reducible refine gate_callee (f := 48) rfl ?_); refine goesL_ (some 8) rfl rfl Tryz.func48 (by kernel_rfl) rfl #[.slice A0 l0.length c0] rfl zC ?_; (with_reducible refine (impl_lettersOk.calls _ _ l0 true _ ?side1 ?side2 A4.out).mono ?_); (case side1 => exact (zN HR0.out)); (case side2 => exact HC0.out); rintro e w9 ⟨rfl, hb⟩; refine ⟨_, rfl, ?_⟩; have n0_ := az (below_step (zA HB.out) hb); clear HB; have HB := n0_; clear n0_; (try clear hb); (try clear hb2); (try clear hk); (try clear hi)) | (go_at_call 54; (with_reducible refine (impl_SpansOk.calls k _ _ l1 (l0.length : Int) true _ ?side1 ?side2 A6.out).mono ?_); (case side1 => exact (zM HR1.out HB.out)); (case side2 => exact HC1.out); rintro e w10 ⟨rfl, hb⟩; have n0_ := az (below_step (zA HB.out) hb); clear HB; have HB := n0_; clear n0_; (try clear hb); (try clear hb2); (try clear hk); (try clear hi)) | (go_at_call 58; (with_reducible refine (impl_isWide.calls a2 t267 _ A8.out).mono ?_); rintro e w' ⟨rfl, ⟨nd, rfl⟩⟩)); go_ret; exact ⟨zG, zA HB.out⟩
  ·
   replace c7 := Bool.eq_false_iff.mpr c7; subst c7; have H1 : (some false) = some r := by rw [if_neg (show ¬ (false = true) by decide)] at H; exact H
   clear H; have H := H1; clear H1; obtain rfl := Option.some.inj H; go_enter Tryz.func39, Tryz.ntmps39; go_wp2_with (first | ((with_reducible refine gate_callee (f := 48) rfl ?_); refine goesL_ (some 8) rfl rfl Tryz.func48 (by kernel_rfl) rfl #[.slice A0 l0.length c0] rfl zC ?_; (with_reducible refine (impl_lettersOk.calls _ _ l0 true _ ?side1 ?side2 A4.out).mono ?_); (case side1 => exact (zN HR0.out)); (case side2 => exact HC0.out); rintro e w11 ⟨rfl, hb⟩; refine ⟨_, rfl, ?_⟩; have n0_ := az (below_step (zA HB.out) hb); clear HB; have HB := n0_; clear n0_; (try clear hb); (try clear hb2); (try clear hk); (try clear hi)) | (go_at_call 54; (with_reducible refine (impl_SpansOk.calls k _ _ l1 (l0.length : Int) false _ ?side1 ?side2 A6.out).mono ?_); (case side1 => exact (zM HR1.out HB.out)); (case side2 => exact HC1.out); rintro e w12 ⟨rfl, hb⟩; have n0_ := az (below_step (zA HB.out) hb); clear HB; have HB := n0_; clear n0_; (try clear hb); (try clear hb2); (try clear hk); (try clear hi))); go_ret; exact ⟨zG, zA HB.out⟩
 ·
  replace c5 := Bool.eq_false_iff.mpr c5; subst c5; have H1 : (some false) = some r := by rw [if_neg (show ¬ (false = true) by decide)] at H; exact H
  clear H; have H := H1; clear H1; obtain rfl := Option.some.inj H; go_enter Tryz.func39, Tryz.ntmps39; go_wp2_with (first | ((with_reducible refine gate_callee (f := 48) rfl ?_); refine goesL_ (some 8) rfl rfl Tryz.func48 (by kernel_rfl) rfl #[.slice A0 l0.length c0] rfl zC ?_; (with_reducible refine (impl_lettersOk.calls _ _ l0 false _ ?side1 ?side2 A4.out).mono ?_); (case side1 => exact (zN HR0.out)); (case side2 => exact HC0.out); rintro e w13 ⟨rfl, hb⟩; refine ⟨_, rfl, ?_⟩; have n0_ := az (below_step (zA HB.out) hb); clear HB; have HB := n0_; clear n0_; (try clear hb); (try clear hb2); (try clear hk); (try clear hi))); go_ret; exact ⟨zG, zA HB.out⟩
def impl_body.l0 : Nat → List Int → Int → Int → Option (Int)
 | 0, _, _, _ => none
 | k + 1, x0, x1, x2 => if x2 > x1 then (if 0 ≤ (wrap64 (x2 - 1)) then (if (wrap64 (x2 - 1)) < (x0.length : Int) then (if (rd x0 (wrap64 (x2 - 1))) = 32 then (impl_body.l0 k x0 x1 (wrap64 (x2 - 1))) else (if (rd x0 (wrap64 (x2 - 1))) = 10 then (impl_body.l0 k x0 x1 (wrap64 (x2 - 1))) else ((impl_RuneWide.f k (rd x0 (wrap64 (x2 - 1)))).bind fun t356 => (if t356 = 0 then (impl_body.l0 k x0 x1 (wrap64 (x2 - 1))) else (some x2))))) else (none)) else (none)) else (some x2)
def impl_body.f (k : Nat) (l0 : List Int) (a1 : Int) (a2 : Int) : Option (Int) := impl_body.l0 k l0 a1 a2
theorem impl_body.mono_l : ∀ k, (∀ y0 y1 y2, LeO (impl_body.l0 k y0 y1 y2) (impl_body.l0 (k + 1) y0 y1 y2))
 | 0 => fun _ _ _ r h => by simp [impl_body.l0] at h
 | k + 1 => by
  have ih0 := impl_body.mono_l k
  ·
   intro y0 y1 y2; unfold impl_body.l0
   repeat' first
   | (with_reducible exact ih0 _ _ _)
   | (with_reducible exact impl_RuneWide.mono _ _)
   | (with_reducible exact LeO.refl _)
   | (with_reducible exact LeO.none _)
   | (with_reducible refine LeO.ite ?_ ?_)
   | (with_reducible refine LeO.bind ?_ (fun _ => ?_))
   | exact ih0 _ _ _
   | exact impl_RuneWide.mono _ _
   | exact LeO.none _
   | refine LeO.ite ?_ ?_
   | refine LeO.bind ?_ (fun _ => ?_)
theorem impl_body.mono : ∀ a0 a1 a2 k, LeO (impl_body.f k a0 a1 a2) (impl_body.f (k + 1) a0 a1 a2) := by
 intro a0 a1 a2 k; have ih0 := impl_body.mono_l k; unfold impl_body.f
 repeat' first
   | (with_reducible exact ih0 _ _ _)
   | (with_reducible exact impl_RuneWide.mono _ _)
   | (with_reducible exact LeO.refl _)
   | (with_reducible exact LeO.none _)
   | (with_reducible refine LeO.ite ?_ ?_)
   | (with_reducible refine LeO.bind ?_ (fun _ => ?_))
   | exact ih0 _ _ _
   | exact impl_RuneWide.mono _ _
   | exact LeO.none _
   | refine LeO.ite ?_ ?_
   | refine LeO.bind ?_ (fun _ => ?_)
theorem impl_body.calls (k : Nat) (A0 : Option Addr) (c0 : Nat) (l0 : List Int) (a1 : Int) (a2 : Int) (r : Int) (w : World) (hr0 : Kd.C (Kd.int .i64) w A0 l0.length l0) (hc0 : l0.length ≤ c0) (h : impl_body.f k l0 a1 a2 = some r) :
  Calls Tryz.prog 89 #[.slice A0 l0.length c0, .int .i64 a1, .int .i64 a2] w fun e w' => e = .returned (.int .i64 r) ∧ Below w.heap.size w w' := by
 have HR0 := az hr0; have HC0 := az hc0; clear hr0 hc0; have HB := az (Below.refl w.heap.size w); have H : (impl_body.l0 k l0 a1 a2) = some r := h; clear h; have H' := az H; clear H; go_enter Tryz.func89, Tryz.ntmps89; go_wp2; go_loopg [2] k (fun kq v2 w' => ∃ (x2_1 : Int), v2 = .int .i64 x2_1 ∧ Aside0 (impl_body.l0 kq l0 a1 x2_1 = some r) ∧ Aside0 (kq ≤ k) ∧ Aside0 (Below w.heap.size w w'))
 case atStart => exact ⟨(a2), zB, H', ⟨Nat.le_refl _⟩, ⟨zA HB.out⟩⟩
 case round =>
  clear H'; (try clear p2); obtain ⟨x2_1, rfl, HA, HK1, HB⟩ := hrel
  cases gk with
  | zero => exact absurd HA.out (by simp [impl_body.l0])
  | succ k1 =>
   have H := HA.out; clear HA; simp only [impl_body.l0] at H; by_cases c4 : x2_1 > a1
   ·
    rw [if_pos c4] at H; have c4b0 : decide (a1 < x2_1) = true := decide_eq_true c4; clear c4; obtain ⟨ji5, hji5⟩ : ∃ j_ : Int, (wrap64 (x2_1 - 1)) = j_ := ⟨_, rfl⟩; replace H : (if 0 ≤ (ji5) then (if (ji5) < (l0.length : Int) then (if (rd l0 (ji5)) = 32 then (impl_body.l0 k1 l0 a1 ji5) else (if (rd l0 (ji5)) = 10 then (impl_body.l0 k1 l0 a1 ji5) else ((impl_RuneWide.f k1 (rd l0 (ji5))).bind fun t356 => (if t356 = 0 then (impl_body.l0 k1 l0 a1 ji5) else (some x2_1))))) else (none)) else (none)) = some r := by first | (rw [hji5] at H; exact H) | (simp only [hji5] at H ⊢; exact H)
    have hji5w : (IntKind.i64.wrap (x2_1 - 1)) = ji5 := (i64_w _).trans hji5; by_cases c6 : 0 ≤ (ji5)
    ·
     rw [if_pos c6] at H; have c6b0 : decide (0 ≤ (ji5)) = true := decide_eq_true c6; clear c6; by_cases c7 : (ji5) < (l0.length : Int)
     ·
      rw [if_pos c7] at H; have c7b0 : decide ((ji5) < (l0.length : Int)) = true := decide_eq_true c7; clear c7; by_cases c8 : (rd l0 (ji5)) = 32
      ·
       rw [if_pos c8] at H; have c8b0 : ((rd l0 (ji5)) == 32) = true := beq_iff_eq.mpr c8; have c8b1 : ((rd l0 (ji5)) != 32) = false := bne_eq_false_iff_eq.mpr c8; clear c8; have H' := az H; clear H; have p353 : 0 ≤ ((ji5) : Int) := of_decide_eq_true (by assumption); have q353 : (ji5) < (l0.length : Int) := of_decide_eq_true (by assumption); obtain ⟨ad353, e353, hx353_0⟩ := Kd.at_int HR0.out (ji5) p353 q353
       cases e353
       replace hx353_0 := (HB.out.cell (World.block_lt_of_cell? w _ hx353_0)).trans hx353_0; replace p353 := eq_true p353; replace q353 := eq_true q353; go_wp2; go_roundg k1
       case measure => have := HK1.out; omega
       case rel => exact ⟨(ji5), (by first | rfl | (simp; done) | (simp only [← hji5] <;> (first | rfl | simp)) | (simp [*]; done)), H', ⟨zE HK1.out⟩, ⟨zA HB.out⟩⟩
      ·
       rw [if_neg c8] at H; have c8b0 : ((rd l0 (ji5)) == 32) = false := beq_eq_false_iff_ne.mpr c8; have c8b1 : ((rd l0 (ji5)) != 32) = true := bne_iff_ne.mpr c8; by_cases c9 : (rd l0 (ji5)) = 10
       ·
        rw [if_pos c9] at H; have c9b0 : ((rd l0 (ji5)) == 10) = true := beq_iff_eq.mpr c9; have c9b1 : ((rd l0 (ji5)) != 10) = false := bne_eq_false_iff_eq.mpr c9; clear c9; have H' := az H; clear H; have p353 : 0 ≤ ((ji5) : Int) := of_decide_eq_true (by assumption); have q353 : (ji5) < (l0.length : Int) := of_decide_eq_true (by assumption); obtain ⟨ad353, e353, hx353_0⟩ := Kd.at_int HR0.out (ji5) p353 q353
        cases e353
        replace hx353_0 := (HB.out.cell (World.block_lt_of_cell? w _ hx353_0)).trans hx353_0; replace p353 := eq_true p353; replace q353 := eq_true q353; have p354 : 0 ≤ ((ji5) : Int) := of_decide_eq_true (by assumption); have q354 : (ji5) < (l0.length : Int) := of_decide_eq_true (by assumption); obtain ⟨ad354, e354, hx354_0⟩ := Kd.at_int HR0.out (ji5) p354 q354; obtain rfl : ad353 = ad354 := (by injection e354); replace hx354_0 := (HB.out.cell (World.block_lt_of_cell? w _ hx354_0)).trans hx354_0; replace p354 := eq_true p354; replace q354 := eq_true q354; go_wp2; go_roundg k1
        case measure => have := HK1.out; omega
        case rel => exact ⟨(ji5), (by first | rfl | (simp; done) | (simp only [← hji5] <;> (first | rfl | simp)) | (simp [*]; done)), H', ⟨zE HK1.out⟩, ⟨zA HB.out⟩⟩
       ·
        rw [if_neg c9] at H; have c9b0 : ((rd l0 (ji5)) == 10) = false := beq_eq_false_iff_ne.mpr c9; have c9b1 : ((rd l0 (ji5)) != 10) = true := bne_iff_ne.mpr c9; replace H := Option.bind_eq_some_iff.mp H; obtain ⟨t356, A100, H⟩ := H; replace H : (if t356 = 0 then (impl_body.l0 k1 l0 a1 ji5) else (some x2_1)) = some r := H; have A10 := az A100; clear A100; by_cases c11 : t356 = 0
        ·
         rw [if_pos c11] at H; have c11b0 : (t356 == 0) = true := beq_iff_eq.mpr c11; have c11b1 : (t356 != 0) = false := bne_eq_false_iff_eq.mpr c11; clear c11; have H' := az H; clear H; have p353 : 0 ≤ ((ji5) : Int) := of_decide_eq_true (by assumption); have q353 : (ji5) < (l0.length : Int) := of_decide_eq_true (by assumption); obtain ⟨ad353, e353, hx353_0⟩ := Kd.at_int HR0.out (ji5) p353 q353
         cases e353
         replace hx353_0 := (HB.out.cell (World.block_lt_of_cell? w _ hx353_0)).trans hx353_0; replace p353 := eq_true p353; replace q353 := eq_true q353; have p354 : 0 ≤ ((ji5) : Int) := of_decide_eq_true (by assumption); have q354 : (ji5) < (l0.length : Int) := of_decide_eq_true (by assumption); obtain ⟨ad354, e354, hx354_0⟩ := Kd.at_int HR0.out (ji5) p354 q354; obtain rfl : ad353 = ad354 := (by injection e354); replace hx354_0 := (HB.out.cell (World.block_lt_of_cell? w _ hx354_0)).trans hx354_0; replace p354 := eq_true p354; replace q354 := eq_true q354; have p355 : 0 ≤ ((ji5) : Int) := of_decide_eq_true (by assumption); have q355 : (ji5) < (l0.length : Int) := of_decide_eq_true (by assumption); obtain ⟨ad355, e355, hx355_0⟩ := Kd.at_int HR0.out (ji5) p355 q355; obtain rfl : ad353 = ad355 := (by injection e355); replace hx355_0 := (HB.out.cell (World.block_lt_of_cell? w _ hx355_0)).trans hx355_0; replace p355 := eq_true p355; replace q355 := eq_true q355; go_wp2_with (first | (go_at_call 118; (with_reducible refine (impl_RuneWide.calls k1 (rd l0 (ji5)) t356 _ A10.out).mono ?_); rintro e w12 ⟨rfl, hb⟩; have n0_ := az (below_step (zA HB.out) hb); clear HB; have HB := n0_; clear n0_; (try clear hb); (try clear hb2); (try clear hk); (try clear hi))); go_roundg k1
         case measure => have := HK1.out; omega
         case rel => exact ⟨(ji5), (by first | rfl | (simp; done) | (simp only [← hji5] <;> (first | rfl | simp)) | (simp [*]; done)), H', ⟨zE HK1.out⟩, ⟨zA HB.out⟩⟩
        ·
         rw [if_neg c11] at H; have c11b0 : (t356 == 0) = false := beq_eq_false_iff_ne.mpr c11; have c11b1 : (t356 != 0) = true := bne_iff_ne.mpr c11; obtain rfl := Option.some.inj H; have p353 : 0 ≤ ((ji5) : Int) := of_decide_eq_true (by assumption); have q353 : (ji5) < (l0.length : Int) := of_decide_eq_true (by assumption); obtain ⟨ad353, e353, hx353_0⟩ := Kd.at_int HR0.out (ji5) p353 q353
         cases e353
         replace hx353_0 := (HB.out.cell (World.block_lt_of_cell? w _ hx353_0)).trans hx353_0; replace p353 := eq_true p353; replace q353 := eq_true q353; have p354 : 0 ≤ ((ji5) : Int) := of_decide_eq_true (by assumption); have q354 : (ji5) < (l0.length : Int) := of_decide_eq_true (by assumption); obtain ⟨ad354, e354, hx354_0⟩ := Kd.at_int HR0.out (ji5) p354 q354; obtain rfl : ad353 = ad354 := (by injection e354); replace hx354_0 := (HB.out.cell (World.block_lt_of_cell? w _ hx354_0)).trans hx354_0; replace p354 := eq_true p354; replace q354 := eq_true q354; have p355 : 0 ≤ ((ji5) : Int) := of_decide_eq_true (by assumption); have q355 : (ji5) < (l0.length : Int) := of_decide_eq_true (by assumption); obtain ⟨ad355, e355, hx355_0⟩ := Kd.at_int HR0.out (ji5) p355 q355; obtain rfl : ad353 = ad355 := (by injection e355); replace hx355_0 := (HB.out.cell (World.block_lt_of_cell? w _ hx355_0)).trans hx355_0; replace p355 := eq_true p355; replace q355 := eq_true q355; go_wp2_with (first | (go_at_call 118; (with_reducible refine (impl_RuneWide.calls k1 (rd l0 (ji5)) t356 _ A10.out).mono ?_); rintro e w13 ⟨rfl, hb⟩; have n0_ := az (below_step (zA HB.out) hb); clear HB; have HB := n0_; clear n0_; (try clear hb); (try clear hb2); (try clear hk); (try clear hi))); go_ret; exact ⟨by first | rfl | (simp [errW_none, errW_some] <;> rfl) | (simp only [← hji5]; first | rfl | (simp [errW_none, errW_some] <;> rfl)) | (simp [*, errW_none, errW_some] <;> rfl), zA HB.out⟩
     ·
      rw [if_neg c7] at H; exact absurd H (by simp)
    ·
     rw [if_neg c6] at H; exact absurd H (by simp)
   ·
    rw [if_neg c4] at H; have c4b0 : decide (a1 < x2_1) = false := decide_eq_false c4; clear c4; obtain rfl := Option.some.inj H; go_wp2; go_ret; exact ⟨zG, zA HB.out⟩
def sumW : List Int → Int → Int
 | [], a => a
 | x :: r, a => sumW r (wrap64 (a + x))
def impl_lineWide.f (k : Nat) (l0 l1 : List Int) (a2 a3 : Int) : Option Int := (impl_body.f k l0 a2 a3).bind fun b => if 0 ≤ a2 ∧ a2 ≤ b ∧ b ≤ (l1.length : Int) then some (sumW ((l1.take b.toNat).drop a2.toNat) 0) else none
theorem impl_lineWide.mono : ∀ a0 a1 a2 a3 k, LeO (impl_lineWide.f k a0 a1 a2 a3) (impl_lineWide.f (k + 1) a0 a1 a2 a3) := by
 intro a0 a1 a2 a3 k
 unfold impl_lineWide.f
 exact LeO.bind (impl_body.mono _ _ _ _) (fun b => LeO.refl _)
theorem cut_get {xs : List Int} {a b j : Nat} (h : a + j < b) (hb : b ≤ xs.length) : ((xs.take b).drop a).getD j 0 = xs.getD (a + j) 0 := by
 simp only [List.getD_eq_getElem?_getD, List.getElem?_drop]
 rw [List.getElem?_take_of_lt h]
theorem impl_lineWide.calls (k : Nat) (A0 : Option Addr) (c0 : Nat) (l0 : List Int) (A1 : Option Addr) (c1 : Nat) (l1 : List Int) (a2 a3 : Int) (r : Int) (w : World) (hr0 : Kd.C (Kd.int .i64) w A0 l0.length l0) (hc0 : l0.length ≤ c0) (hr1 : Kd.C (Kd.int .i64) w A1 l1.length l1) (hc1 : l1.length ≤ c1) (h : impl_lineWide.f k l0 l1 a2 a3 = some r) :
  Calls Tryz.prog 60 #[.slice A0 l0.length c0, .slice A1 l1.length c1, .int .i64 a2, .int .i64 a3] w fun e w' => e = .returned (.int .i64 r) ∧ Below w.heap.size w w' := by
 have HR := az hr0
 have HC := az hc0
 have HR1 := az hr1
 have hmx := hr1.2.1
 have HMX := az hmx
 unfold impl_lineWide.f at h
 replace h := Option.bind_eq_some_iff.mp h
 obtain ⟨b, hb, h⟩ := h
 by_cases hab : 0 ≤ a2 ∧ a2 ≤ b ∧ b ≤ (l1.length : Int)
 case neg => rw [if_neg hab] at h; cases h
 case pos =>
 rw [if_pos hab] at h
 have HF := az (Option.some.inj h)
 have HBD := az hb
 obtain ⟨h1, h2, h3⟩ := hab
 obtain ⟨n, hn⟩ : ∃ n : Nat, b.toNat - a2.toNat = n := ⟨_, rfl⟩
 obtain ⟨na, rfl⟩ : ∃ na : Nat, a2 = na := ⟨a2.toNat, by omega⟩
 obtain ⟨nb, rfl⟩ : ∃ nb : Nat, b = nb := ⟨b.toNat, by omega⟩
 simp only [Int.toNat_natCast] at hn HF
 have hlen : ((l1.take nb).drop na).length = n := by simp; omega
 have hbc : (nb : Int) ≤ (c1 : Int) := by omega
 have hab2 : (na : Int) ≤ (nb : Int) := h2
 have hna0 : (0 : Int) ≤ (na : Int) := h1
 have HLEN := az hlen
 have HN := az hn
 have H3 := az h3
 clear hr0 hc0 hr1 h hb h1 h2 hlen hn hmx
 by_cases hz : na = nb
 ·
  subst hz
  have hr0 : r = 0 := by
   have := HF.out
   rw [List.drop_eq_nil_of_le (by simp; omega), sumW] at this
   exact this.symm
  subst hr0
  clear HF
  go_enter Tryz.func60, Tryz.ntmps60
  go_wp2_with (first
   | (go_at_call 89; go_must (refine (impl_body.calls k A0 c0 l0 (na : Int) a3 (na : Int) _ HR.out HC.out HBD.out).mono ?_); rintro e w1 ⟨rfl, hb1⟩; have HB1 := az hb1; clear hb1))
  all_goals
   go_loopg [9, 20] 0 (fun gg s9 s20 wr => s9 = .int .i64 0 ∧ s20 = .int .i64 0 ∧ Aside0 (Below w.heap.size w wr))
   case atStart => exact ⟨rfl, rfl, HB1⟩
   case round =>
    obtain ⟨rfl, rfl, HB⟩ := hrel
    go_wp2
    go_ret
    exact ⟨rfl, HB.out⟩
 ·
  have hlt0 : na < nb := by omega
  have hb9 : nb ≤ 9223372036854775807 := by have := H3.out; have := HMX.out; omega
  have hcn : ¬ c1 = na := by omega
  obtain ⟨ad1, hA1, _⟩ := Kd.at_int HR1.out 0 (by omega) (zE H3.out)
  subst hA1
  go_enter Tryz.func60, Tryz.ntmps60
  go_wp2_with (first
   | (go_at_call 89; go_must (refine (impl_body.calls k A0 c0 l0 (na : Int) a3 (nb : Int) _ HR.out HC.out HBD.out).mono ?_); rintro e w1 ⟨rfl, hb1⟩; have HB1 := az hb1; clear hb1))
  go_loopg [9, 20] (nb - na) (fun gg s9 s20 wr => ∃ (i : Nat) (s : Int), s20 = .int .i64 i ∧ s9 = .int .i64 s ∧ i ≤ nb - na ∧ nb - na - i ≤ gg ∧ Aside0 (sumW (((l1.take nb).drop na).drop i) s = r) ∧ Aside0 (Below w.heap.size w wr))
  case atStart => exact ⟨0, 0, rfl, rfl, Nat.zero_le _, by omega, HF, HB1⟩
  case round =>
   clear HF
   obtain ⟨i, s, rfl, rfl, hi, hg, HF, HB⟩ := hrel
   by_cases hlt : i < nb - na
   ·
    have HLT := az hlt
    have hltz : (i : Int) < ((nb - na : Nat) : Int) := by omega
    obtain ⟨ad, hA, hx⟩ := Kd.at_int (Kd.C_below HR1.out HB.out) ((na + i : Nat) : Int) (by omega) (zE H3.out)
    obtain rfl : ad1 = ad := by injection hA
    rw [Int.toNat_natCast, ← add_add] at hx
    have hx1 : rd l1 ((na + i : Nat) : Int) = l1.getD (na + i) 0 := by unfold rd; rw [Int.toNat_natCast]
    rw [hx1] at hx
    have hq := HF.out
    have hl1 : i < ((l1.take nb).drop na).length := by rw [HLEN.out, ← HN.out]; exact hlt
    rw [List.drop_eq_getElem_cons hl1, sumW] at hq
    have hx2 : ((l1.take nb).drop na)[i] = l1.getD (na + i) 0 := by
     rw [← cut_get (a := na) (b := nb) (j := i) (xs := l1) (by omega) (zE H3.out), List.getD_eq_getElem?_getD, List.getElem?_eq_getElem hl1, Option.getD_some]
    rw [hx2] at hq
    obtain ⟨x, hxx⟩ : ∃ x, l1.getD (na + i) 0 = x := ⟨_, rfl⟩
    rw [hxx] at hx hq
    have HQ := az hq
    clear hx1 hx2 hxx hq hl1 hA HF
    go_wp2
    go_roundg (nb - na - (i + 1))
    case measure => have := HLT.out; omega
    case rel => exact ⟨i + 1, _, by go_num, by first | rfl | (rw [i64_w]), HLT.out, Nat.le_refl _, HQ, HB⟩
   ·
    have hltz : ¬ (i : Int) < ((nb - na : Nat) : Int) := by omega
    obtain rfl : i = nb - na := by omega
    have hq := HF.out
    rw [List.drop_eq_nil_of_le (by rw [HLEN.out, ← HN.out]; exact Nat.le_refl _), sumW] at hq
    subst hq
    clear HF
    go_wp2
    go_ret
    exact ⟨rfl, HB.out⟩
def slices_Index_int_int.l0 : Nat → List Int → Int → Int → Int → Option (Int)
 | 0, _, _, _, _ => none
 | k + 1, x0, x1, x7, x8 => if x8 < x7 then (if 0 ≤ x8 then (if x8 < (x0.length : Int) then (if x1 = (rd x0 x8) then (some x8) else (slices_Index_int_int.l0 k x0 x1 x7 (wrap64 (x8 + 1)))) else (none)) else (none)) else (some (-1))
def slices_Index_int_int.f (k : Nat) (l0 : List Int) (a1 : Int) : Option (Int) := slices_Index_int_int.l0 k l0 a1 (l0.length : Int) 0
theorem slices_Index_int_int.mono_l : ∀ k, (∀ y0 y1 y2 y3, LeO (slices_Index_int_int.l0 k y0 y1 y2 y3) (slices_Index_int_int.l0 (k + 1) y0 y1 y2 y3))
 | 0 => fun _ _ _ _ r h => by simp [slices_Index_int_int.l0] at h
 | k + 1 => by
  have ih0 := slices_Index_int_int.mono_l k
  ·
   intro y0 y1 y2 y3; unfold slices_Index_int_int.l0
   repeat' first
   | (with_reducible exact ih0 _ _ _ _)
   | (with_reducible exact LeO.refl _)
   | (with_reducible exact LeO.none _)
   | (with_reducible refine LeO.ite ?_ ?_)
   | (with_reducible refine LeO.bind ?_ (fun _ => ?_))
   | exact ih0 _ _ _ _
   | exact LeO.none _
   | refine LeO.ite ?_ ?_
   | refine LeO.bind ?_ (fun _ => ?_)
theorem slices_Index_int_int.mono : ∀ a0 a1 k, LeO (slices_Index_int_int.f k a0 a1) (slices_Index_int_int.f (k + 1) a0 a1) := by
 intro a0 a1 k; have ih0 := slices_Index_int_int.mono_l k; unfold slices_Index_int_int.f
 repeat' first
   | (with_reducible exact ih0 _ _ _ _)
   | (with_reducible exact LeO.refl _)
   | (with_reducible exact LeO.none _)
   | (with_reducible refine LeO.ite ?_ ?_)
   | (with_reducible refine LeO.bind ?_ (fun _ => ?_))
   | exact ih0 _ _ _ _
   | exact LeO.none _
   | refine LeO.ite ?_ ?_
   | refine LeO.bind ?_ (fun _ => ?_)
theorem slices_Index_int_int.calls (k : Nat) (A0 : Option Addr) (c0 : Nat) (l0 : List Int) (a1 : Int) (r : Int) (w : World) (hr0 : Kd.C (Kd.int .i64) w A0 l0.length l0) (hc0 : l0.length ≤ c0) (h : slices_Index_int_int.f k l0 a1 = some r) :
  Calls Tryz.prog 83 #[.slice A0 l0.length c0, .int .i64 a1] w fun e w' => e = .returned (.int .i64 r) ∧ Drawn0 w w' := by
 have HR0 := az hr0; have HC0 := az hc0; clear hr0 hc0; have H : (slices_Index_int_int.l0 k l0 a1 (l0.length : Int) 0) = some r := h; clear h; have H' := az H; clear H; go_enter Tryz.func83, Tryz.ntmps83; go_wp2; go_loopg [8] k (fun kq v8 w' => ∃ (x8_1 : Int), v8 = .int .i64 x8_1 ∧ Aside0 (slices_Index_int_int.l0 kq l0 a1 (l0.length : Int) x8_1 = some r) ∧ Aside0 (kq ≤ k) ∧ Drawn0 w w')
 case atStart => exact ⟨(0), zB, H', ⟨Nat.le_refl _⟩, zD⟩
 case round =>
  clear H'; (try clear p2); obtain ⟨x8_1, rfl, HA, HK1, ⟨m1, rfl⟩⟩ := hrel
  cases gk with
  | zero => exact absurd HA.out (by simp [slices_Index_int_int.l0])
  | succ k1 =>
   have H := HA.out; clear HA; simp only [slices_Index_int_int.l0] at H; by_cases c3 : x8_1 < (l0.length : Int)
   ·
    rw [if_pos c3] at H; have c3b0 : decide (x8_1 < (l0.length : Int)) = true := decide_eq_true c3; clear c3; by_cases c4 : 0 ≤ x8_1
    ·
     rw [if_pos c4] at H; have c4b0 : decide (0 ≤ x8_1) = true := decide_eq_true c4; clear c4; by_cases c5 : x8_1 < (l0.length : Int)
     ·
      rw [if_pos c5] at H; have c5b0 : decide (x8_1 < (l0.length : Int)) = true := decide_eq_true c5; clear c5; by_cases c6 : a1 = (rd l0 x8_1)
      ·
       rw [if_pos c6] at H; have c6b0 : (a1 == (rd l0 x8_1)) = true := beq_iff_eq.mpr c6; have c6b1 : (a1 != (rd l0 x8_1)) = false := bne_eq_false_iff_eq.mpr c6; clear c6; obtain rfl := Option.some.inj H; have p357 : 0 ≤ (x8_1 : Int) := of_decide_eq_true (by assumption); have q357 : x8_1 < (l0.length : Int) := of_decide_eq_true (by assumption); obtain ⟨ad357, e357, hx357_0⟩ := Kd.at_int HR0.out x8_1 p357 q357
       cases e357
       replace p357 := eq_true p357; replace q357 := eq_true q357; go_wp2; go_ret; exact ⟨zB, zD⟩
      ·
       rw [if_neg c6] at H; have c6b0 : (a1 == (rd l0 x8_1)) = false := beq_eq_false_iff_ne.mpr c6; have c6b1 : (a1 != (rd l0 x8_1)) = true := bne_iff_ne.mpr c6; have H' := az H; clear H; have p357 : 0 ≤ (x8_1 : Int) := of_decide_eq_true (by assumption); have q357 : x8_1 < (l0.length : Int) := of_decide_eq_true (by assumption); obtain ⟨ad357, e357, hx357_0⟩ := Kd.at_int HR0.out x8_1 p357 q357
       cases e357
       replace p357 := eq_true p357; replace q357 := eq_true q357; go_wp2; go_roundg k1
       case measure => have := HK1.out; omega
       case rel => exact ⟨(wrap64 (x8_1 + 1)), zB, H', ⟨zE HK1.out⟩, zD⟩
     ·
      rw [if_neg c5] at H; exact absurd H (by simp)
    ·
     rw [if_neg c4] at H; exact absurd H (by simp)
   ·
    rw [if_neg c3] at H; have c3b0 : decide (x8_1 < (l0.length : Int)) = false := decide_eq_false c3; clear c3; obtain rfl := Option.some.inj H; go_wp2; go_ret; exact ⟨zB, zD⟩
theorem newFiller_calls (k : Nat) (A0 : Option Addr) (c0 : Nat) (rs : List Int) (A1 : Option Addr) (c1 : Nat) (sp : List S50) (wide : Int) (ws bs : List Int) (w : World) (hr0 : Kd.C (Kd.int .i64) w A0 rs.length rs) (hc0 : rs.length ≤ c0) (hr1 : Kd.C k50 w A1 sp.length sp) (hc1 : sp.length ≤ c1) (hw : impl_widesOf.f k rs sp = some ws) (hb : impl_breaks.f k rs = some bs) :
  Calls Tryz.prog 40 #[.slice A0 rs.length c0, .slice A1 sp.length c1, .int .i64 wide] w fun e w' => ∃ (gb : Nat) (A2 : Option Addr) (c2 : Nat) (A3 : Option Addr) (c3 : Nat), e = .returned (.pointer (some ⟨gb, 0, none⟩)) ∧ FlO 69 gb A0 c0 rs A2 c2 ws A3 c3 bs wide w' ∧ Below w.heap.size w w' := by
 have HR := az hr0
 have HC := az hc0
 have HR1 := az hr1
 have HC1 := az hc1
 have HW := az hw
 have HB := az hb
 clear hr0 hc0 hr1 hc1 hw hb
 go_enter Tryz.func40, Tryz.ntmps40
 go_wp2_with (first
  | (go_at_call 55; go_must (refine (impl_widesOf.calls k A0 c0 rs A1 c1 sp ws _ HR.out HC.out HR1.out HC1.out HW.out).mono ?_); rintro e w1 ⟨v1, rfl, ho1, hb1⟩; obtain ⟨A2, c2, e2⟩ := Kd.R_slice ho1; subst e2; have HO1 := az ho1; have HB1 := az hb1; clear ho1 hb1)
  | (go_at_call 49; go_must (refine (impl_breaks.calls k A0 c0 rs bs _ (Kd.C_below HR.out HB1.out) HC.out HB.out).mono ?_); rintro e w2 ⟨v2, rfl, ho2, hb2⟩; obtain ⟨A3, c3, e3⟩ := Kd.R_slice ho2; subst e3; have HO2 := az ho2; have HW2 := az (Kd.C_below (Kd.R_reads' HO1.out).2.2 hb2); have HB2 := az (below_then HB1.out HB1.out.size hb2); clear ho2 hb2))
 go_ret
 have hn := blk_new w2 (.cells #[.slice A0 rs.length c0, .slice A2 ws.length c2, .slice A3 bs.length c3, .int .i64 wide] 69)
 have ha : Below w2.heap.size w2 (w2.alloc (.cells #[.slice A0 rs.length c0, .slice A2 ws.length c2, .slice A3 bs.length c3, .int .i64 wide] 69)) := below_alloc (Below.refl _ _) _
 exact ⟨w2.heap.size, A2, c2, A3, c3, rfl, ⟨hn, Kd.C_below (Kd.C_below HR.out HB2.out) ha, HC.out, Kd.C_below HW2.out ha, (Kd.R_reads' HO1.out).2.1, Kd.C_below (Kd.R_reads' HO2.out).2.2 ha, (Kd.R_reads' HO2.out).2.1⟩, below_alloc HB2.out _⟩
theorem fitsI_calls (k : Nat) (gb : Nat) (A0 : Option Addr) (c0 : Nat) (rs : List Int) (A1 : Option Addr) (c1 : Nat) (ws : List Int) (A2 : Option Addr) (c2 : Nat) (bs : List Int) (wide from_ to_ x : Int) (w : World) (hf : FlO 69 gb A0 c0 rs A1 c1 ws A2 c2 bs wide w) (hx : impl_lineWide.f k rs ws from_ to_ = some x) :
  Calls Tryz.prog 53 #[.pointer (some ⟨gb, 0, none⟩), .int .i64 from_, .int .i64 to_] w fun e w' => e = .returned (.bool (decide (x ≤ wide))) ∧ Below w.heap.size w w' := by
 have hS := FlI.of (w0 := w) hf (Below.refl _ _)
 have HX := az hx
 unfold FlI at hS
 clear hf hx
 go_enter Tryz.func53, Tryz.ntmps53
 go_upto_region 1 with fail
 go_region_held3 (fun W => W.cell? ⟨gb, 0, none⟩ = some (.slice A0 rs.length c0) ∧ W.cell? ⟨gb, 1, none⟩ = some (.slice A1 ws.length c1) ∧ W.cell? ⟨gb, 2, none⟩ = some (.slice A2 bs.length c2) ∧ W.cell? ⟨gb, 3, none⟩ = some (.int .i64 wide) ∧ Aside0 (FlO 69 gb A0 c0 rs A1 c1 ws A2 c2 bs wide W ∧ Below w.heap.size w W)) (first | (with_reducible assumption) | (with_reducible refine FlI.below ?_ zH; with_reducible assumption) | (with_reducible exact FlI.drew zH)) (first
  | (go_at_call 60; refine (impl_lineWide.calls k A0 c0 rs A1 c1 ws from_ to_ x _ ?s1 ?s2 ?s3 ?s4 HX.out).mono ?_; (case s1 => exact (show FlI 69 gb A0 c0 rs A1 c1 ws A2 c2 bs wide w _ from zH).2.2.2.2.out.1.2.1); (case s2 => exact (show FlI 69 gb A0 c0 rs A1 c1 ws A2 c2 bs wide w _ from zH).2.2.2.2.out.1.2.2.1); (case s3 => exact (show FlI 69 gb A0 c0 rs A1 c1 ws A2 c2 bs wide w _ from zH).2.2.2.2.out.1.2.2.2.1); (case s4 => exact (show FlI 69 gb A0 c0 rs A1 c1 ws A2 c2 bs wide w _ from zH).2.2.2.2.out.1.2.2.2.2.1); rintro e w3 ⟨rfl, p⟩))
 all_goals
  go_wp2
  go_ret
  exact ⟨rfl, (show FlI 69 gb A0 c0 rs A1 c1 ws A2 c2 bs wide w _ from zH).2.2.2.2.out.2⟩
theorem mustI_calls (k : Nat) (gb : Nat) (A0 : Option Addr) (c0 : Nat) (rs : List Int) (A1 : Option Addr) (c1 : Nat) (ws : List Int) (A2 : Option Addr) (c2 : Nat) (bs : List Int) (wide : Int) (m : Nat) (x : Int) (w : World) (hf : FlO 69 gb A0 c0 rs A1 c1 ws A2 c2 bs wide w) (hm : m ≤ bs.length) (hn : bs.length ≤ 1000) (hx : slices_Index_int_int.f k (bs.drop m) 2 = some x) (hx0 : -1 ≤ x) (hx1 : x ≤ 1000) :
  Calls Tryz.prog 52 #[.pointer (some ⟨gb, 0, none⟩), .int .i64 m] w fun e w' => e = .returned (.int .i64 (m + x + 1)) ∧ Drawn0 w w' := by
 have q2 := (blk_cell hf.1 2).trans (show _ = some (Value.slice A2 bs.length c2) from rfl)
 have hC := hf.2.2.2.2.2.1
 have hcc := hf.2.2.2.2.2.2
 have HD := az (Kd.C_drop (m := m) (c := c2) hC hm hcc)
 have HX := az hx
 have hw1 : wrap64 ((m : Int) + x) = (m : Int) + x := by unfold wrap64; omega
 have hw2 : IntKind.i64.wrap ((m : Int) + x) = (m : Int) + x := by rw [i64_w]; exact hw1
 have hw3 : wrap64 ((m : Int) + x + 1) = (m : Int) + x + 1 := by unfold wrap64; omega
 have hw4 : IntKind.i64.wrap ((m : Int) + x + 1) = (m : Int) + x + 1 := by rw [i64_w]; exact hw3
 have hm0 : (0 : Int) ≤ (m : Int) := by omega
 have hm1 : (m : Int) ≤ (bs.length : Int) := by omega
 have hm2 : (bs.length : Int) ≤ (c2 : Int) := by omega
 clear hf hC hx
 by_cases hc : c2 = m
 ·
  subst hc
  rw [if_pos rfl] at HD
  have he : bs.drop c2 = [] := List.drop_eq_nil_of_le (by omega)
  rw [he] at HD HX
  clear he
  go_enter Tryz.func52, Tryz.ntmps52
  go_wp2_with (go_at_call 83; go_must (refine (slices_Index_int_int.calls k A2 0 [] 2 x _ HD.out (Nat.le_refl _) HX.out).mono ?_); rintro e w1 ⟨rfl, ⟨nd, rfl⟩⟩)
  go_ret
  exact ⟨rfl, ⟨⟨_, rfl⟩⟩⟩
 ·
  rw [if_neg hc, show (Kd.int .i64).sz = 1 from rfl, Nat.mul_one] at HD
  go_enter Tryz.func52, Tryz.ntmps52
  go_wp2_with (go_at_call 83; rw [show bs.length - m = (bs.drop m).length from (List.length_drop ..).symm]; go_must (refine (slices_Index_int_int.calls k _ _ (bs.drop m) 2 x _ HD.out (by simp; omega) HX.out).mono ?_); rintro e w1 ⟨rfl, ⟨nd, rfl⟩⟩)
  go_ret
  exact ⟨rfl, ⟨⟨_, rfl⟩⟩⟩
def impl_endsOk.l0 : Nat → Int → Int → List Int → Int → Int → Option (Bool)
 | 0, _, _, _, _, _ => none
 | k + 1, x1, x5, x8, x9, x10 => if x10 < x9 then (if 0 ≤ x10 then (if x10 < (x8.length : Int) then (if (rd x8 x10) ≤ x5 then (some false) else (impl_endsOk.l0 k x1 (rd x8 x10) x8 x9 (wrap64 (x10 + 1)))) else (none)) else (none)) else (some (x5 == x1))
def impl_endsOk.f (k : Nat) (l0 : List Int) (a1 : Int) : Option (Bool) := impl_endsOk.l0 k a1 0 l0 (l0.length : Int) 0
theorem impl_endsOk.mono_l : ∀ k, (∀ y0 y1 y2 y3 y4, LeO (impl_endsOk.l0 k y0 y1 y2 y3 y4) (impl_endsOk.l0 (k + 1) y0 y1 y2 y3 y4))
 | 0 => fun _ _ _ _ _ r h => by simp [impl_endsOk.l0] at h
 | k + 1 => by
  have ih0 := impl_endsOk.mono_l k
  ·
   intro y0 y1 y2 y3 y4; unfold impl_endsOk.l0
   repeat' first
   | (with_reducible exact ih0 _ _ _ _ _)
   | (with_reducible exact LeO.refl _)
   | (with_reducible exact LeO.none _)
   | (with_reducible refine LeO.ite ?_ ?_)
   | (with_reducible refine LeO.bind ?_ (fun _ => ?_))
   | exact ih0 _ _ _ _ _
   | exact LeO.none _
   | refine LeO.ite ?_ ?_
   | refine LeO.bind ?_ (fun _ => ?_)
theorem impl_endsOk.mono : ∀ a0 a1 k, LeO (impl_endsOk.f k a0 a1) (impl_endsOk.f (k + 1) a0 a1) := by
 intro a0 a1 k; have ih0 := impl_endsOk.mono_l k; unfold impl_endsOk.f
 repeat' first
   | (with_reducible exact ih0 _ _ _ _ _)
   | (with_reducible exact LeO.refl _)
   | (with_reducible exact LeO.none _)
   | (with_reducible refine LeO.ite ?_ ?_)
   | (with_reducible refine LeO.bind ?_ (fun _ => ?_))
   | exact ih0 _ _ _ _ _
   | exact LeO.none _
   | refine LeO.ite ?_ ?_
   | refine LeO.bind ?_ (fun _ => ?_)
theorem impl_endsOk.calls (k : Nat) (A0 : Option Addr) (c0 : Nat) (l0 : List Int) (a1 : Int) (r : Bool) (w : World) (hr0 : Kd.C (Kd.int .i64) w A0 l0.length l0) (hc0 : l0.length ≤ c0) (h : impl_endsOk.f k l0 a1 = some r) :
  Calls Tryz.prog 50 #[.slice A0 l0.length c0, .int .i64 a1] w fun e w' => e = .returned (.bool r) ∧ Drawn0 w w' := by
 have HR0 := az hr0; have HC0 := az hc0; clear hr0 hc0; have H : (impl_endsOk.l0 k a1 0 l0 (l0.length : Int) 0) = some r := h; clear h; have H' := az H; clear H; go_enter Tryz.func50, Tryz.ntmps50; go_wp2; go_loopg [5, 10] k (fun kq v5 v10 w' => ∃ (x5_1 : Int) (x10_1 : Int), v5 = .int .i64 x5_1 ∧ v10 = .int .i64 x10_1 ∧ Aside0 (impl_endsOk.l0 kq a1 x5_1 l0 (l0.length : Int) x10_1 = some r) ∧ Aside0 (kq ≤ k) ∧ Drawn0 w w')
 case atStart => exact ⟨(0), (0), zB, zB, H', ⟨Nat.le_refl _⟩, zD⟩
 case round =>
  clear H'; (try clear p2); obtain ⟨x5_1, x10_1, rfl, rfl, HA, HK1, ⟨m1, rfl⟩⟩ := hrel
  cases gk with
  | zero => exact absurd HA.out (by simp [impl_endsOk.l0])
  | succ k1 =>
   have H := HA.out; clear HA; simp only [impl_endsOk.l0] at H; by_cases c3 : x10_1 < (l0.length : Int)
   ·
    rw [if_pos c3] at H; have c3b0 : decide (x10_1 < (l0.length : Int)) = true := decide_eq_true c3; clear c3; by_cases c4 : 0 ≤ x10_1
    ·
     rw [if_pos c4] at H; have c4b0 : decide (0 ≤ x10_1) = true := decide_eq_true c4; clear c4; by_cases c5 : x10_1 < (l0.length : Int)
     ·
      rw [if_pos c5] at H; have c5b0 : decide (x10_1 < (l0.length : Int)) = true := decide_eq_true c5; clear c5; by_cases c6 : (rd l0 x10_1) ≤ x5_1
      ·
       rw [if_pos c6] at H; have c6b0 : decide ((rd l0 x10_1) ≤ x5_1) = true := decide_eq_true c6; clear c6; obtain rfl := Option.some.inj H; have p434 : 0 ≤ (x10_1 : Int) := of_decide_eq_true (by assumption); have q434 : x10_1 < (l0.length : Int) := of_decide_eq_true (by assumption); obtain ⟨ad434, e434, hx434_0⟩ := Kd.at_int HR0.out x10_1 p434 q434
       cases e434
       replace p434 := eq_true p434; replace q434 := eq_true q434; go_wp2; go_ret; exact ⟨zB, zD⟩
      ·
       rw [if_neg c6] at H; have c6b0 : decide ((rd l0 x10_1) ≤ x5_1) = false := decide_eq_false c6; clear c6; have H' := az H; clear H; have p434 : 0 ≤ (x10_1 : Int) := of_decide_eq_true (by assumption); have q434 : x10_1 < (l0.length : Int) := of_decide_eq_true (by assumption); obtain ⟨ad434, e434, hx434_0⟩ := Kd.at_int HR0.out x10_1 p434 q434
       cases e434
       replace p434 := eq_true p434; replace q434 := eq_true q434; go_wp2; go_roundg k1
       case measure => have := HK1.out; omega
       case rel => exact ⟨(rd l0 x10_1), (wrap64 (x10_1 + 1)), zB, zB, H', ⟨zE HK1.out⟩, zD⟩
     ·
      rw [if_neg c5] at H; exact absurd H (by simp)
    ·
     rw [if_neg c4] at H; exact absurd H (by simp)
   ·
    rw [if_neg c3] at H; have c3b0 : decide (x10_1 < (l0.length : Int)) = false := decide_eq_false c3; clear c3; obtain rfl := Option.some.inj H; go_wp2; go_ret; exact ⟨zB, zD⟩
def fitsIL (k : Nat) (rs ws bs : List Int) (wide : Int) : List Int → Int → Option Bool
 | [], _ => some true
 | e :: r, fr => if 1 ≤ e ∧ e ≤ (bs.length : Int) ∧ 0 ≤ fr ∧ fr ≤ (bs.length : Int) then (if bs.getD (e - 1).toNat 0 = 0 then some false else (slices_Index_int_int.f k (bs.drop fr.toNat) 2).bind fun x => if -1 ≤ x ∧ x ≤ 1000 then (if fr + x + 1 < e then some false else (impl_lineWide.f k rs ws fr e).bind fun y => if y ≤ wide then fitsIL k rs ws bs wide r e else some false) else none) else none
def impl_FillFits.f (k : Nat) (l0 : List Int) (l1 : List S50) (a2 : Int) (l3 : List Int) : Option Bool := (impl_fillable.f k l0 l1 a2).bind fun a => if a = true then (impl_endsOk.f k l3 (l0.length : Int)).bind fun b => if b = true then (impl_widesOf.f k l0 l1).bind fun ws => (impl_breaks.f k l0).bind fun bs => if bs.length ≤ 1000 then fitsIL k l0 ws bs a2 l3 0 else none else some false else some false
theorem fitsIL_mono (k : Nat) (rs ws bs : List Int) (wide : Int) : ∀ (es : List Int) (fr : Int), LeO (fitsIL k rs ws bs wide es fr) (fitsIL (k + 1) rs ws bs wide es fr)
 | [], _ => LeO.refl _
 | e :: r, fr => by
  simp only [fitsIL]
  exact LeO.ite (LeO.ite (LeO.refl _) (LeO.bind (slices_Index_int_int.mono _ _ _) (fun x => LeO.ite (LeO.ite (LeO.refl _) (LeO.bind (impl_lineWide.mono _ _ _ _ _) (fun y => LeO.ite (fitsIL_mono k rs ws bs wide r e) (LeO.refl _)))) (LeO.refl _)))) (LeO.refl _)
theorem impl_FillFits.mono : ∀ a0 a1 a2 a3 k, LeO (impl_FillFits.f k a0 a1 a2 a3) (impl_FillFits.f (k + 1) a0 a1 a2 a3) := by
 intro a0 a1 a2 a3 k
 unfold impl_FillFits.f
 exact LeO.bind (impl_fillable.mono _ _ _ _) (fun a => LeO.ite (LeO.bind (impl_endsOk.mono _ _ _) (fun b => LeO.ite (LeO.bind (impl_widesOf.mono _ _ _) (fun ws => LeO.bind (impl_breaks.mono _ _) (fun bs => LeO.ite (fitsIL_mono _ _ _ _ _ _ _) (LeO.refl _)))) (LeO.refl _))) (LeO.refl _))
theorem impl_FillFits.calls (k : Nat) (A0 : Option Addr) (c0 : Nat) (l0 : List Int) (A1 : Option Addr) (c1 : Nat) (l1 : List S50) (a2 : Int) (A3 : Option Addr) (c3 : Nat) (l3 : List Int) (r : Bool) (w : World) (hr0 : Kd.C (Kd.int .i64) w A0 l0.length l0) (hc0 : l0.length ≤ c0) (hr1 : Kd.C k50 w A1 l1.length l1) (hc1 : l1.length ≤ c1) (hr3 : Kd.C (Kd.int .i64) w A3 l3.length l3) (hc3 : l3.length ≤ c3) (h : impl_FillFits.f k l0 l1 a2 l3 = some r) :
  Calls Tryz.prog 26 #[.slice A0 l0.length c0, .slice A1 l1.length c1, .int .i64 a2, .slice A3 l3.length c3] w fun e w' => e = .returned (.bool r) ∧ Below w.heap.size w w' := by
 have HR := az hr0
 have HC := az hc0
 have HR1 := az hr1
 have HC1 := az hc1
 have HR3 := az hr3
 have HC3 := az hc3
 have hmx := hr3.2.1
 have HMX := az hmx
 clear hr0 hc0 hr1 hc1 hr3 hc3 hmx
 unfold impl_FillFits.f at h
 replace h := Option.bind_eq_some_iff.mp h
 obtain ⟨a, ha, h⟩ := h
 have HA := az ha
 clear ha
 cases a
 ·
  rw [if_neg (by decide)] at h
  obtain rfl := Option.some.inj h
  clear h
  go_enter Tryz.func26, Tryz.ntmps26
  go_wp2_with (go_at_call 39; go_must (refine (impl_fillable.calls k A0 c0 l0 A1 c1 l1 a2 false _ HR.out HC.out HR1.out HC1.out HA.out).mono ?_); rintro e w1 ⟨rfl, hb1⟩; have HB1 := az hb1; clear hb1)
  go_ret
  exact ⟨rfl, HB1.out⟩
 rw [if_pos rfl] at h
 replace h := Option.bind_eq_some_iff.mp h
 obtain ⟨b, hb, h⟩ := h
 have HE := az hb
 clear hb
 cases b
 ·
  rw [if_neg (by decide)] at h
  obtain rfl := Option.some.inj h
  clear h
  go_enter Tryz.func26, Tryz.ntmps26
  go_wp2_with (first
   | (go_at_call 39; go_must (refine (impl_fillable.calls k A0 c0 l0 A1 c1 l1 a2 true _ HR.out HC.out HR1.out HC1.out HA.out).mono ?_); rintro e w1 ⟨rfl, hb1⟩; have HB1 := az hb1; clear hb1)
   | (go_at_call 50; go_must (refine (impl_endsOk.calls k A3 c3 l3 (l0.length : Int) false _ (Kd.C_below HR3.out HB1.out) HC3.out HE.out).mono ?_); rintro e w2 ⟨rfl, ⟨nd, rfl⟩⟩))
  go_ret
  exact ⟨rfl, pw_below_drewN HB1.out _⟩
 rw [if_pos rfl] at h
 replace h := Option.bind_eq_some_iff.mp h
 obtain ⟨ws, hws, h⟩ := h
 replace h := Option.bind_eq_some_iff.mp h
 obtain ⟨bs, hbs, h⟩ := h
 by_cases hn : bs.length ≤ 1000
 case neg => rw [if_neg hn] at h; cases h
 case pos =>
 rw [if_pos hn] at h
 have HF0 := az h
 have HWS := az hws
 have HBS := az hbs
 clear h hws hbs
 go_enter Tryz.func26, Tryz.ntmps26
 go_wp2_with (first
  | (go_at_call 39; go_must (refine (impl_fillable.calls k A0 c0 l0 A1 c1 l1 a2 true _ HR.out HC.out HR1.out HC1.out HA.out).mono ?_); rintro e w1 ⟨rfl, hb1⟩; have HB1 := az hb1; clear hb1)
  | (go_at_call 50; go_must (refine (impl_endsOk.calls k A3 c3 l3 (l0.length : Int) true _ (Kd.C_below HR3.out HB1.out) HC3.out HE.out).mono ?_); rintro e w2 ⟨rfl, ⟨nd, rfl⟩⟩; have HB2 := az (pw_below_drewN HB1.out nd); clear HB1)
  | (go_at_call 40; go_must (refine (newFiller_calls k A0 c0 l0 A1 c1 l1 a2 ws bs _ (Kd.C_below HR.out HB2.out) HC.out (Kd.C_below HR1.out HB2.out) HC1.out HWS.out HBS.out).mono ?_); rintro e w3 ⟨gb, A4, c4, A5, c5, rfl, hfl, hb3⟩; have HFL := az hfl; have HB3 := az (below_then HB2.out HB2.out.size hb3); clear hfl hb3))
 go_loopg [10, 31] l3.length (fun gg s10 s31 wr => ∃ (i : Nat) (fr : Int), s31 = .int .i64 i ∧ s10 = .int .i64 fr ∧ i ≤ l3.length ∧ l3.length - i ≤ gg ∧ Aside0 (fitsIL k l0 ws bs a2 (l3.drop i) fr = some r) ∧ Aside0 (Below w3.heap.size w3 wr))
 case atStart => exact ⟨0, 0, rfl, rfl, Nat.zero_le _, by omega, HF0, ⟨Below.refl _ _⟩⟩
 case round =>
  clear HF0
  obtain ⟨i, fr, rfl, rfl, hi, hg, HF, HB⟩ := hrel
  by_cases hlt : i < l3.length
  ·
   have hltz : (i : Int) < (l3.length : Int) := by omega
   have hi0 : (0 : Int) ≤ (i : Int) := by omega
   have hl9 : l3.length ≤ 9223372036854775807 := HMX.out
   obtain ⟨ad, hA, hx⟩ := Kd.at_int (Kd.C_below HR3.out (below_then HB3.out HB3.out.size HB.out)) (i : Int) hi0 hltz
   subst hA
   have hxx : rd l3 (i : Int) = l3.getD i 0 := by simp [rd]
   rw [hxx, Int.toNat_natCast] at hx
   have hq := HF.out
   rw [List.drop_eq_getElem_cons hlt, fitsIL] at hq
   obtain ⟨e, he⟩ : ∃ e, l3[i] = e := ⟨_, rfl⟩
   have he2 : l3.getD i 0 = e := by rw [List.getD_eq_getElem?_getD, List.getElem?_eq_getElem hlt, Option.getD_some]; exact he
   rw [he2] at hx
   rw [he] at hq
   clear hxx he he2 HF
   by_cases hbd : 1 ≤ e ∧ e ≤ (bs.length : Int) ∧ 0 ≤ fr ∧ fr ≤ (bs.length : Int)
   case neg => rw [if_neg hbd] at hq; cases hq
   case pos =>
   rw [if_pos hbd] at hq
   obtain ⟨h1, h2, h3, h4⟩ := hbd
   obtain ⟨m, hm⟩ : ∃ m : Nat, e - 1 = (m : Int) := ⟨(e - 1).toNat, by omega⟩
   obtain ⟨f, rfl⟩ : ∃ f : Nat, fr = f := ⟨fr.toNat, by omega⟩
   rw [hm, Int.toNat_natCast, Int.toNat_natCast] at hq
   have hm0 : (0 : Int) ≤ (m : Int) := by omega
   have hmz : (m : Int) < (bs.length : Int) := by omega
   have HFR := az (HFL.out.below HB.out)
   obtain ⟨ad5, hA5, hx5⟩ := Kd.at_int HFR.out.2.2.2.2.2.1 (m : Int) hm0 hmz
   subst hA5
   have hxx : rd bs (m : Int) = bs.getD m 0 := by simp [rd]
   rw [hxx, Int.toNat_natCast] at hx5
   obtain ⟨y, hy⟩ : ∃ y, bs.getD m 0 = y := ⟨_, rfl⟩
   rw [hy] at hx5 hq
   clear hxx hy
   have hw1 : IntKind.i64.wrap (e - 1) = (m : Int) := by rw [i64_w]; unfold wrap64; omega
   have hw2 : wrap64 (e - 1) = (m : Int) := by unfold wrap64; omega
   have HFB := az (show f ≤ bs.length by omega)
   have HMB := az (show m < bs.length by omega)
   have HLT := az hlt
   obtain ⟨q0, q1, q2, q3, q4, q5, _⟩ := FlJ.of (p := ad.add i) (q := ad5.add m) ⟨HFR.out, Below.refl _ _, hx, hx5⟩
   clear hx hx5 h1 h2 h3 h4 hm
   by_cases hy0 : y = 0
   ·
    rw [if_pos hy0] at hq
    obtain rfl := Option.some.inj hq
    have b0 : (y == 0) = true := beq_iff_eq.mpr hy0
    clear hy0 hq
    go_wp2
    go_ret
    exact ⟨rfl, below_then HB3.out HB3.out.size HB.out⟩
   ·
    rw [if_neg hy0] at hq
    have b0 : (y == 0) = false := beq_eq_false_iff_ne.mpr hy0
    replace hq := Option.bind_eq_some_iff.mp hq
    obtain ⟨x, hix, hq⟩ := hq
    have HIX := az hix
    clear hix hy0
    by_cases hxb : -1 ≤ x ∧ x ≤ 1000
    case neg => rw [if_neg hxb] at hq; cases hq
    case pos =>
    rw [if_pos hxb] at hq
    have HXB := az hxb
    clear hxb
    by_cases hmm : (f : Int) + x + 1 < e
    ·
     rw [if_pos hmm] at hq
     obtain rfl := Option.some.inj hq
     have dM : decide ((f : Int) + x + 1 < e) = true := decide_eq_true hmm
     clear hmm hq
     go_wp2_with (first | (go_at_call 52; go_must (refine (mustI_calls k gb A0 c0 l0 A4 c4 ws (some ad5) c5 bs a2 f x _ (HFR.out.below (by repeat (first | exact Below.refl _ _ | apply pw_below_drewN | apply below_drew1))) HFB.out hn HIX.out HXB.out.1 HXB.out.2).mono ?_); rintro e6 w6 ⟨rfl, ⟨nd6, rfl⟩⟩))
     go_ret
     exact ⟨rfl, below_then HB3.out HB3.out.size (by repeat (first | exact HB.out | apply pw_below_drewN | apply below_drew1))⟩
    ·
     rw [if_neg hmm] at hq
     have dM : decide ((f : Int) + x + 1 < e) = false := decide_eq_false hmm
     replace hq := Option.bind_eq_some_iff.mp hq
     obtain ⟨y1, hy1, hq⟩ := hq
     have HLW := az hy1
     clear hy1 hmm
     by_cases hxw : y1 ≤ a2
     ·
      rw [if_pos hxw] at hq
      have dX : decide (y1 ≤ a2) = true := decide_eq_true hxw
      have HQ := az hq
      clear hxw hq
      go_wp2_with (first | (go_at_call 52; go_must (refine (mustI_calls k gb A0 c0 l0 A4 c4 ws (some ad5) c5 bs a2 f x _ (HFR.out.below (by repeat (first | exact Below.refl _ _ | apply pw_below_drewN | apply below_drew1))) HFB.out hn HIX.out HXB.out.1 HXB.out.2).mono ?_); rintro e6 w6 ⟨rfl, ⟨nd6, rfl⟩⟩) | (go_at_call 53; go_must (refine (fitsI_calls k gb A0 c0 l0 A4 c4 ws (some ad5) c5 bs a2 (f : Int) e y1 _ (HFR.out.below (by repeat (first | exact Below.refl _ _ | apply pw_below_drewN | apply below_drew1))) HLW.out).mono ?_); rw [dX]; rintro e7 w7 ⟨rfl, hb7⟩; have HB7 := az (below_then (w := wr) (B := wr.heap.size) (by repeat (first | exact Below.refl _ _ | apply pw_below_drewN | apply below_drew1)) (by first | exact Nat.le_refl _ | simp) hb7); clear hb7))
      go_roundg (l3.length - (i + 1))
      case measure => have := HLT.out; omega
      case rel => exact ⟨i + 1, _, by go_num, rfl, HLT.out, Nat.le_refl _, HQ, ⟨below_then HB.out HB.out.size HB7.out⟩⟩
     ·
      rw [if_neg hxw] at hq
      obtain rfl := Option.some.inj hq
      have dX : decide (y1 ≤ a2) = false := decide_eq_false hxw
      clear hxw hq
      go_wp2_with (first | (go_at_call 52; go_must (refine (mustI_calls k gb A0 c0 l0 A4 c4 ws (some ad5) c5 bs a2 f x _ (HFR.out.below (by repeat (first | exact Below.refl _ _ | apply pw_below_drewN | apply below_drew1))) HFB.out hn HIX.out HXB.out.1 HXB.out.2).mono ?_); rintro e6 w6 ⟨rfl, ⟨nd6, rfl⟩⟩) | (go_at_call 53; go_must (refine (fitsI_calls k gb A0 c0 l0 A4 c4 ws (some ad5) c5 bs a2 (f : Int) e y1 _ (HFR.out.below (by repeat (first | exact Below.refl _ _ | apply pw_below_drewN | apply below_drew1))) HLW.out).mono ?_); rw [dX]; rintro e7 w7 ⟨rfl, hb7⟩; have HB7 := az (below_then (w := wr) (B := wr.heap.size) (by repeat (first | exact Below.refl _ _ | apply pw_below_drewN | apply below_drew1)) (by first | exact Nat.le_refl _ | simp) hb7); clear hb7))
      go_ret
      exact ⟨rfl, below_then HB3.out HB3.out.size (below_then HB.out HB.out.size HB7.out)⟩
  ·
   have hltz : ¬ (i : Int) < (l3.length : Int) := by omega
   obtain rfl : i = l3.length := by omega
   have hq := HF.out
   rw [List.drop_length, fitsIL] at hq
   obtain rfl := Option.some.inj hq
   clear hq HF
   go_wp2
   go_ret
   exact ⟨rfl, below_then HB3.out HB3.out.size HB.out⟩
def spec_l1Size.f (a0 : Int) : Option (Int) := (spec_l1In.f a0 0 127).bind fun t101 => (if t101 = true then (some 1) else ((spec_l1In.f a0 128 2047).bind fun t102 => (if t102 = true then (some 2) else ((spec_l1In.f a0 55296 57343).bind fun t103 => (if t103 = true then (some 0) else ((spec_l1In.f a0 2048 65535).bind fun t104 => (if t104 = true then (some 3) else ((spec_l1In.f a0 65536 1114111).bind fun t105 => (if t105 = true then (some 4) else (some 0))))))))))
theorem spec_l1Size.calls (a0 : Int) (r : Int) (w : World) (h : spec_l1Size.f a0 = some r) :
  Calls Tryz.prog 95 #[.int .i64 a0] w fun e w' => e = .returned (.int .i64 r) ∧ Drawn0 w w' := by
 have H : ((spec_l1In.f a0 0 127).bind fun t101 => (if t101 = true then (some 1) else ((spec_l1In.f a0 128 2047).bind fun t102 => (if t102 = true then (some 2) else ((spec_l1In.f a0 55296 57343).bind fun t103 => (if t103 = true then (some 0) else ((spec_l1In.f a0 2048 65535).bind fun t104 => (if t104 = true then (some 3) else ((spec_l1In.f a0 65536 1114111).bind fun t105 => (if t105 = true then (some 4) else (some 0))))))))))) = some r := h; clear h; replace H := Option.bind_eq_some_iff.mp H; obtain ⟨t101, A20, H⟩ := H; replace H : (if t101 = true then (some 1) else ((spec_l1In.f a0 128 2047).bind fun t102 => (if t102 = true then (some 2) else ((spec_l1In.f a0 55296 57343).bind fun t103 => (if t103 = true then (some 0) else ((spec_l1In.f a0 2048 65535).bind fun t104 => (if t104 = true then (some 3) else ((spec_l1In.f a0 65536 1114111).bind fun t105 => (if t105 = true then (some 4) else (some 0)))))))))) = some r := H; have A2 := az A20; clear A20; by_cases c3 : t101 = true
 ·
  subst c3; have H1 : (some 1) = some r := by rw [if_pos rfl] at H; exact H
  clear H; have H := H1; clear H1; obtain rfl := Option.some.inj H; go_enter Tryz.func95, Tryz.ntmps95; go_wp2_with (first | ((with_reducible refine gate_callee (f := 36) rfl ?_); refine goesL_ (some 5) rfl rfl Tryz.func36 (by kernel_rfl) rfl #[.int .i64 a0, .int .i64 0, .int .i64 127] rfl zC ?_; (with_reducible refine (spec_l1In.calls a0 0 127 true _ A2.out).mono ?_); rintro e w' ⟨rfl, ⟨nd, rfl⟩⟩; refine ⟨_, rfl, ?_⟩)); go_ret; exact ⟨zB, zD⟩
 ·
  replace c3 := Bool.eq_false_iff.mpr c3; subst c3; have H1 : ((spec_l1In.f a0 128 2047).bind fun t102 => (if t102 = true then (some 2) else ((spec_l1In.f a0 55296 57343).bind fun t103 => (if t103 = true then (some 0) else ((spec_l1In.f a0 2048 65535).bind fun t104 => (if t104 = true then (some 3) else ((spec_l1In.f a0 65536 1114111).bind fun t105 => (if t105 = true then (some 4) else (some 0))))))))) = some r := by rw [if_neg (show ¬ (false = true) by decide)] at H; exact H
  clear H; have H := H1; clear H1; replace H := Option.bind_eq_some_iff.mp H; obtain ⟨t102, A40, H⟩ := H; replace H : (if t102 = true then (some 2) else ((spec_l1In.f a0 55296 57343).bind fun t103 => (if t103 = true then (some 0) else ((spec_l1In.f a0 2048 65535).bind fun t104 => (if t104 = true then (some 3) else ((spec_l1In.f a0 65536 1114111).bind fun t105 => (if t105 = true then (some 4) else (some 0)))))))) = some r := H; have A4 := az A40; clear A40; by_cases c5 : t102 = true
  ·
   subst c5; have H1 : (some 2) = some r := by rw [if_pos rfl] at H; exact H
   clear H; have H := H1; clear H1; obtain rfl := Option.some.inj H; go_enter Tryz.func95, Tryz.ntmps95; go_wp2_with (first | ((with_reducible refine gate_callee (f := 36) rfl ?_); refine goesL_ (some 5) rfl rfl Tryz.func36 (by kernel_rfl) rfl #[.int .i64 a0, .int .i64 0, .int .i64 127] rfl zC ?_; (with_reducible refine (spec_l1In.calls a0 0 127 false _ A2.out).mono ?_); rintro e w' ⟨rfl, ⟨nd, rfl⟩⟩; refine ⟨_, rfl, ?_⟩) | ((with_reducible refine gate_callee (f := 36) rfl ?_); refine goesL_ (some 8) rfl rfl Tryz.func36 (by kernel_rfl) rfl #[.int .i64 a0, .int .i64 128, .int .i64 2047] rfl zC ?_; (with_reducible refine (spec_l1In.calls a0 128 2047 true _ A4.out).mono ?_); rintro e w' ⟨rfl, ⟨nd, rfl⟩⟩; refine ⟨_, rfl, ?_⟩)); go_ret; exact ⟨zB, zD⟩
  ·
   replace c5 := Bool.eq_false_iff.mpr c5; subst c5; have H1 : ((spec_l1In.f a0 55296 57343).bind fun t103 => (if t103 = true then (some 0) else ((spec_l1In.f a0 2048 65535).bind fun t104 => (if t104 = true then (some 3) else ((spec_l1In.f a0 65536 1114111).bind fun t105 => (if t105 = true then (some 4) else (some 0))))))) = some r := by rw [if_neg (show ¬ (false = true) by decide)] at H; exact H
   clear H; have H := H1; clear H1; replace H := Option.bind_eq_some_iff.mp H; obtain ⟨t103, A60, H⟩ := H; replace H : (if t103 = true then (some 0) else ((spec_l1In.f a0 2048 65535).bind fun t104 => (if t104 = true then (some 3) else ((spec_l1In.f a0 65536 1114111).bind fun t105 => (if t105 = true then (some 4) else (some 0)))))) = some r := H; have A6 := az A60; clear A60; by_cases c7 : t103 = true
   ·
    subst c7; have H1 : (some 0) = some r := by rw [if_pos rfl] at H; exact H
    clear H; have H := H1; clear H1; obtain rfl := Option.some.inj H; go_enter Tryz.func95, Tryz.ntmps95; go_wp2_with (first | ((with_reducible refine gate_callee (f := 36) rfl ?_); refine goesL_ (some 5) rfl rfl Tryz.func36 (by kernel_rfl) rfl #[.int .i64 a0, .int .i64 0, .int .i64 127] rfl zC ?_; (with_reducible refine (spec_l1In.calls a0 0 127 false _ A2.out).mono ?_); rintro e w' ⟨rfl, ⟨nd, rfl⟩⟩; refine ⟨_, rfl, ?_⟩) | ((with_reducible refine gate_callee (f := 36) rfl ?_); refine goesL_ (some 8) rfl rfl Tryz.func36 (by kernel_rfl) rfl #[.int .i64 a0, .int .i64 128, .int .i64 2047] rfl zC ?_; (with_reducible refine (spec_l1In.calls a0 128 2047 false _ A4.out).mono ?_); rintro e w' ⟨rfl, ⟨nd, rfl⟩⟩; refine ⟨_, rfl, ?_⟩) | ((with_reducible refine gate_callee (f := 36) rfl ?_); refine goesL_ (some 11) rfl rfl Tryz.func36 (by kernel_rfl) rfl #[.int .i64 a0, .int .i64 55296, .int .i64 57343] rfl zC ?_; (with_reducible refine (spec_l1In.calls a0 55296 57343 true _ A6.out).mono ?_); rintro e w' ⟨rfl, ⟨nd, rfl⟩⟩; refine ⟨_, rfl, ?_⟩)); go_ret; exact ⟨zB, zD⟩
   ·
    replace c7 := Bool.eq_false_iff.mpr c7; subst c7; have H1 : ((spec_l1In.f a0 2048 65535).bind fun t104 => (if t104 = true then (some 3) else ((spec_l1In.f a0 65536 1114111).bind fun t105 => (if t105 = true then (some 4) else (some 0))))) = some r := by rw [if_neg (show ¬ (false = true) by decide)] at H; exact H
    clear H; have H := H1; clear H1; replace H := Option.bind_eq_some_iff.mp H; obtain ⟨t104, A80, H⟩ := H; replace H : (if t104 = true then (some 3) else ((spec_l1In.f a0 65536 1114111).bind fun t105 => (if t105 = true then (some 4) else (some 0)))) = some r := H; have A8 := az A80; clear A80; by_cases c9 : t104 = true
    ·
     subst c9; have H1 : (some 3) = some r := by rw [if_pos rfl] at H; exact H
     clear H; have H := H1; clear H1; obtain rfl := Option.some.inj H; go_enter Tryz.func95, Tryz.ntmps95; go_wp2_with (first | ((with_reducible refine gate_callee (f := 36) rfl ?_); refine goesL_ (some 5) rfl rfl Tryz.func36 (by kernel_rfl) rfl #[.int .i64 a0, .int .i64 0, .int .i64 127] rfl zC ?_; (with_reducible refine (spec_l1In.calls a0 0 127 false _ A2.out).mono ?_); rintro e w' ⟨rfl, ⟨nd, rfl⟩⟩; refine ⟨_, rfl, ?_⟩) | ((with_reducible refine gate_callee (f := 36) rfl ?_); refine goesL_ (some 8) rfl rfl Tryz.func36 (by kernel_rfl) rfl #[.int .i64 a0, .int .i64 128, .int .i64 2047] rfl zC ?_; (with_reducible refine (spec_l1In.calls a0 128 2047 false _ A4.out).mono ?_); rintro e w' ⟨rfl, ⟨nd, rfl⟩⟩; refine ⟨_, rfl, ?_⟩) | ((with_reducible refine gate_callee (f := 36) rfl ?_); refine goesL_ (some 11) rfl rfl Tryz.func36 (by kernel_rfl) rfl #[.int .i64 a0, .int .i64 55296, .int .i64 57343] rfl zC ?_; (with_reducible refine (spec_l1In.calls a0 55296 57343 false _ A6.out).mono ?_); rintro e w' ⟨rfl, ⟨nd, rfl⟩⟩; refine ⟨_, rfl, ?_⟩) | ((with_reducible refine gate_callee (f := 36) rfl ?_); refine goesL_ (some 14) rfl rfl Tryz.func36 (by kernel_rfl) rfl #[.int .i64 a0, .int .i64 2048, .int .i64 65535] rfl zC ?_; (with_reducible refine (spec_l1In.calls a0 2048 65535 true _ A8.out).mono ?_); rintro e w' ⟨rfl, ⟨nd, rfl⟩⟩; refine ⟨_, rfl, ?_⟩)); go_ret; exact ⟨zB, zD⟩
    ·
     replace c9 := Bool.eq_false_iff.mpr c9; subst c9; have H1 : ((spec_l1In.f a0 65536 1114111).bind fun t105 => (if t105 = true then (some 4) else (some 0))) = some r := by rw [if_neg (show ¬ (false = true) by decide)] at H; exact H
     clear H; have H := H1; clear H1; replace H := Option.bind_eq_some_iff.mp H; obtain ⟨t105, A100, H⟩ := H; replace H : (if t105 = true then (some 4) else (some 0)) = some r := H; have A10 := az A100; clear A100; by_cases c11 : t105 = true
     ·
      subst c11; have H1 : (some 4) = some r := by rw [if_pos rfl] at H; exact H
      clear H; have H := H1; clear H1; obtain rfl := Option.some.inj H; go_enter Tryz.func95, Tryz.ntmps95; go_wp2_with (first | ((with_reducible refine gate_callee (f := 36) rfl ?_); refine goesL_ (some 5) rfl rfl Tryz.func36 (by kernel_rfl) rfl #[.int .i64 a0, .int .i64 0, .int .i64 127] rfl zC ?_; (with_reducible refine (spec_l1In.calls a0 0 127 false _ A2.out).mono ?_); rintro e w' ⟨rfl, ⟨nd, rfl⟩⟩; refine ⟨_, rfl, ?_⟩) | ((with_reducible refine gate_callee (f := 36) rfl ?_); refine goesL_ (some 8) rfl rfl Tryz.func36 (by kernel_rfl) rfl #[.int .i64 a0, .int .i64 128, .int .i64 2047] rfl zC ?_; (with_reducible refine (spec_l1In.calls a0 128 2047 false _ A4.out).mono ?_); rintro e w' ⟨rfl, ⟨nd, rfl⟩⟩; refine ⟨_, rfl, ?_⟩) | ((with_reducible refine gate_callee (f := 36) rfl ?_); refine goesL_ (some 11) rfl rfl Tryz.func36 (by kernel_rfl) rfl #[.int .i64 a0, .int .i64 55296, .int .i64 57343] rfl zC ?_; (with_reducible refine (spec_l1In.calls a0 55296 57343 false _ A6.out).mono ?_); rintro e w' ⟨rfl, ⟨nd, rfl⟩⟩; refine ⟨_, rfl, ?_⟩) | ((with_reducible refine gate_callee (f := 36) rfl ?_); refine goesL_ (some 14) rfl rfl Tryz.func36 (by kernel_rfl) rfl #[.int .i64 a0, .int .i64 2048, .int .i64 65535] rfl zC ?_; (with_reducible refine (spec_l1In.calls a0 2048 65535 false _ A8.out).mono ?_); rintro e w' ⟨rfl, ⟨nd, rfl⟩⟩; refine ⟨_, rfl, ?_⟩) | ((with_reducible refine gate_callee (f := 36) rfl ?_); refine goesL_ (some 17) rfl rfl Tryz.func36 (by kernel_rfl) rfl #[.int .i64 a0, .int .i64 65536, .int .i64 1114111] rfl zC ?_; (with_reducible refine (spec_l1In.calls a0 65536 1114111 true _ A10.out).mono ?_); rintro e w' ⟨rfl, ⟨nd, rfl⟩⟩; refine ⟨_, rfl, ?_⟩)); go_ret; exact ⟨zB, zD⟩
     ·
      replace c11 := Bool.eq_false_iff.mpr c11; subst c11; have H1 : (some 0) = some r := by rw [if_neg (show ¬ (false = true) by decide)] at H; exact H
      clear H; have H := H1; clear H1; obtain rfl := Option.some.inj H; go_enter Tryz.func95, Tryz.ntmps95; go_wp2_with (first | ((with_reducible refine gate_callee (f := 36) rfl ?_); refine goesL_ (some 5) rfl rfl Tryz.func36 (by kernel_rfl) rfl #[.int .i64 a0, .int .i64 0, .int .i64 127] rfl zC ?_; (with_reducible refine (spec_l1In.calls a0 0 127 false _ A2.out).mono ?_); rintro e w' ⟨rfl, ⟨nd, rfl⟩⟩; refine ⟨_, rfl, ?_⟩) | ((with_reducible refine gate_callee (f := 36) rfl ?_); refine goesL_ (some 8) rfl rfl Tryz.func36 (by kernel_rfl) rfl #[.int .i64 a0, .int .i64 128, .int .i64 2047] rfl zC ?_; (with_reducible refine (spec_l1In.calls a0 128 2047 false _ A4.out).mono ?_); rintro e w' ⟨rfl, ⟨nd, rfl⟩⟩; refine ⟨_, rfl, ?_⟩) | ((with_reducible refine gate_callee (f := 36) rfl ?_); refine goesL_ (some 11) rfl rfl Tryz.func36 (by kernel_rfl) rfl #[.int .i64 a0, .int .i64 55296, .int .i64 57343] rfl zC ?_; (with_reducible refine (spec_l1In.calls a0 55296 57343 false _ A6.out).mono ?_); rintro e w' ⟨rfl, ⟨nd, rfl⟩⟩; refine ⟨_, rfl, ?_⟩) | ((with_reducible refine gate_callee (f := 36) rfl ?_); refine goesL_ (some 14) rfl rfl Tryz.func36 (by kernel_rfl) rfl #[.int .i64 a0, .int .i64 2048, .int .i64 65535] rfl zC ?_; (with_reducible refine (spec_l1In.calls a0 2048 65535 false _ A8.out).mono ?_); rintro e w' ⟨rfl, ⟨nd, rfl⟩⟩; refine ⟨_, rfl, ?_⟩) | ((with_reducible refine gate_callee (f := 36) rfl ?_); refine goesL_ (some 17) rfl rfl Tryz.func36 (by kernel_rfl) rfl #[.int .i64 a0, .int .i64 65536, .int .i64 1114111] rfl zC ?_; (with_reducible refine (spec_l1In.calls a0 65536 1114111 false _ A10.out).mono ?_); rintro e w' ⟨rfl, ⟨nd, rfl⟩⟩; refine ⟨_, rfl, ?_⟩)); go_ret; exact ⟨zB, zD⟩
def spec_l1Ok.l0 : Nat → List Int → Int → Option (Bool)
 | 0, _, _ => none
 | k + 1, x0, x3 => if x3 < (x0.length : Int) then (if 0 ≤ x3 then ((spec_l1Size.f (rd x0 x3)).bind fun t107 => (if t107 = 0 then (some false) else (spec_l1Ok.l0 k x0 (wrap64 (x3 + 1))))) else (none)) else (some (decide ((x0.length : Int) ≤ 80)))
def spec_l1Ok.f (k : Nat) (l0 : List Int) : Option (Bool) := spec_l1Ok.l0 k l0 0
theorem spec_l1Ok.mono_l : ∀ k, (∀ y0 y1, LeO (spec_l1Ok.l0 k y0 y1) (spec_l1Ok.l0 (k + 1) y0 y1))
 | 0 => fun _ _ r h => by simp [spec_l1Ok.l0] at h
 | k + 1 => by
  have ih0 := spec_l1Ok.mono_l k
  ·
   intro y0 y1; unfold spec_l1Ok.l0
   repeat' first
   | (with_reducible exact ih0 _ _)
   | (with_reducible exact LeO.refl _)
   | (with_reducible exact LeO.none _)
   | (with_reducible refine LeO.ite ?_ ?_)
   | (with_reducible refine LeO.bind ?_ (fun _ => ?_))
   | exact ih0 _ _
   | exact LeO.none _
   | refine LeO.ite ?_ ?_
   | refine LeO.bind ?_ (fun _ => ?_)
theorem spec_l1Ok.mono : ∀ a0 k, LeO (spec_l1Ok.f k a0) (spec_l1Ok.f (k + 1) a0) := by
 intro a0 k; have ih0 := spec_l1Ok.mono_l k; unfold spec_l1Ok.f
 repeat' first
   | (with_reducible exact ih0 _ _)
   | (with_reducible exact LeO.refl _)
   | (with_reducible exact LeO.none _)
   | (with_reducible refine LeO.ite ?_ ?_)
   | (with_reducible refine LeO.bind ?_ (fun _ => ?_))
   | exact ih0 _ _
   | exact LeO.none _
   | refine LeO.ite ?_ ?_
   | refine LeO.bind ?_ (fun _ => ?_)
theorem spec_l1Ok.calls (k : Nat) (A0 : Option Addr) (c0 : Nat) (l0 : List Int) (r : Bool) (w : World) (hr0 : Kd.C (Kd.int .i64) w A0 l0.length l0) (hc0 : l0.length ≤ c0) (h : spec_l1Ok.f k l0 = some r) :
  Calls Tryz.prog 68 #[.slice A0 l0.length c0] w fun e w' => e = .returned (.bool r) ∧ Drawn0 w w' := by
 have HR0 := az hr0; have HC0 := az hc0; clear hr0 hc0; have H : (spec_l1Ok.l0 k l0 0) = some r := h; clear h; have H' := az H; clear H; go_enter Tryz.func68, Tryz.ntmps68; go_wp2; go_loopg [3] k (fun kq v3 w' => ∃ (x3_1 : Int), v3 = .int .i64 x3_1 ∧ Aside0 (spec_l1Ok.l0 kq l0 x3_1 = some r) ∧ Aside0 (kq ≤ k) ∧ Drawn0 w w')
 case atStart => exact ⟨(0), zB, H', ⟨Nat.le_refl _⟩, zD⟩
 case round =>
  clear H'; obtain ⟨x3_1, rfl, HA, HK1, ⟨m1, rfl⟩⟩ := hrel
  cases gk with
  | zero => exact absurd HA.out (by simp [spec_l1Ok.l0])
  | succ k1 =>
   have H := HA.out; clear HA; simp only [spec_l1Ok.l0] at H; by_cases c2 : x3_1 < (l0.length : Int)
   ·
    rw [if_pos c2] at H; have c2b0 : decide (x3_1 < (l0.length : Int)) = true := decide_eq_true c2; clear c2; by_cases c3 : 0 ≤ x3_1
    ·
     rw [if_pos c3] at H; have c3b0 : decide (0 ≤ x3_1) = true := decide_eq_true c3; clear c3; replace H := Option.bind_eq_some_iff.mp H; obtain ⟨t107, A40, H⟩ := H; replace H : (if t107 = 0 then (some false) else (spec_l1Ok.l0 k1 l0 (wrap64 (x3_1 + 1)))) = some r := H; have A4 := az A40; clear A40; by_cases c5 : t107 = 0
     ·
      rw [if_pos c5] at H; have c5b0 : (t107 == 0) = true := beq_iff_eq.mpr c5; have c5b1 : (t107 != 0) = false := bne_eq_false_iff_eq.mpr c5; clear c5; obtain rfl := Option.some.inj H; have p106 : 0 ≤ (x3_1 : Int) := of_decide_eq_true (by assumption); have q106 : x3_1 < (l0.length : Int) := of_decide_eq_true (by assumption); obtain ⟨ad106, e106, hx106_0⟩ := Kd.at_int HR0.out x3_1 p106 q106
      cases e106
      replace p106 := eq_true p106; replace q106 := eq_true q106; go_wp2_with (first | ((with_reducible refine gate_callee (f := 95) rfl ?_); refine goesL_ (some 14) rfl rfl Tryz.func95 (by kernel_rfl) rfl #[.int .i64 (rd l0 x3_1)] rfl zC ?_; (with_reducible refine (spec_l1Size.calls (rd l0 x3_1) t107 _ A4.out).mono ?_); rintro e w' ⟨rfl, ⟨nd, rfl⟩⟩; refine ⟨_, rfl, ?_⟩)); go_ret; exact ⟨zB, zD⟩
     ·
      rw [if_neg c5] at H; have c5b0 : (t107 == 0) = false := beq_eq_false_iff_ne.mpr c5; have c5b1 : (t107 != 0) = true := bne_iff_ne.mpr c5; have H' := az H; clear H; have p106 : 0 ≤ (x3_1 : Int) := of_decide_eq_true (by assumption); have q106 : x3_1 < (l0.length : Int) := of_decide_eq_true (by assumption); obtain ⟨ad106, e106, hx106_0⟩ := Kd.at_int HR0.out x3_1 p106 q106
      cases e106
      replace p106 := eq_true p106; replace q106 := eq_true q106; go_wp2_with (first | ((with_reducible refine gate_callee (f := 95) rfl ?_); refine goesL_ (some 14) rfl rfl Tryz.func95 (by kernel_rfl) rfl #[.int .i64 (rd l0 x3_1)] rfl zC ?_; (with_reducible refine (spec_l1Size.calls (rd l0 x3_1) t107 _ A4.out).mono ?_); rintro e w' ⟨rfl, ⟨nd, rfl⟩⟩; refine ⟨_, rfl, ?_⟩)); go_roundg k1
      case measure => have := HK1.out; omega
      case rel => exact ⟨(wrap64 (x3_1 + 1)), zB, H', ⟨zE HK1.out⟩, zD⟩
    ·
     rw [if_neg c3] at H; exact absurd H (by simp)
   ·
    rw [if_neg c2] at H; have c2b0 : decide (x3_1 < (l0.length : Int)) = false := decide_eq_false c2; clear c2; obtain rfl := Option.some.inj H; go_wp2; go_ret; exact ⟨zB, zD⟩
def spec_l7All.f (k : Nat) (l0 : List Int) (l1 : List (S50)) (a2 : Int) : Option (Bool) := (spec_l1Ok.f k l0).bind fun t113 => (if t113 = true then ((spec_SpansOk.f k l1 (l0.length : Int)).bind fun t114 => (if t114 = true then ((spec_l1In.f a2 0 20000).bind fun t115 => (some t115)) else (some false))) else (some false))
theorem spec_l7All.mono : ∀ a0 a1 a2 k, LeO (spec_l7All.f k a0 a1 a2) (spec_l7All.f (k + 1) a0 a1 a2) := by
 intro a0 a1 a2 k; unfold spec_l7All.f
 repeat' first
   | (with_reducible exact spec_SpansOk.mono _ _ _)
   | (with_reducible exact spec_l1Ok.mono _ _)
   | (with_reducible exact LeO.refl _)
   | (with_reducible exact LeO.none _)
   | (with_reducible refine LeO.ite ?_ ?_)
   | (with_reducible refine LeO.bind ?_ (fun _ => ?_))
   | exact spec_SpansOk.mono _ _ _
   | exact spec_l1Ok.mono _ _
   | exact LeO.none _
   | refine LeO.ite ?_ ?_
   | refine LeO.bind ?_ (fun _ => ?_)
theorem spec_l7All.calls (k : Nat) (A0 : Option Addr) (c0 : Nat) (l0 : List Int) (A1 : Option Addr) (c1 : Nat) (l1 : List (S50)) (a2 : Int) (r : Bool) (w : World) (hr0 : Kd.C (Kd.int .i64) w A0 l0.length l0) (hc0 : l0.length ≤ c0) (hr1 : Kd.C k50 w A1 l1.length l1) (hc1 : l1.length ≤ c1) (h : spec_l7All.f k l0 l1 a2 = some r) :
  Calls Tryz.prog 35 #[.slice A0 l0.length c0, .slice A1 l1.length c1, .int .i64 a2] w fun e w' => e = .returned (.bool r) ∧ Below w.heap.size w w' := by
 have HR0 := az hr0; have HC0 := az hc0; clear hr0 hc0; have HR1 := az hr1; have HC1 := az hc1; clear hr1 hc1; have HB := az (Below.refl w.heap.size w); have H : ((spec_l1Ok.f k l0).bind fun t113 => (if t113 = true then ((spec_SpansOk.f k l1 (l0.length : Int)).bind fun t114 => (if t114 = true then ((spec_l1In.f a2 0 20000).bind fun t115 => (some t115)) else (some false))) else (some false))) = some r := h; clear h; replace H := Option.bind_eq_some_iff.mp H; obtain ⟨t113, A40, H⟩ := H; replace H : (if t113 = true then ((spec_SpansOk.f k l1 (l0.length : Int)).bind fun t114 => (if t114 = true then ((spec_l1In.f a2 0 20000).bind fun t115 => (some t115)) else (some false))) else (some false)) = some r := H; have A4 := az A40; clear A40; by_cases c5 : t113 = true
 ·
  subst c5; have H1 : ((spec_SpansOk.f k l1 (l0.length : Int)).bind fun t114 => (if t114 = true then ((spec_l1In.f a2 0 20000).bind fun t115 => (some t115)) else (some false))) = some r := by rw [if_pos rfl] at H; exact H
  clear H; have H := H1; clear H1; replace H := Option.bind_eq_some_iff.mp H; obtain ⟨t114, A60, H⟩ := H; replace H : (if t114 = true then ((spec_l1In.f a2 0 20000).bind fun t115 => (some t115)) else (some false)) = some r := H; have A6 := az A60; clear A60; by_cases c7 : t114 = true
  ·
   subst c7; have H1 : ((spec_l1In.f a2 0 20000).bind fun t115 => (some t115)) = some r := by rw [if_pos rfl] at H; exact H
   clear H; have H := H1; clear H1; replace H := Option.bind_eq_some_iff.mp H; obtain ⟨t115, A80, H⟩ := H; replace H : (some t115) = some r := H; have A8 := az A80; clear A80; obtain rfl := Option.some.inj H; go_enter Tryz.func35, Tryz.ntmps35; go_wp2_with (first | ((with_reducible refine gate_callee (f := 68) rfl ?_); refine goesL_ (some 8) rfl rfl Tryz.func68 (by kernel_rfl) rfl #[.slice A0 l0.length c0] rfl zC ?_; (with_reducible refine (spec_l1Ok.calls k _ _ l0 true _ ?side1 ?side2 A4.out).mono ?_); (case side1 => exact (zN HR0.out)); (case side2 => exact HC0.out); rintro e w' ⟨rfl, ⟨nd, rfl⟩⟩; refine ⟨_, rfl, ?_⟩) | (go_at_call 69; (with_reducible refine (spec_SpansOk.calls k _ _ l1 (l0.length : Int) true _ ?side1 ?side2 A6.out).mono ?_); (case side1 => exact (zN HR1.out)); (case side2 => exact HC1.out); rintro e w9 ⟨rfl, hb⟩; have n0_ := az (below_step (zA HB.out) hb); clear HB; have HB := n0_; clear n0_; (try clear hb); (try clear hb2); (try clear hk); (try clear hi)) | (go_at_call 36; (with_reducible refine (spec_l1In.calls a2 0 20000 t115 _ A8.out).mono ?_); rintro e w' ⟨rfl, ⟨nd, rfl⟩⟩)); go_ret; exact ⟨zG, zA HB.out⟩
  ·
   replace c7 := Bool.eq_false_iff.mpr c7; subst c7; have H1 : (some false) = some r := by rw [if_neg (show ¬ (false = true) by decide)] at H; exact H
   clear H; have H := H1; clear H1; obtain rfl := Option.some.inj H; go_enter Tryz.func35, Tryz.ntmps35; go_wp2_with (first | ((with_reducible refine gate_callee (f := 68) rfl ?_); refine goesL_ (some 8) rfl rfl Tryz.func68 (by kernel_rfl) rfl #[.slice A0 l0.length c0] rfl zC ?_; (with_reducible refine (spec_l1Ok.calls k _ _ l0 true _ ?side1 ?side2 A4.out).mono ?_); (case side1 => exact (zN HR0.out)); (case side2 => exact HC0.out); rintro e w' ⟨rfl, ⟨nd, rfl⟩⟩; refine ⟨_, rfl, ?_⟩) | (go_at_call 69; (with_reducible refine (spec_SpansOk.calls k _ _ l1 (l0.length : Int) false _ ?side1 ?side2 A6.out).mono ?_); (case side1 => exact (zN HR1.out)); (case side2 => exact HC1.out); rintro e w10 ⟨rfl, hb⟩; have n0_ := az (below_step (zA HB.out) hb); clear HB; have HB := n0_; clear n0_; (try clear hb); (try clear hb2); (try clear hk); (try clear hi))); go_ret; exact ⟨zG, zA HB.out⟩
 ·
  replace c5 := Bool.eq_false_iff.mpr c5; subst c5; have H1 : (some false) = some r := by rw [if_neg (show ¬ (false = true) by decide)] at H; exact H
  clear H; have H := H1; clear H1; obtain rfl := Option.some.inj H; go_enter Tryz.func35, Tryz.ntmps35; go_wp2_with (first | ((with_reducible refine gate_callee (f := 68) rfl ?_); refine goesL_ (some 8) rfl rfl Tryz.func68 (by kernel_rfl) rfl #[.slice A0 l0.length c0] rfl zC ?_; (with_reducible refine (spec_l1Ok.calls k _ _ l0 false _ ?side1 ?side2 A4.out).mono ?_); (case side1 => exact (zN HR0.out)); (case side2 => exact HC0.out); rintro e w' ⟨rfl, ⟨nd, rfl⟩⟩; refine ⟨_, rfl, ?_⟩)); go_ret; exact ⟨zG, zA HB.out⟩
def spec_l1Moves.l0 : Nat → Int → List Int → Int → Option (Int)
 | 0, _, _, _ => none
 | k + 1, x0, x3, x4 => if x4 < (x3.length : Int) then (if 0 ≤ x4 then (if (rd x3 x4) = x0 then (some (wrap64 (14 + x4))) else (spec_l1Moves.l0 k x0 x3 (wrap64 (x4 + 1)))) else (none)) else (some 13)
def spec_l1Moves.f (k : Nat) (a0 : Int) : Option (Int) := spec_l1Moves.l0 k a0 (([8234, 8235, 8236, 8237, 8238, 8294, 8295, 8296, 8297] : List Int)) 0
theorem spec_l1Moves.mono_l : ∀ k, (∀ y0 y1 y2, LeO (spec_l1Moves.l0 k y0 y1 y2) (spec_l1Moves.l0 (k + 1) y0 y1 y2))
 | 0 => fun _ _ _ r h => by simp [spec_l1Moves.l0] at h
 | k + 1 => by
  have ih0 := spec_l1Moves.mono_l k
  ·
   intro y0 y1 y2; unfold spec_l1Moves.l0
   repeat' first
   | (with_reducible exact ih0 _ _ _)
   | (with_reducible exact LeO.refl _)
   | (with_reducible exact LeO.none _)
   | (with_reducible refine LeO.ite ?_ ?_)
   | (with_reducible refine LeO.bind ?_ (fun _ => ?_))
   | exact ih0 _ _ _
   | exact LeO.none _
   | refine LeO.ite ?_ ?_
   | refine LeO.bind ?_ (fun _ => ?_)
theorem spec_l1Moves.mono : ∀ a0 k, LeO (spec_l1Moves.f k a0) (spec_l1Moves.f (k + 1) a0) := by
 intro a0 k; have ih0 := spec_l1Moves.mono_l k; unfold spec_l1Moves.f
 repeat' first
   | (with_reducible exact ih0 _ _ _)
   | (with_reducible exact LeO.refl _)
   | (with_reducible exact LeO.none _)
   | (with_reducible refine LeO.ite ?_ ?_)
   | (with_reducible refine LeO.bind ?_ (fun _ => ?_))
   | exact ih0 _ _ _
   | exact LeO.none _
   | refine LeO.ite ?_ ?_
   | refine LeO.bind ?_ (fun _ => ?_)
theorem spec_l1Moves.calls (k : Nat) (a0 : Int) (r : Int) (w : World) (h : spec_l1Moves.f k a0 = some r) :
  Calls Tryz.prog 146 #[.int .i64 a0] w fun e w' => e = .returned (.int .i64 r) ∧ Below w.heap.size w w' := by
 have HB := az (Below.refl w.heap.size w); have H : (spec_l1Moves.l0 k a0 (([8234, 8235, 8236, 8237, 8238, 8294, 8295, 8296, 8297] : List Int)) 0) = some r := h; clear h; obtain ⟨y116, hy116⟩ : ∃ y_ : List Int, y_ = (([8234, 8235, 8236, 8237, 8238, 8294, 8295, 8296, 8297] : List Int)) := ⟨_, rfl⟩; replace H : (spec_l1Moves.l0 k a0 y116 0) = some r := by first | (rw [hy116]; with_reducible exact H) | (have H2_ := (Option.bind_some _ _).symm.trans H; rw [hy116]; with_reducible exact H2_) | (have H2_ := (Option.bind_some _ _).symm.trans H; with_reducible exact H2_) | with_reducible exact H | (rw [hy116]; exact H) | exact H
 have Ny116 := az hy116; clear hy116; have H' := az H; clear H; go_enter Tryz.func146, Tryz.ntmps146; go_wp2_with (first | ((with_reducible refine gate_dst (N := 5) rfl ?_); refine Kd.R_lit (Kd.int .i64) _ 3 ?hg (N := 5) ?hd (xs := ([8234, 8235, 8236, 8237, 8238, 8294, 8295, 8296, 8297] : List Int)) (inner := [.int .i64 8234, .int .i64 8235, .int .i64 8236, .int .i64 8237, .int .i64 8238, .int .i64 8294, .int .i64 8295, .int .i64 8296, .int .i64 8297]) (ok := fun _ => True) (okp := fun _ => True) ?hr ?hp (fun _ hk => hk) trivial (Below.refl _ _) (Nat.le_refl _) (by simp) ?_; (case hd => rfl); (case hg => rfl); (case hr => first | (go_simp; done) | (go_simp; rfl)); (case hp => exact (Reps.one (show Kd.M (Kd.int .i64) _ _ _ 8234 [.int .i64 8234] from rfl) (Reps.one (show Kd.M (Kd.int .i64) _ _ _ 8235 [.int .i64 8235] from rfl) (Reps.one (show Kd.M (Kd.int .i64) _ _ _ 8236 [.int .i64 8236] from rfl) (Reps.one (show Kd.M (Kd.int .i64) _ _ _ 8237 [.int .i64 8237] from rfl) (Reps.one (show Kd.M (Kd.int .i64) _ _ _ 8238 [.int .i64 8238] from rfl) (Reps.one (show Kd.M (Kd.int .i64) _ _ _ 8294 [.int .i64 8294] from rfl) (Reps.one (show Kd.M (Kd.int .i64) _ _ _ 8295 [.int .i64 8295] from rfl) (Reps.one (show Kd.M (Kd.int .i64) _ _ _ 8296 [.int .i64 8296] from rfl) (Reps.one (show Kd.M (Kd.int .i64) _ _ _ 8297 [.int .i64 8297] from rfl) (Reps.none _ _))))))))))); intro v117 w2 ho3 hb hg_ hnew_; clear hg_ hnew_; (first | rw [← Ny116.out] at ho3 | (simp only [Int.reduceToNat] at ho3; rw [← Ny116.out] at ho3)); have n0_ := az (Kd.R_lower ho3 (below_size (zA HB.out))); have n1_ := az (below_step (zA HB.out) hb); clear HB; have HO118 := n0_; have HB := n1_; clear n0_ n1_; clear hb ho3)); go_loopg [4] k (fun kq v4 w' => ∃ (x4_1 : Int), v4 = .int .i64 x4_1 ∧ Aside0 (spec_l1Moves.l0 kq a0 y116 x4_1 = some r) ∧ Aside0 (kq ≤ k) ∧ Aside0 (Kd.R (Kd.int .i64) 3 w' w.heap.size (fun _ => True) v117 y116) ∧ Aside0 (Below w.heap.size w w'))
 case atStart => exact ⟨(0), zB, H', ⟨Nat.le_refl _⟩, ⟨zF HO118.out⟩, ⟨zA HB.out⟩⟩
 case round =>
  clear H'; (try clear c1); (try clear p2); obtain ⟨x4_1, rfl, HA, HK1, HO_3, HB⟩ := hrel
  cases gk with
  | zero => exact absurd HA.out (by simp [spec_l1Moves.l0])
  | succ k1 =>
   have H := HA.out; clear HA; simp only [spec_l1Moves.l0] at H; by_cases c4 : x4_1 < (y116.length : Int)
   ·
    rw [if_pos c4] at H; have c4b0 : decide (x4_1 < (y116.length : Int)) = true := decide_eq_true c4; clear c4; by_cases c5 : 0 ≤ x4_1
    ·
     rw [if_pos c5] at H; have c5b0 : decide (0 ≤ x4_1) = true := decide_eq_true c5; clear c5; by_cases c6 : (rd y116 x4_1) = a0
     ·
      rw [if_pos c6] at H; have c6b0 : ((rd y116 x4_1) == a0) = true := beq_iff_eq.mpr c6; have c6b1 : ((rd y116 x4_1) != a0) = false := bne_eq_false_iff_eq.mpr c6; clear c6; obtain rfl := Option.some.inj H; obtain ⟨Ao7, co7, eo7⟩ := Kd.R_slice HO_3.out; subst eo7; have p119 : 0 ≤ (x4_1 : Int) := of_decide_eq_true (by assumption); have q119 : x4_1 < (y116.length : Int) := of_decide_eq_true (by assumption); obtain ⟨ad119, e119, hx119_0⟩ := Kd.at_int (Kd.R_reads' HO_3.out).2.2 x4_1 p119 q119
      cases e119
      replace p119 := eq_true p119; replace q119 := eq_true q119; go_wp2; go_ret; exact ⟨zG, zA HB.out⟩
     ·
      rw [if_neg c6] at H; have c6b0 : ((rd y116 x4_1) == a0) = false := beq_eq_false_iff_ne.mpr c6; have c6b1 : ((rd y116 x4_1) != a0) = true := bne_iff_ne.mpr c6; have H' := az H; clear H; obtain ⟨Ao8, co8, eo8⟩ := Kd.R_slice HO_3.out; subst eo8; have p119 : 0 ≤ (x4_1 : Int) := of_decide_eq_true (by assumption); have q119 : x4_1 < (y116.length : Int) := of_decide_eq_true (by assumption); obtain ⟨ad119, e119, hx119_0⟩ := Kd.at_int (Kd.R_reads' HO_3.out).2.2 x4_1 p119 q119
      cases e119
      replace p119 := eq_true p119; replace q119 := eq_true q119; go_wp2; go_roundg k1
      case measure => have := HK1.out; omega
      case rel => exact ⟨(wrap64 (x4_1 + 1)), zB, H', ⟨zE HK1.out⟩, ⟨zF HO_3.out⟩, ⟨zA HB.out⟩⟩
    ·
     rw [if_neg c5] at H; exact absurd H (by simp)
   ·
    rw [if_neg c4] at H; have c4b0 : decide (x4_1 < (y116.length : Int)) = false := decide_eq_false c4; clear c4; obtain rfl := Option.some.inj H; obtain ⟨Ao9, co9, eo9⟩ := Kd.R_slice HO_3.out; subst eo9; go_wp2; go_ret; exact ⟨zG, zA HB.out⟩
mutual
def spec_l1Signs.j0 : Nat → Int → Bool → Option (Int)
 | 0, _, _ => none
 | k + 1, x0, x3 => if x3 = true then (some 5) else ((spec_l1In.f x0 35 37).bind fun t120 => (if t120 = true then (some 6) else (if x0 = 44 then (spec_l1Signs.j1 k x0 true) else (if x0 = 46 then (spec_l1Signs.j1 k x0 true) else (if x0 = 47 then (spec_l1Signs.j1 k x0 true) else (spec_l1Signs.j1 k x0 (x0 == 58)))))))
def spec_l1Signs.j1 : Nat → Int → Bool → Option (Int)
 | 0, _, _ => none
 | k + 1, x0, x13 => if x13 = true then (some 8) else ((spec_l1In.f x0 768 879).bind fun t121 => (if t121 = true then (some 9) else (if x0 = 8203 then (spec_l1Signs.j2 k x0 true) else (if x0 = 8205 then (spec_l1Signs.j2 k x0 true) else (spec_l1Signs.j2 k x0 (x0 == 173))))))
def spec_l1Signs.j2 : Nat → Int → Bool → Option (Int)
 | 0, _, _ => none
 | k + 1, x0, x31 => if x31 = true then (some 10) else (if x0 = 9 then (some 11) else (if x0 = 32 then (some 12) else ((spec_l1Moves.f k x0).bind fun t122 => (some t122))))
end
def spec_l1Signs.f (k : Nat) (a0 : Int) : Option (Int) := if a0 = 43 then (spec_l1Signs.j0 k a0 true) else (spec_l1Signs.j0 k a0 (a0 == 45))
theorem spec_l1Signs.mono_l : ∀ k, (∀ y0 y1, LeO (spec_l1Signs.j0 k y0 y1) (spec_l1Signs.j0 (k + 1) y0 y1)) ∧ (∀ y0 y1, LeO (spec_l1Signs.j1 k y0 y1) (spec_l1Signs.j1 (k + 1) y0 y1)) ∧ (∀ y0 y1, LeO (spec_l1Signs.j2 k y0 y1) (spec_l1Signs.j2 (k + 1) y0 y1))
 | 0 => ⟨fun _ _ r h => by simp [spec_l1Signs.j0] at h, fun _ _ r h => by simp [spec_l1Signs.j1] at h, fun _ _ r h => by simp [spec_l1Signs.j2] at h⟩
 | k + 1 => by
  obtain ⟨ih0, ih1, ih2⟩ := spec_l1Signs.mono_l k; refine ⟨?_, ?_, ?_⟩
  ·
   intro y0 y1; unfold spec_l1Signs.j0
   repeat' first
   | (with_reducible exact ih0 _ _)
   | (with_reducible exact ih1 _ _)
   | (with_reducible exact ih2 _ _)
   | (with_reducible exact spec_l1Moves.mono _ _)
   | (with_reducible exact LeO.refl _)
   | (with_reducible exact LeO.none _)
   | (with_reducible refine LeO.ite ?_ ?_)
   | (with_reducible refine LeO.bind ?_ (fun _ => ?_))
   | exact ih0 _ _
   | exact ih1 _ _
   | exact ih2 _ _
   | exact spec_l1Moves.mono _ _
   | exact LeO.none _
   | refine LeO.ite ?_ ?_
   | refine LeO.bind ?_ (fun _ => ?_)
  ·
   intro y0 y1; unfold spec_l1Signs.j1
   repeat' first
   | (with_reducible exact ih0 _ _)
   | (with_reducible exact ih1 _ _)
   | (with_reducible exact ih2 _ _)
   | (with_reducible exact spec_l1Moves.mono _ _)
   | (with_reducible exact LeO.refl _)
   | (with_reducible exact LeO.none _)
   | (with_reducible refine LeO.ite ?_ ?_)
   | (with_reducible refine LeO.bind ?_ (fun _ => ?_))
   | exact ih0 _ _
   | exact ih1 _ _
   | exact ih2 _ _
   | exact spec_l1Moves.mono _ _
   | exact LeO.none _
   | refine LeO.ite ?_ ?_
   | refine LeO.bind ?_ (fun _ => ?_)
  ·
   intro y0 y1; unfold spec_l1Signs.j2
   repeat' first
   | (with_reducible exact ih0 _ _)
   | (with_reducible exact ih1 _ _)
   | (with_reducible exact ih2 _ _)
   | (with_reducible exact spec_l1Moves.mono _ _)
   | (with_reducible exact LeO.refl _)
   | (with_reducible exact LeO.none _)
   | (with_reducible refine LeO.ite ?_ ?_)
   | (with_reducible refine LeO.bind ?_ (fun _ => ?_))
   | exact ih0 _ _
   | exact ih1 _ _
   | exact ih2 _ _
   | exact spec_l1Moves.mono _ _
   | exact LeO.none _
   | refine LeO.ite ?_ ?_
   | refine LeO.bind ?_ (fun _ => ?_)
theorem spec_l1Signs.mono : ∀ a0 k, LeO (spec_l1Signs.f k a0) (spec_l1Signs.f (k + 1) a0) := by
 intro a0 k; obtain ⟨ih0, ih1, ih2⟩ := spec_l1Signs.mono_l k; unfold spec_l1Signs.f
 repeat' first
   | (with_reducible exact ih0 _ _)
   | (with_reducible exact ih1 _ _)
   | (with_reducible exact ih2 _ _)
   | (with_reducible exact spec_l1Moves.mono _ _)
   | (with_reducible exact LeO.refl _)
   | (with_reducible exact LeO.none _)
   | (with_reducible refine LeO.ite ?_ ?_)
   | (with_reducible refine LeO.bind ?_ (fun _ => ?_))
   | exact ih0 _ _
   | exact ih1 _ _
   | exact ih2 _ _
   | exact spec_l1Moves.mono _ _
   | exact LeO.none _
   | refine LeO.ite ?_ ?_
   | refine LeO.bind ?_ (fun _ => ?_)
theorem spec_l1Signs.calls (k : Nat) (a0 : Int) (r : Int) (w : World) (h : spec_l1Signs.f k a0 = some r) :
  Calls Tryz.prog 144 #[.int .i64 a0] w fun e w' => e = .returned (.int .i64 r) ∧ Below w.heap.size w w' := by
 have HB := az (Below.refl w.heap.size w); have H : (if a0 = 43 then (spec_l1Signs.j0 k a0 true) else (spec_l1Signs.j0 k a0 (a0 == 45))) = some r := h; clear h; have HC2 := az H; clear H; go_enter Tryz.func144, Tryz.ntmps144; go_upto_region 1 with (fail)
 go_cut [3] (fun v3 wc => ∃ (kq : Nat) (x3_1 : Bool), v3 = .bool x3_1 ∧ Aside0 (spec_l1Signs.j0 kq a0 x3_1 = some r) ∧ Aside0 (kq ≤ k) ∧ Aside0 (Below w.heap.size w wc))
 case first =>
  have H := HC2.out; clear HC2; by_cases c3 : a0 = 43
  ·
   rw [if_pos c3] at H; have c3b0 : (a0 == 43) = true := beq_iff_eq.mpr c3; have c3b1 : (a0 != 43) = false := bne_eq_false_iff_eq.mpr c3; clear c3; (first | rw [c3b0] | (simp only [i64_w, i32_w]; rw [c3b0]) | skip); have H' := az H; clear H; go_wp2; go_meet
   case rel => exact ⟨_, (true), zB, H', ⟨zI⟩, ⟨zA HB.out⟩⟩
  ·
   rw [if_neg c3] at H; have c3b0 : (a0 == 43) = false := beq_eq_false_iff_ne.mpr c3; have c3b1 : (a0 != 43) = true := bne_iff_ne.mpr c3; (first | rw [c3b0] | (simp only [i64_w, i32_w]; rw [c3b0]) | skip); have H' := az H; clear H; go_wp2; go_meet
   case rel => exact ⟨_, ((a0 == 45)), zB, H', ⟨zI⟩, ⟨zA HB.out⟩⟩
 case rest =>
  clear HC2; (try clear c1); (try clear p2); (try clear c3); (try clear c3b0); (try clear c3b1); obtain ⟨kq, x3_1, rfl, HA, HJ1, HB⟩ := hcut
  cases kq with
  | zero => exact absurd HA.out (by simp [spec_l1Signs.j0])
  | succ kj1 =>
   have H := HA.out; clear HA; simp only [spec_l1Signs.j0] at H; by_cases c4 : x3_1 = true
   ·
    subst c4; have H1 : (some 5) = some r := by rw [if_pos rfl] at H; exact H
    clear H; have H := H1; clear H1; obtain rfl := Option.some.inj H; go_wp2; go_ret; exact ⟨zG, zA HB.out⟩
   ·
    replace c4 := Bool.eq_false_iff.mpr c4; subst c4; have H1 : ((spec_l1In.f a0 35 37).bind fun t120 => (if t120 = true then (some 6) else (if a0 = 44 then (spec_l1Signs.j1 kj1 a0 true) else (if a0 = 46 then (spec_l1Signs.j1 kj1 a0 true) else (if a0 = 47 then (spec_l1Signs.j1 kj1 a0 true) else (spec_l1Signs.j1 kj1 a0 (a0 == 58))))))) = some r := by rw [if_neg (show ¬ (false = true) by decide)] at H; exact H
    clear H; have H := H1; clear H1; replace H := Option.bind_eq_some_iff.mp H; obtain ⟨t120, A50, H⟩ := H; replace H : (if t120 = true then (some 6) else (if a0 = 44 then (spec_l1Signs.j1 kj1 a0 true) else (if a0 = 46 then (spec_l1Signs.j1 kj1 a0 true) else (if a0 = 47 then (spec_l1Signs.j1 kj1 a0 true) else (spec_l1Signs.j1 kj1 a0 (a0 == 58)))))) = some r := H; have A5 := az A50; clear A50; by_cases c6 : t120 = true
    ·
     subst c6; have H1 : (some 6) = some r := by rw [if_pos rfl] at H; exact H
     clear H; have H := H1; clear H1; obtain rfl := Option.some.inj H; go_wp2_with (first | ((with_reducible refine gate_callee (f := 36) rfl ?_); refine goesL_ (some 12) rfl rfl Tryz.func36 (by kernel_rfl) rfl #[.int .i64 a0, .int .i64 35, .int .i64 37] rfl zC ?_; (with_reducible refine (spec_l1In.calls a0 35 37 true _ A5.out).mono ?_); rintro e w' ⟨rfl, ⟨nd, rfl⟩⟩; refine ⟨_, rfl, ?_⟩)); go_ret; exact ⟨zG, zA HB.out⟩
    ·
     replace c6 := Bool.eq_false_iff.mpr c6; subst c6; have H1 : (if a0 = 44 then (spec_l1Signs.j1 kj1 a0 true) else (if a0 = 46 then (spec_l1Signs.j1 kj1 a0 true) else (if a0 = 47 then (spec_l1Signs.j1 kj1 a0 true) else (spec_l1Signs.j1 kj1 a0 (a0 == 58))))) = some r := by rw [if_neg (show ¬ (false = true) by decide)] at H; exact H
     clear H; have H := H1; clear H1; have HC7 := az H; clear H; go_upto_region 5 with (first | ((with_reducible refine gate_callee (f := 36) rfl ?_); refine goesL_ (some 12) rfl rfl Tryz.func36 (by kernel_rfl) rfl #[.int .i64 a0, .int .i64 35, .int .i64 37] rfl zC ?_; (with_reducible refine (spec_l1In.calls a0 35 37 false _ A5.out).mono ?_); rintro e w' ⟨rfl, ⟨nd, rfl⟩⟩; refine ⟨_, rfl, ?_⟩))
     (try simp only [Act.put, List.setIfInBounds_toArray, List.set_cons_zero, List.set_cons_succ]); go_cut [13] (fun v13 wc => ∃ (kq : Nat) (x13_6 : Bool), v13 = .bool x13_6 ∧ Aside0 (spec_l1Signs.j1 kq a0 x13_6 = some r) ∧ Aside0 (kq ≤ kj1) ∧ Aside0 (Below w.heap.size w wc))
     case first =>
      have H := HC7.out; clear HC7; by_cases c8 : a0 = 44
      ·
       rw [if_pos c8] at H; have c8b0 : (a0 == 44) = true := beq_iff_eq.mpr c8; have c8b1 : (a0 != 44) = false := bne_eq_false_iff_eq.mpr c8; clear c8; (first | rw [c8b0] | (simp only [i64_w, i32_w]; rw [c8b0]) | skip); have H' := az H; clear H; go_wp2; go_meet
       case rel => exact ⟨_, (true), zB, H', ⟨zJ HJ1.out⟩, ⟨zA HB.out⟩⟩
      ·
       rw [if_neg c8] at H; have c8b0 : (a0 == 44) = false := beq_eq_false_iff_ne.mpr c8; have c8b1 : (a0 != 44) = true := bne_iff_ne.mpr c8; (first | rw [c8b0] | (simp only [i64_w, i32_w]; rw [c8b0]) | skip); by_cases c9 : a0 = 46
       ·
        rw [if_pos c9] at H; have c9b0 : (a0 == 46) = true := beq_iff_eq.mpr c9; have c9b1 : (a0 != 46) = false := bne_eq_false_iff_eq.mpr c9; clear c9; have H' := az H; clear H; go_wp2; go_meet
        case rel => exact ⟨_, (true), zB, H', ⟨zJ HJ1.out⟩, ⟨zA HB.out⟩⟩
       ·
        rw [if_neg c9] at H; have c9b0 : (a0 == 46) = false := beq_eq_false_iff_ne.mpr c9; have c9b1 : (a0 != 46) = true := bne_iff_ne.mpr c9; by_cases c10 : a0 = 47
        ·
         rw [if_pos c10] at H; have c10b0 : (a0 == 47) = true := beq_iff_eq.mpr c10; have c10b1 : (a0 != 47) = false := bne_eq_false_iff_eq.mpr c10; clear c10; have H' := az H; clear H; go_wp2; go_meet
         case rel => exact ⟨_, (true), zB, H', ⟨zJ HJ1.out⟩, ⟨zA HB.out⟩⟩
        ·
         rw [if_neg c10] at H; have c10b0 : (a0 == 47) = false := beq_eq_false_iff_ne.mpr c10; have c10b1 : (a0 != 47) = true := bne_iff_ne.mpr c10; have H' := az H; clear H; go_wp2; go_meet
         case rel => exact ⟨_, ((a0 == 58)), zB, H', ⟨zJ HJ1.out⟩, ⟨zA HB.out⟩⟩
     case rest =>
      clear HC7; (try clear c1); (try clear p2); (try clear c3); (try clear c3b0); (try clear c3b1); (try clear c4); (try clear c6); (try clear c8); (try clear c8b0); (try clear c8b1); (try clear c9); (try clear c9b0); (try clear c9b1); (try clear c10); (try clear c10b0); (try clear c10b1); (try clear p2); obtain ⟨kq, x13_6, rfl, HA, HJ6, HB⟩ := hcut
      cases kq with
      | zero => exact absurd HA.out (by simp [spec_l1Signs.j1])
      | succ kj6 =>
       have H := HA.out; clear HA; simp only [spec_l1Signs.j1] at H; by_cases c11 : x13_6 = true
       ·
        subst c11; have H1 : (some 8) = some r := by rw [if_pos rfl] at H; exact H
        clear H; have H := H1; clear H1; obtain rfl := Option.some.inj H; go_wp2; go_ret; exact ⟨zG, zA HB.out⟩
       ·
        replace c11 := Bool.eq_false_iff.mpr c11; subst c11; have H1 : ((spec_l1In.f a0 768 879).bind fun t121 => (if t121 = true then (some 9) else (if a0 = 8203 then (spec_l1Signs.j2 kj6 a0 true) else (if a0 = 8205 then (spec_l1Signs.j2 kj6 a0 true) else (spec_l1Signs.j2 kj6 a0 (a0 == 173)))))) = some r := by rw [if_neg (show ¬ (false = true) by decide)] at H; exact H
        clear H; have H := H1; clear H1; replace H := Option.bind_eq_some_iff.mp H; obtain ⟨t121, A120, H⟩ := H; replace H : (if t121 = true then (some 9) else (if a0 = 8203 then (spec_l1Signs.j2 kj6 a0 true) else (if a0 = 8205 then (spec_l1Signs.j2 kj6 a0 true) else (spec_l1Signs.j2 kj6 a0 (a0 == 173))))) = some r := H; have A12 := az A120; clear A120; by_cases c13 : t121 = true
        ·
         subst c13; have H1 : (some 9) = some r := by rw [if_pos rfl] at H; exact H
         clear H; have H := H1; clear H1; obtain rfl := Option.some.inj H; go_wp2_with (first | ((with_reducible refine gate_callee (f := 36) rfl ?_); refine goesL_ (some 30) rfl rfl Tryz.func36 (by kernel_rfl) rfl #[.int .i64 a0, .int .i64 768, .int .i64 879] rfl zC ?_; (with_reducible refine (spec_l1In.calls a0 768 879 true _ A12.out).mono ?_); rintro e w' ⟨rfl, ⟨nd, rfl⟩⟩; refine ⟨_, rfl, ?_⟩)); go_ret; exact ⟨zG, zA HB.out⟩
        ·
         replace c13 := Bool.eq_false_iff.mpr c13; subst c13; have H1 : (if a0 = 8203 then (spec_l1Signs.j2 kj6 a0 true) else (if a0 = 8205 then (spec_l1Signs.j2 kj6 a0 true) else (spec_l1Signs.j2 kj6 a0 (a0 == 173)))) = some r := by rw [if_neg (show ¬ (false = true) by decide)] at H; exact H
         clear H; have H := H1; clear H1; have HC14 := az H; clear H; go_upto_region 9 with (first | ((with_reducible refine gate_callee (f := 36) rfl ?_); refine goesL_ (some 30) rfl rfl Tryz.func36 (by kernel_rfl) rfl #[.int .i64 a0, .int .i64 768, .int .i64 879] rfl zC ?_; (with_reducible refine (spec_l1In.calls a0 768 879 false _ A12.out).mono ?_); rintro e w' ⟨rfl, ⟨nd, rfl⟩⟩; refine ⟨_, rfl, ?_⟩))
         (try simp only [Act.put, List.setIfInBounds_toArray, List.set_cons_zero, List.set_cons_succ]); go_cut [31] (fun v31 wc => ∃ (kq : Nat) (x31_13 : Bool), v31 = .bool x31_13 ∧ Aside0 (spec_l1Signs.j2 kq a0 x31_13 = some r) ∧ Aside0 (kq ≤ kj6) ∧ Aside0 (Below w.heap.size w wc))
         case first =>
          have H := HC14.out; clear HC14; by_cases c15 : a0 = 8203
          ·
           rw [if_pos c15] at H; have c15b0 : (a0 == 8203) = true := beq_iff_eq.mpr c15; have c15b1 : (a0 != 8203) = false := bne_eq_false_iff_eq.mpr c15; clear c15; (first | rw [c15b0] | (simp only [i64_w, i32_w]; rw [c15b0]) | skip); have H' := az H; clear H; go_wp2; go_meet
           case rel => exact ⟨_, (true), zB, H', ⟨zO HJ1.out HJ6.out⟩, ⟨zA HB.out⟩⟩
          ·
           rw [if_neg c15] at H; have c15b0 : (a0 == 8203) = false := beq_eq_false_iff_ne.mpr c15; have c15b1 : (a0 != 8203) = true := bne_iff_ne.mpr c15; (first | rw [c15b0] | (simp only [i64_w, i32_w]; rw [c15b0]) | skip); by_cases c16 : a0 = 8205
           ·
            rw [if_pos c16] at H; have c16b0 : (a0 == 8205) = true := beq_iff_eq.mpr c16; have c16b1 : (a0 != 8205) = false := bne_eq_false_iff_eq.mpr c16; clear c16; have H' := az H; clear H; go_wp2; go_meet
            case rel => exact ⟨_, (true), zB, H', ⟨zO HJ1.out HJ6.out⟩, ⟨zA HB.out⟩⟩
           ·
            rw [if_neg c16] at H; have c16b0 : (a0 == 8205) = false := beq_eq_false_iff_ne.mpr c16; have c16b1 : (a0 != 8205) = true := bne_iff_ne.mpr c16; have H' := az H; clear H; go_wp2; go_meet
            case rel => exact ⟨_, ((a0 == 173)), zB, H', ⟨zO HJ1.out HJ6.out⟩, ⟨zA HB.out⟩⟩
         case rest =>
          clear HC14; (try clear c1); (try clear p2); (try clear c3); (try clear c3b0); (try clear c3b1); (try clear c4); (try clear c6); (try clear c8); (try clear c8b0); (try clear c8b1); (try clear c9); (try clear c9b0); (try clear c9b1); (try clear c10); (try clear c10b0); (try clear c10b1); (try clear c11); (try clear c13); (try clear c14); (try clear c15); (try clear c15b0); (try clear c15b1); (try clear c16); (try clear c16b0); (try clear c16b1); (try clear p2); obtain ⟨kq, x31_13, rfl, HA, HJ13, HB⟩ := hcut
          cases kq with
          | zero => exact absurd HA.out (by simp [spec_l1Signs.j2])
          | succ kj13 =>
           have H := HA.out; clear HA; simp only [spec_l1Signs.j2] at H; by_cases c17 : x31_13 = true
           ·
            subst c17; have H1 : (some 10) = some r := by rw [if_pos rfl] at H; exact H
            clear H; have H := H1; clear H1; obtain rfl := Option.some.inj H; go_wp2; go_ret; exact ⟨zG, zA HB.out⟩
           ·
            replace c17 := Bool.eq_false_iff.mpr c17; subst c17; have H1 : (if a0 = 9 then (some 11) else (if a0 = 32 then (some 12) else ((spec_l1Moves.f kj13 a0).bind fun t122 => (some t122)))) = some r := by rw [if_neg (show ¬ (false = true) by decide)] at H; exact H
            clear H; have H := H1; clear H1; by_cases c18 : a0 = 9
            ·
             rw [if_pos c18] at H; have c18b0 : (a0 == 9) = true := beq_iff_eq.mpr c18; have c18b1 : (a0 != 9) = false := bne_eq_false_iff_eq.mpr c18; clear c18; obtain rfl := Option.some.inj H; go_wp2; go_ret; exact ⟨zG, zA HB.out⟩
            ·
             rw [if_neg c18] at H; have c18b0 : (a0 == 9) = false := beq_eq_false_iff_ne.mpr c18; have c18b1 : (a0 != 9) = true := bne_iff_ne.mpr c18; by_cases c19 : a0 = 32
             ·
              rw [if_pos c19] at H; have c19b0 : (a0 == 32) = true := beq_iff_eq.mpr c19; have c19b1 : (a0 != 32) = false := bne_eq_false_iff_eq.mpr c19; clear c19; obtain rfl := Option.some.inj H; go_wp2; go_ret; exact ⟨zG, zA HB.out⟩
             ·
              rw [if_neg c19] at H; have c19b0 : (a0 == 32) = false := beq_eq_false_iff_ne.mpr c19; have c19b1 : (a0 != 32) = true := bne_iff_ne.mpr c19; replace H := Option.bind_eq_some_iff.mp H; obtain ⟨t122, A200, H⟩ := H; replace H : (some t122) = some r := H; have A20 := az A200; clear A200; obtain rfl := Option.some.inj H; go_wp2_with (first | ((with_reducible refine gate_callee (f := 146) rfl ?_); refine goesL_ (some 49) rfl rfl Tryz.func146 (by kernel_rfl) rfl #[.int .i64 a0] rfl zC ?_; (with_reducible refine (spec_l1Moves.calls kj13 a0 t122 _ A20.out).mono ?_); rintro e w21 ⟨rfl, hb⟩; refine ⟨_, rfl, ?_⟩; have n0_ := az (below_step (zA HB.out) hb); clear HB; have HB := n0_; clear n0_; (try clear hb); (try clear hb2); (try clear hk); (try clear hi))); go_ret; exact ⟨zG, zA HB.out⟩
end Go.Proofs.YtmcdcogedcbndaaGreat.S
