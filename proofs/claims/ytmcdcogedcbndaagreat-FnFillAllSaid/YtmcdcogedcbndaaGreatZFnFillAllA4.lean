/- Of drawn letters, spans, width and way: the lines that the program tells are in order, the last one ends at the end, and what they cost can be told; they are the reference's. No condition beyond the statement's own. (text 5 of 7 of this claim: functions of the program and of the reference as plain Lean functions, what a call of each comes to, and what follows.) -/
import Derived.Test.YtmcdcogedcbndaaGreatZFnFillAllA0
import Derived.Test.YtmcdcogedcbndaaGreatZFnFillAllA2
import Derived.Test.YtmcdcogedcbndaaGreatZFnFillAllA1
import Derived.Test.YtmcdcogedcbndaaGreatZFnFillAllA3
set_option maxHeartbeats 16000000
set_option maxRecDepth 100000
set_option linter.unusedVariables false
set_option linter.unusedSimpArgs false
namespace Go.Proofs.YtmcdcogedcbndaaGreat.S
open Go.RowKit Go.Proofs.YtmcdcogedcbndaaGreatW.PrintWords Go.Proofs.YtmcdcogedcbndaaGreatW.PrintLast
set_option linter.unusedVariables false
set_option linter.unusedSimpArgs false
def laws_toIntS.l0 : Nat → List Int → List Int → Int → Option (List Int)
 | 0, _, _, _ => none
 | k + 1, x0, x3, x4 => if x4 < (x0.length : Int) then (if 0 ≤ x4 then (if x4 < (x3.length : Int) then (laws_toIntS.l0 k x0 (x3.set (x4 : Int).toNat (rd x0 x4)) (wrap64 (x4 + 1))) else (none)) else (none)) else (some x3)
def laws_toIntS.f (k : Nat) (l0 : List Int) : Option (List Int) := if 0 ≤ (l0.length : Int) then (if ((l0.length : Int) : Int).toNat ≤ 35184372088832 then (laws_toIntS.l0 k l0 (List.replicate ((l0.length : Int) : Int).toNat 0) 0) else (none)) else (none)
theorem laws_toIntS.mono_l : ∀ k, (∀ y0 y1 y2, LeO (laws_toIntS.l0 k y0 y1 y2) (laws_toIntS.l0 (k + 1) y0 y1 y2))
 | 0 => fun _ _ _ r h => by simp [laws_toIntS.l0] at h
 | k + 1 => by
  have ih0 := laws_toIntS.mono_l k
  ·
   intro y0 y1 y2; unfold laws_toIntS.l0
   repeat' first
   | (with_reducible exact ih0 _ _ _)
   | (with_reducible exact LeO.refl _)
   | (with_reducible exact LeO.none _)
   | (with_reducible refine LeO.ite ?_ ?_)
   | (with_reducible refine LeO.bind ?_ (fun _ => ?_))
   | exact ih0 _ _ _
   | exact LeO.none _
   | refine LeO.ite ?_ ?_
   | refine LeO.bind ?_ (fun _ => ?_)
theorem laws_toIntS.mono : ∀ a0 k, LeO (laws_toIntS.f k a0) (laws_toIntS.f (k + 1) a0) := by
 intro a0 k; have ih0 := laws_toIntS.mono_l k; unfold laws_toIntS.f
 repeat' first
   | (with_reducible exact ih0 _ _ _)
   | (with_reducible exact LeO.refl _)
   | (with_reducible exact LeO.none _)
   | (with_reducible refine LeO.ite ?_ ?_)
   | (with_reducible refine LeO.bind ?_ (fun _ => ?_))
   | exact ih0 _ _ _
   | exact LeO.none _
   | refine LeO.ite ?_ ?_
   | refine LeO.bind ?_ (fun _ => ?_)
theorem laws_toIntS.calls (k : Nat) (A0 : Option Addr) (c0 : Nat) (l0 : List Int) (r : List Int) (w : World) (hr0 : Kd.C (Kd.int .i64) w A0 l0.length l0) (hc0 : l0.length ≤ c0) (h : laws_toIntS.f k l0 = some r) :
  Calls Tryz.prog 13 #[.slice A0 l0.length c0] w fun e w' => ∃ v0_ : Value, e = .returned (v0_) ∧ Kd.R (Kd.int .i64) 3 w' w.heap.size (fun _ => True) v0_ r ∧ Below w.heap.size w w' := by
 have HR0 := az hr0; have HC0 := az hc0; clear hr0 hc0; have HB := az (Below.refl w.heap.size w); have H : (if 0 ≤ (l0.length : Int) then (if ((l0.length : Int) : Int).toNat ≤ 35184372088832 then (laws_toIntS.l0 k l0 (List.replicate ((l0.length : Int) : Int).toNat 0) 0) else (none)) else (none)) = some r := h; clear h; by_cases c2 : 0 ≤ (l0.length : Int)
 ·
  rw [if_pos c2] at H; have c2b0 := eq_true c2; have c2b1 : decide (0 ≤ (l0.length : Int)) = true := decide_eq_true c2; clear c2; by_cases c3 : ((l0.length : Int) : Int).toNat ≤ 35184372088832
  ·
   rw [if_pos c3] at H; have c3b0 := eq_true c3; have c3b1 : decide (((l0.length : Int) : Int).toNat ≤ 35184372088832) = true := decide_eq_true c3; clear c3; obtain ⟨y252, hy252⟩ : ∃ y_ : List Int, y_ = (List.replicate ((l0.length : Int) : Int).toNat 0) := ⟨_, rfl⟩; replace H : (laws_toIntS.l0 k l0 y252 0) = some r := by first | (rw [hy252]; with_reducible exact H) | (have H2_ := (Option.bind_some _ _).symm.trans H; rw [hy252]; with_reducible exact H2_) | (have H2_ := (Option.bind_some _ _).symm.trans H; with_reducible exact H2_) | with_reducible exact H | (rw [hy252]; exact H) | exact H
   have Ny252 := az hy252; clear hy252; have H' := az H; clear H; go_enter Tryz.func13, Tryz.ntmps13; go_wp2_with (first | ((with_reducible refine gate_dst (N := 7) rfl ?_); refine Kd.R_make (Kd.int .i64) _ 3 rfl (N := 7) rfl 22 _ _ rfl (l0.length : Int) rfl rfl Tryz.underlying22 (.int .i64 0) 8 info3 rfl (by decide) (by omega) 0 (ok := fun _ => True) (okp := fun _ => True) rfl (fun _ hk => hk) trivial (of_decide_eq_true (by assumption)) (Nat.le_trans (Nat.mul_le_mul_right _ (of_decide_eq_true (by assumption) : (l0.length : Int).toNat ≤ 35184372088832)) (by omega)) (Below.refl _ _) (Nat.le_refl _) ?_; intro v253 w4 ho5 hb hg_ hnew_; clear hg_ hnew_; (first | rw [← Ny252.out] at ho5 | (simp only [Int.reduceToNat] at ho5; rw [← Ny252.out] at ho5)); have n0_ := az (Kd.R_lower ho5 (below_size (zA HB.out))); have n1_ := az (below_step (zA HB.out) hb); clear HB; have HO254 := n0_; have HB := n1_; clear n0_ n1_; clear hb ho5)); go_loopg [4] k (fun kq v4 w' => ∃ (x3_1 : List Int) (x4_1 : Int), v4 = .int .i64 x4_1 ∧ Aside0 (laws_toIntS.l0 kq l0 x3_1 x4_1 = some r) ∧ Aside0 (kq ≤ k) ∧ Aside0 (Kd.R (Kd.int .i64) 3 w' w.heap.size (fun _ => True) v253 x3_1) ∧ Aside0 (Below w.heap.size w w'))
   case atStart => exact ⟨(y252), (0), zB, H', ⟨Nat.le_refl _⟩, ⟨zF HO254.out⟩, ⟨zA HB.out⟩⟩
   case round =>
    clear H'; (try clear c1); (try clear c2); (try clear c2b0); (try clear c2b1); (try clear p2); (try clear c3); (try clear c3b0); (try clear c3b1); obtain ⟨x3_1, x4_1, rfl, HA, HK1, HO_3, HB⟩ := hrel
    cases gk with
    | zero => exact absurd HA.out (by simp [laws_toIntS.l0])
    | succ k1 =>
     have H := HA.out; clear HA; simp only [laws_toIntS.l0] at H; by_cases c6 : x4_1 < (l0.length : Int)
     ·
      rw [if_pos c6] at H; have c6b0 : decide (x4_1 < (l0.length : Int)) = true := decide_eq_true c6; clear c6; by_cases c7 : 0 ≤ x4_1
      ·
       rw [if_pos c7] at H; have c7b0 : decide (0 ≤ x4_1) = true := decide_eq_true c7; clear c7; by_cases c8 : x4_1 < (x3_1.length : Int)
       ·
        rw [if_pos c8] at H; have c8b0 : decide (x4_1 < (x3_1.length : Int)) = true := decide_eq_true c8; clear c8; obtain ⟨y256, hy256⟩ : ∃ y_ : List Int, y_ = (x3_1.set (x4_1 : Int).toNat (rd l0 x4_1)) := ⟨_, rfl⟩; replace H : (laws_toIntS.l0 k1 l0 y256 (wrap64 (x4_1 + 1))) = some r := by first | (rw [hy256]; with_reducible exact H) | (have H2_ := (Option.bind_some _ _).symm.trans H; rw [hy256]; with_reducible exact H2_) | (have H2_ := (Option.bind_some _ _).symm.trans H; with_reducible exact H2_) | with_reducible exact H | (rw [hy256]; exact H) | exact H
        have Ny256 := az hy256; clear hy256; have H' := az H; clear H; have p255 : 0 ≤ (x4_1 : Int) := of_decide_eq_true (by assumption); have q255 : x4_1 < (l0.length : Int) := of_decide_eq_true (by assumption); obtain ⟨ad255, e255, hx255_0⟩ := Kd.at_int HR0.out x4_1 p255 q255
        cases e255
        replace hx255_0 := (HB.out.cell (World.block_lt_of_cell? w _ hx255_0)).trans hx255_0; replace p255 := eq_true p255; replace q255 := eq_true q255; have p9 : 0 ≤ (x4_1 : Int) := of_decide_eq_true (by assumption); have q9 : (x4_1 : Int) < ((x3_1.length : Int) : Int) := of_decide_eq_true (by assumption); obtain ⟨go9, co9, eo9, gb9, gl9, cl9, HG9⟩ := Kd.R_form HO_3.out (by omega); (first | cases eo9 | (injection eo9 with ea_ en_ ec_; (first | subst ea_ | (injection ea_ with ea_; subst ea_)); subst ec_; clear en_)); have GB9 := az gb9; have GG9 := az HG9; clear gb9 gl9 HG9; obtain ⟨hx9_0, hf9_0⟩ := Kd.R_celln 0 HO_3.out (x4_1 : Int) p9 q9; replace p9 := eq_true p9; replace q9 := eq_true q9; have HP10 := Kd.R_putg HO_3.out (x4_1 : Int) (rd l0 x4_1); go_wp2_with (first | ((with_reducible refine gate_store (t := 3) (p := 20) rfl ?_); refine store_event (t := 3) (p := 20) (v := ?vo_w11) (w1 := (wr.setCell ⟨go9, (x4_1 : Int).toNat, none⟩ (.int .i64 (rd l0 x4_1)))) ?hg ?ho ?hn ?hr ?_; (case ho => rfl); (case hg => rfl); (case hn => rfl); (case hr => first | (go_simp; done) | (go_simp; rfl)); intro w11 hw; have hg : wr.grownBy w11 (some go9) := (by rw [hw]; exact HP10.2); have hp_ : Kd.R (Kd.int .i64) 3 w11 w.heap.size (fun _ => True) (.slice (some ⟨go9, 0, none⟩) x3_1.length co9) y256 := (by rw [hw, Ny256.out]; exact HP10.1); clear HP10; have n0_ := az (hp_); have n1_ := az ((by rw [hw]; exact below_set (HB.out) GB9.out : Below w.heap.size w w11)); clear HO_3; clear HB; have HO_3 := n0_; have HB := n1_; clear n0_ n1_; clear hg hw hp_)); go_roundg k1
        case measure => have := HK1.out; omega
        case rel => exact ⟨(y256), (wrap64 (x4_1 + 1)), zB, H', ⟨zE HK1.out⟩, ⟨zF HO_3.out⟩, ⟨zA HB.out⟩⟩
       ·
        rw [if_neg c8] at H; exact absurd H (by simp)
      ·
       rw [if_neg c7] at H; exact absurd H (by simp)
     ·
      rw [if_neg c6] at H; have c6b0 : decide (x4_1 < (l0.length : Int)) = false := decide_eq_false c6; clear c6; obtain rfl := Option.some.inj H; go_wp2; go_ret; exact ⟨_, zG, zF HO_3.out, zA HB.out⟩
  ·
   rw [if_neg c3] at H; exact absurd H (by simp)
 ·
  rw [if_neg c2] at H; exact absurd H (by simp)
def laws_eqIntS.l0 : Nat → List Int → List Int → Int → Option (Bool)
 | 0, _, _, _ => none
 | k + 1, x0, x1, x5 => if x5 < (x0.length : Int) then (if 0 ≤ x5 then (if x5 < (x1.length : Int) then (if (rd x0 x5) = (rd x1 x5) then (laws_eqIntS.l0 k x0 x1 (wrap64 (x5 + 1))) else (some false)) else (none)) else (none)) else (some true)
def laws_eqIntS.f (k : Nat) (l0 : List Int) (l1 : List Int) : Option (Bool) := if (l0.length : Int) = (l1.length : Int) then (laws_eqIntS.l0 k l0 l1 0) else (some false)
theorem laws_eqIntS.mono_l : ∀ k, (∀ y0 y1 y2, LeO (laws_eqIntS.l0 k y0 y1 y2) (laws_eqIntS.l0 (k + 1) y0 y1 y2))
 | 0 => fun _ _ _ r h => by simp [laws_eqIntS.l0] at h
 | k + 1 => by
  have ih0 := laws_eqIntS.mono_l k
  ·
   intro y0 y1 y2; unfold laws_eqIntS.l0
   repeat' first
   | (with_reducible exact ih0 _ _ _)
   | (with_reducible exact LeO.refl _)
   | (with_reducible exact LeO.none _)
   | (with_reducible refine LeO.ite ?_ ?_)
   | (with_reducible refine LeO.bind ?_ (fun _ => ?_))
   | exact ih0 _ _ _
   | exact LeO.none _
   | refine LeO.ite ?_ ?_
   | refine LeO.bind ?_ (fun _ => ?_)
theorem laws_eqIntS.mono : ∀ a0 a1 k, LeO (laws_eqIntS.f k a0 a1) (laws_eqIntS.f (k + 1) a0 a1) := by
 intro a0 a1 k; have ih0 := laws_eqIntS.mono_l k; unfold laws_eqIntS.f
 repeat' first
   | (with_reducible exact ih0 _ _ _)
   | (with_reducible exact LeO.refl _)
   | (with_reducible exact LeO.none _)
   | (with_reducible refine LeO.ite ?_ ?_)
   | (with_reducible refine LeO.bind ?_ (fun _ => ?_))
   | exact ih0 _ _ _
   | exact LeO.none _
   | refine LeO.ite ?_ ?_
   | refine LeO.bind ?_ (fun _ => ?_)
theorem laws_eqIntS.calls (k : Nat) (A0 : Option Addr) (c0 : Nat) (l0 : List Int) (A1 : Option Addr) (c1 : Nat) (l1 : List Int) (r : Bool) (w : World) (hr0 : Kd.C (Kd.int .i64) w A0 l0.length l0) (hc0 : l0.length ≤ c0) (hr1 : Kd.C (Kd.int .i64) w A1 l1.length l1) (hc1 : l1.length ≤ c1) (h : laws_eqIntS.f k l0 l1 = some r) :
  Calls Tryz.prog 16 #[.slice A0 l0.length c0, .slice A1 l1.length c1] w fun e w' => e = .returned (.bool r) ∧ Drawn0 w w' := by
 have HR0 := az hr0; have HC0 := az hc0; clear hr0 hc0; have HR1 := az hr1; have HC1 := az hc1; clear hr1 hc1; have H : (if (l0.length : Int) = (l1.length : Int) then (laws_eqIntS.l0 k l0 l1 0) else (some false)) = some r := h; clear h; by_cases c3 : (l0.length : Int) = (l1.length : Int)
 ·
  rw [if_pos c3] at H; have c3b0 : ((l0.length : Int) == (l1.length : Int)) = true := beq_iff_eq.mpr c3; have c3b1 : ((l0.length : Int) != (l1.length : Int)) = false := bne_eq_false_iff_eq.mpr c3; have c3b2 : (l0.length == l1.length) = true := by first | simpa using c3 | (simp at c3 ⊢; omega)
  clear c3; have H' := az H; clear H; go_enter Tryz.func16, Tryz.ntmps16; go_wp2; repeat (go_quiet (fail); try go_wp2)
  go_loopg [5] k (fun kq v5 w' => ∃ (x5_1 : Int), v5 = .int .i64 x5_1 ∧ Aside0 (laws_eqIntS.l0 kq l0 l1 x5_1 = some r) ∧ Aside0 (kq ≤ k) ∧ Drawn0 w w')
  case atStart => exact ⟨(0), zB, H', ⟨Nat.le_refl _⟩, zD⟩
  case round =>
   clear H'; (try clear c1); (try clear p2); (try clear c3); (try clear c3b0); (try clear c3b1); (try clear c3b2); obtain ⟨x5_1, rfl, HA, HK1, ⟨m1, rfl⟩⟩ := hrel
   cases gk with
   | zero => exact absurd HA.out (by simp [laws_eqIntS.l0])
   | succ k1 =>
    have H := HA.out; clear HA; simp only [laws_eqIntS.l0] at H; by_cases c4 : x5_1 < (l0.length : Int)
    ·
     rw [if_pos c4] at H; have c4b0 : decide (x5_1 < (l0.length : Int)) = true := decide_eq_true c4; clear c4; by_cases c5 : 0 ≤ x5_1
     ·
      rw [if_pos c5] at H; have c5b0 : decide (0 ≤ x5_1) = true := decide_eq_true c5; clear c5; by_cases c6 : x5_1 < (l1.length : Int)
      ·
       rw [if_pos c6] at H; have c6b0 : decide (x5_1 < (l1.length : Int)) = true := decide_eq_true c6; clear c6; by_cases c7 : (rd l0 x5_1) = (rd l1 x5_1)
       ·
        rw [if_pos c7] at H; have c7b0 : ((rd l0 x5_1) == (rd l1 x5_1)) = true := beq_iff_eq.mpr c7; have c7b1 : ((rd l0 x5_1) != (rd l1 x5_1)) = false := bne_eq_false_iff_eq.mpr c7; clear c7; have H' := az H; clear H; have p367 : 0 ≤ (x5_1 : Int) := of_decide_eq_true (by assumption); have q367 : x5_1 < (l0.length : Int) := of_decide_eq_true (by assumption); obtain ⟨ad367, e367, hx367_0⟩ := Kd.at_int HR0.out x5_1 p367 q367
        cases e367
        replace p367 := eq_true p367; replace q367 := eq_true q367; have p368 : 0 ≤ (x5_1 : Int) := of_decide_eq_true (by assumption); have q368 : x5_1 < (l1.length : Int) := of_decide_eq_true (by assumption); obtain ⟨ad368, e368, hx368_0⟩ := Kd.at_int HR1.out x5_1 p368 q368
        cases e368
        replace p368 := eq_true p368; replace q368 := eq_true q368; go_wp2; repeat (go_quiet (fail); try go_wp2)
        go_roundg k1
        case measure => have := HK1.out; omega
        case rel => exact ⟨(wrap64 (x5_1 + 1)), zB, H', ⟨zE HK1.out⟩, zD⟩
       ·
        rw [if_neg c7] at H; have c7b0 : ((rd l0 x5_1) == (rd l1 x5_1)) = false := beq_eq_false_iff_ne.mpr c7; have c7b1 : ((rd l0 x5_1) != (rd l1 x5_1)) = true := bne_iff_ne.mpr c7; obtain rfl := Option.some.inj H; have p367 : 0 ≤ (x5_1 : Int) := of_decide_eq_true (by assumption); have q367 : x5_1 < (l0.length : Int) := of_decide_eq_true (by assumption); obtain ⟨ad367, e367, hx367_0⟩ := Kd.at_int HR0.out x5_1 p367 q367
        cases e367
        replace p367 := eq_true p367; replace q367 := eq_true q367; have p368 : 0 ≤ (x5_1 : Int) := of_decide_eq_true (by assumption); have q368 : x5_1 < (l1.length : Int) := of_decide_eq_true (by assumption); obtain ⟨ad368, e368, hx368_0⟩ := Kd.at_int HR1.out x5_1 p368 q368
        cases e368
        replace p368 := eq_true p368; replace q368 := eq_true q368; go_wp2; repeat (go_quiet (fail); try go_wp2)
        go_ret; exact ⟨zB, zD⟩
      ·
       rw [if_neg c6] at H; exact absurd H (by simp)
     ·
      rw [if_neg c5] at H; exact absurd H (by simp)
    ·
     rw [if_neg c4] at H; have c4b0 : decide (x5_1 < (l0.length : Int)) = false := decide_eq_false c4; clear c4; obtain rfl := Option.some.inj H; go_wp2; repeat (go_quiet (fail); try go_wp2)
     go_ret; exact ⟨zB, zD⟩
 ·
  rw [if_neg c3] at H; have c3b0 : ((l0.length : Int) == (l1.length : Int)) = false := beq_eq_false_iff_ne.mpr c3; have c3b1 : ((l0.length : Int) != (l1.length : Int)) = true := bne_iff_ne.mpr c3; have c3b2 : (l0.length == l1.length) = false := by first | simpa using c3 | (simp at c3 ⊢; omega)
  obtain rfl := Option.some.inj H; go_enter Tryz.func16, Tryz.ntmps16; go_wp2; repeat (go_quiet (fail); try go_wp2)
  go_ret; exact ⟨zB, zD⟩
end Go.Proofs.YtmcdcogedcbndaaGreat.S
/- What the laws' own helpers answer: a copy, equality. -/
namespace Go.Proofs.YtmcdcogedcbndaaGreat.Pure
open Go.RowKit Go.Proofs.YtmcdcogedcbndaaGreat.S Go.Proofs.YtmcdcogedcbndaaGreatW.PrintWords Go.Proofs.YtmcdcogedcbndaaGreatW.PrintLast
theorem w64 {x : Int} (h0 : -9223372036854775808 ≤ x) (h1 : x ≤ 9223372036854775807) : wrap64 x = x := by
 unfold wrap64; omega
theorem rd_nat (l : List Int) (i : Nat) : rd l (i : Int) = l.getD i 0 := by simp [rd]
theorem rd_get {l : List Int} {i : Nat} (h : i < l.length) : rd l (i : Int) = l[i] := by simp [rd, List.getD_eq_getElem?_getD, h]
end Go.Proofs.YtmcdcogedcbndaaGreat.Pure
/- Spans that are ok, and ends of lines, by both texts. -/
namespace Go.Proofs.YtmcdcogedcbndaaGreat.Pure
open Go.RowKit Go.Proofs.YtmcdcogedcbndaaGreat.S Go.Proofs.YtmcdcogedcbndaaGreatW.PrintWords Go.Proofs.YtmcdcogedcbndaaGreatW.PrintLast
abbrev Sp := S50
theorem l1In_f (a b c : Int) : spec_l1In.f a b c = some (decide (b ≤ a ∧ a ≤ c)) := by
 unfold spec_l1In.f
 by_cases h : a ≥ b
 · simp [h]
 · simp [h]
def spanOkV (s : Sp) (n : Int) : Bool := decide (0 ≤ s.f0 ∧ s.f0 < n ∧ s.f0 < s.f1 ∧ s.f1 ≤ n ∧ 1 ≤ s.f2 ∧ s.f2 ≤ 40 ∧ 0 ≤ s.f3 ∧ s.f3 ≤ 9)
theorem spanOk_i (s : Sp) (n : Int) : impl_spanOk.f s.f0 s.f1 s.f2 s.f3 n = some (spanOkV s n) := by
 unfold impl_spanOk.f spanOkV
 by_cases h0 : s.f0 ≥ 0
 ·
  by_cases h1 : s.f0 < n
  ·
   by_cases h2 : s.f1 > s.f0
   ·
    by_cases h3 : s.f1 ≤ n
    ·
     by_cases h4 : s.f2 ≥ 1
     ·
      by_cases h5 : s.f2 ≤ 40
      ·
       by_cases h6 : s.f3 ≥ 0
       ·
        rw [if_pos h0, if_pos h1, if_pos h2, if_pos h3, if_pos h4, if_pos h5, if_pos h6]
        congr 1
        rw [decide_eq_decide]
        omega
       · rw [if_pos h0, if_pos h1, if_pos h2, if_pos h3, if_pos h4, if_pos h5, if_neg h6, decide_eq_false (by omega)]
      · rw [if_pos h0, if_pos h1, if_pos h2, if_pos h3, if_pos h4, if_neg h5, decide_eq_false (by omega)]
     · rw [if_pos h0, if_pos h1, if_pos h2, if_pos h3, if_neg h4, decide_eq_false (by omega)]
    · rw [if_pos h0, if_pos h1, if_pos h2, if_neg h3, decide_eq_false (by omega)]
   · rw [if_pos h0, if_pos h1, if_neg h2, decide_eq_false (by omega)]
  · rw [if_pos h0, if_neg h1, decide_eq_false (by omega)]
 · rw [if_neg h0, decide_eq_false (by omega)]
theorem spanOk_s (s : Sp) {n : Int} (hn : 0 ≤ n) (hn1 : n ≤ 1000000) : spec_l6Ok.f s.f0 s.f1 s.f2 s.f3 n = some (spanOkV s n) := by
 unfold spec_l6Ok.f spanOkV
 simp only [l1In_f, Option.bind_some]
 rw [w64 (x := n - 1) (by omega) (by omega)]
 by_cases h0 : 0 ≤ s.f0 ∧ s.f0 ≤ n - 1
 ·
  rw [decide_eq_true h0, if_pos rfl, w64 (by omega) (by omega)]
  by_cases h1 : s.f0 + 1 ≤ s.f1 ∧ s.f1 ≤ n
  ·
   rw [decide_eq_true h1, if_pos rfl]
   by_cases h2 : 1 ≤ s.f2 ∧ s.f2 ≤ 40
   ·
    rw [decide_eq_true h2, if_pos rfl]
    congr 1
    rw [decide_eq_decide]
    omega
   · rw [decide_eq_false h2, if_neg (by decide), decide_eq_false (by omega)]
  · rw [decide_eq_false h1, if_neg (by decide), decide_eq_false (by omega)]
 · rw [decide_eq_false h0, if_neg (by decide), decide_eq_false (by omega)]
def spAt (l : List Sp) (i : Nat) : Sp := l.getD i z50
theorem rdSp (l : List Sp) (i : Nat) : rd_T50 l (i : Int) = spAt l i := by simp [rd_T50, spAt]
def okAt (l : List Sp) (n : Int) (i : Nat) : Bool := spanOkV (spAt l i) n && (decide (i = 0) || decide ((spAt l (i - 1)).f1 ≤ (spAt l i).f0))
def allFrom (f : Nat → Bool) : Nat → Nat → Bool
 | _, 0 => true
 | i, d + 1 => f i && allFrom f (i + 1) d
theorem allFrom_iff (f : Nat → Bool) : ∀ (d i : Nat), allFrom f i d = true ↔ ∀ j, i ≤ j → j < i + d → f j = true
 | 0, i => ⟨fun _ j h1 h2 => by omega, fun _ => rfl⟩
 | d + 1, i => by
  rw [allFrom, Bool.and_eq_true, allFrom_iff f d (i + 1)]
  constructor
  ·
   rintro ⟨h0, h⟩ j h1 h2
   by_cases e : j = i
   · rw [e]; exact h0
   · exact h j (by omega) (by omega)
  · exact fun h => ⟨h i (by omega) (by omega), fun j h1 h2 => h j (by omega) (by omega)⟩
def spansV (l : List Sp) (n : Int) : Bool := allFrom (okAt l n) 0 l.length && (decide (l.length ≤ 12) && decide (0 ≤ n ∧ n ≤ 80))
theorem spansI_l (l : List Sp) (n : Int) (hl : l.length ≤ 1099511627776) : ∀ (d k i : Nat), l.length - i = d → i ≤ l.length → d < k → impl_SpansOk.l0 k l n l (l.length : Int) (i : Int) = some (allFrom (okAt l n) i d && (decide (l.length ≤ 12) && decide (0 ≤ n ∧ n ≤ 80)))
 | 0, k, i, hd, hi, hk => by
  obtain ⟨k, rfl⟩ : ∃ m, k = m + 1 := ⟨k - 1, by omega⟩
  rw [impl_SpansOk.l0, if_neg (by omega), allFrom, Bool.true_and]
  by_cases h0 : n ≥ 0
  ·
   by_cases h1 : n ≤ 80
   ·
    rw [if_pos h0, if_pos h1, decide_eq_true (show 0 ≤ n ∧ n ≤ 80 by omega), Bool.and_true]
    congr 1
    rw [decide_eq_decide]
    omega
   · rw [if_pos h0, if_neg h1, decide_eq_false (show ¬ (0 ≤ n ∧ n ≤ 80) by omega), Bool.and_false]
  · rw [if_neg h0, decide_eq_false (show ¬ (0 ≤ n ∧ n ≤ 80) by omega), Bool.and_false]
 | d + 1, k, i, hd, hi, hk => by
  obtain ⟨k, rfl⟩ : ∃ m, k = m + 1 := ⟨k - 1, by omega⟩
  have ih := spansI_l l n hl d k (i + 1) (by omega) (by omega) (by omega)
  rw [impl_SpansOk.l0, if_pos (by omega), if_pos (by omega), if_pos (by omega), rdSp, spanOk_i, Option.bind_some, allFrom, okAt]
  have w1 : wrap64 ((i : Int) + 1) = ((i + 1 : Nat) : Int) := by rw [w64 (by omega) (by omega)]; omega
  cases hs : spanOkV (spAt l i) n
  · rw [if_neg (by decide), Bool.false_and, Bool.false_and, Bool.false_and]
  ·
   rw [if_pos rfl, Bool.true_and]
   by_cases h0 : (i : Int) > 0
   ·
    have w2 : wrap64 ((i : Int) - 1) = ((i - 1 : Nat) : Int) := by rw [w64 (by omega) (by omega)]; omega
    rw [if_pos h0, w2, if_pos (by omega), if_pos (by omega), rdSp, decide_eq_false (show ¬ i = 0 by omega), Bool.false_or]
    by_cases h1 : (spAt l (i - 1)).f1 > (spAt l i).f0
    · rw [if_pos h1, decide_eq_false (by omega), Bool.false_and, Bool.false_and]
    · rw [if_neg h1, decide_eq_true (by omega), Bool.true_and, w1, ih]
   · rw [if_neg h0, decide_eq_true (show i = 0 by omega), Bool.true_or, Bool.true_and, w1, ih]
theorem spansI_p {l : List Sp} {n : Int} {k : Nat} (hl : l.length ≤ 1099511627776) (hk : l.length < k) : impl_SpansOk.f k l n = some (spansV l n) := by
 have h := spansI_l l n hl l.length k 0 (by omega) (by omega) hk
 rw [show ((0 : Nat) : Int) = 0 from rfl] at h
 exact h
theorem spansS_l (l : List Sp) (n : Int) (hl : l.length ≤ 1099511627776) (hn : 0 ≤ n) (hn1 : n ≤ 1000000) : ∀ (d k i : Nat), l.length - i = d → i ≤ l.length → d < k → spec_SpansOk.l0 k l n (i : Int) = some (allFrom (okAt l n) i d && (decide (l.length ≤ 12) && decide (0 ≤ n ∧ n ≤ 80)))
 | 0, k, i, hd, hi, hk => by
  obtain ⟨k, rfl⟩ : ∃ m, k = m + 1 := ⟨k - 1, by omega⟩
  rw [spec_SpansOk.l0, if_neg (by omega), allFrom, Bool.true_and]
  by_cases h0 : (l.length : Int) ≤ 12
  · rw [if_pos h0, l1In_f, Option.bind_some, decide_eq_true (show l.length ≤ 12 by omega), Bool.true_and]
  · rw [if_neg h0, decide_eq_false (show ¬ l.length ≤ 12 by omega), Bool.false_and]
 | d + 1, k, i, hd, hi, hk => by
  obtain ⟨k, rfl⟩ : ∃ m, k = m + 1 := ⟨k - 1, by omega⟩
  have ih := spansS_l l n hl hn hn1 d k (i + 1) (by omega) (by omega) (by omega)
  rw [spec_SpansOk.l0, if_pos (by omega), if_pos (by omega), rdSp, spanOk_s _ hn hn1, Option.bind_some, allFrom, okAt]
  have w1 : wrap64 ((i : Int) + 1) = ((i + 1 : Nat) : Int) := by rw [w64 (by omega) (by omega)]; omega
  cases hs : spanOkV (spAt l i) n
  · rw [if_neg (by decide), Bool.false_and, Bool.false_and, Bool.false_and]
  ·
   rw [if_pos rfl, Bool.true_and]
   by_cases h0 : (i : Int) > 0
   ·
    have w2 : wrap64 ((i : Int) - 1) = ((i - 1 : Nat) : Int) := by rw [w64 (by omega) (by omega)]; omega
    rw [if_pos h0, w2, if_pos (by omega), if_pos (by omega), rdSp, decide_eq_false (show ¬ i = 0 by omega), Bool.false_or]
    by_cases h1 : (spAt l (i - 1)).f1 > (spAt l i).f0
    · rw [if_pos h1, decide_eq_false (by omega), Bool.false_and, Bool.false_and]
    · rw [if_neg h1, decide_eq_true (by omega), Bool.true_and, w1, ih]
   · rw [if_neg h0, decide_eq_true (show i = 0 by omega), Bool.true_or, Bool.true_and, w1, ih]
theorem spansS_p {l : List Sp} {n : Int} {k : Nat} (hl : l.length ≤ 1099511627776) (hn : 0 ≤ n) (hn1 : n ≤ 1000000) (hk : l.length < k) : spec_SpansOk.f k l n = some (spansV l n) := by
 have h := spansS_l l n hl hn hn1 l.length k 0 (by omega) (by omega) hk
 rw [show ((0 : Nat) : Int) = 0 from rfl] at h
 exact h
def endsV : List Int → Int → Int → Bool
 | [], p, n => p == n
 | e :: r, p, n => if e ≤ p then false else endsV r e n
theorem endsI_l (l : List Int) (n : Int) (hl : l.length ≤ 1099511627776) : ∀ (d k i : Nat) (p : Int), l.length - i = d → i ≤ l.length → d < k → impl_endsOk.l0 k n p l (l.length : Int) (i : Int) = some (endsV (l.drop i) p n)
 | 0, k, i, p, hd, hi, hk => by
  obtain ⟨k, rfl⟩ : ∃ m, k = m + 1 := ⟨k - 1, by omega⟩
  rw [impl_endsOk.l0, if_neg (by omega), List.drop_eq_nil_of_le (by omega), endsV]
 | d + 1, k, i, p, hd, hi, hk => by
  obtain ⟨k, rfl⟩ : ∃ m, k = m + 1 := ⟨k - 1, by omega⟩
  have hlt : i < l.length := by omega
  rw [impl_endsOk.l0, if_pos (by omega), if_pos (by omega), if_pos (by omega), List.drop_eq_getElem_cons hlt, endsV, rd_get hlt]
  by_cases h : l[i] ≤ p
  · rw [if_pos h, if_pos h]
  ·
   rw [if_neg h, if_neg h, w64 (by omega) (by omega), show ((i : Int) + 1) = ((i + 1 : Nat) : Int) by omega]
   exact endsI_l l n hl d k (i + 1) _ (by omega) (by omega) (by omega)
theorem endsI_p {l : List Int} {n : Int} {k : Nat} (hl : l.length ≤ 1099511627776) (hk : l.length < k) : impl_endsOk.f k l n = some (endsV l 0 n) := by
 have h := endsI_l l n hl l.length k 0 0 (by omega) (by omega) hk
 rw [show ((0 : Nat) : Int) = 0 from rfl, List.drop_zero] at h
 exact h
theorem endsV_big : ∀ (l : List Int) (p n : Int), n < p → endsV l p n = false
 | [], p, n, h => by rw [endsV]; exact beq_eq_false_iff_ne.mpr (by omega)
 | e :: r, p, n, h => by
  rw [endsV]
  by_cases c : e ≤ p
  · rw [if_pos c]
  · rw [if_neg c]; exact endsV_big r e n (by omega)
end Go.Proofs.YtmcdcogedcbndaaGreat.Pure
/- How wide letters are, and as what they count where lines may end, by both texts. -/
namespace Go.Proofs.YtmcdcogedcbndaaGreat.Pure
open Go.RowKit Go.Proofs.YtmcdcogedcbndaaGreat.S Go.Proofs.YtmcdcogedcbndaaGreatW.PrintWords Go.Proofs.YtmcdcogedcbndaaGreatW.PrintLast
theorem has_l (x : Int) (l : List Int) (hn : l.length ≤ 1000) : ∀ (d k i : Nat), l.length - i = d → i ≤ l.length → d < k → spec_l1Has.l0 k l x (i : Int) = some ((l.drop i).contains x)
 | 0, k, i, hd, hi, hk => by
  obtain ⟨k, rfl⟩ : ∃ m, k = m + 1 := ⟨k - 1, by omega⟩
  rw [spec_l1Has.l0, if_neg (by omega), List.drop_eq_nil_of_le (by omega)]
  rfl
 | d + 1, k, i, hd, hi, hk => by
  obtain ⟨k, rfl⟩ : ∃ m, k = m + 1 := ⟨k - 1, by omega⟩
  have ih := has_l x l hn d k (i + 1) (by omega) (by omega) (by omega)
  have hlt : i < l.length := by omega
  rw [spec_l1Has.l0, if_pos (by omega), if_pos (by omega), List.drop_eq_getElem_cons hlt, rd_get hlt, w64 (by omega) (by omega), show ((i : Int) + 1) = ((i + 1 : Nat) : Int) by omega, ih, List.contains_cons]
  by_cases h : l[i] = x
  · rw [if_pos h, beq_iff_eq.mpr h.symm, Bool.true_or]
  · rw [if_neg h, beq_eq_false_iff_ne.mpr (fun e => h e.symm), Bool.false_or]
theorem has_p {l : List Int} {x : Int} {k : Nat} (hn : l.length ≤ 1000) (hk : l.length < k) : spec_l1Has.f k l x = some (l.contains x) := by
 have h := has_l x l hn l.length k 0 (by omega) (by omega) hk
 rw [List.drop_zero] at h
 exact h
def wideC (c a : Int) : Int := if c = 9 ∨ c = 10 ∨ 14 ≤ c ∨ a = 10 ∨ a = 13 then 0 else if a = 105 ∨ a = 106 ∨ a = 108 ∨ a = 102 ∨ a = 116 then 6 else if a = 109 ∨ a = 119 then 16 else if 19968 ≤ a ∧ a ≤ 40959 then 20 else if c = 2 ∨ c = 3 then 12 else if c = 11 then 40 else if c = 12 ∨ c = 8 then 6 else 10
def wideV (a : Int) : Int := wideC (bidiV a) a
theorem wideV_le (a : Int) : 0 ≤ wideV a ∧ wideV a ≤ 40 := by unfold wideV wideC; grind
theorem wide_i {k : Nat} (hk : 10 ≤ k) (a : Int) : impl_RuneWide.f k a = some (wideV a) := by
 obtain ⟨k, rfl⟩ : ∃ m, k = m + 10 := ⟨k - 10, by omega⟩
 unfold impl_RuneWide.f wideV
 rw [impl_bidi_p, Option.bind_some]
 generalize bidiV a = c
 simp only [impl_RuneWide.j0, impl_RuneWide.j1, impl_RuneWide.j2, impl_RuneWide.j3, impl_RuneWide.j4, wideC]
 grind (splits := 40)
theorem wide_s {k : Nat} (hk : 30 ≤ k) (a : Int) : spec_RuneWide.f k a = some (wideV a) := by
 obtain ⟨k, rfl⟩ : ∃ m, k = m + 30 := ⟨k - 30, by omega⟩
 unfold spec_RuneWide.f wideV
 rw [spec_bidi_k (by omega), Option.bind_some]
 generalize bidiV a = c
 have hh : ∀ k' : Nat, 20 ≤ k' → spec_l1Has.f k' [105, 106, 108, 102, 116] a = some (decide (a = 105 ∨ a = 106 ∨ a = 108 ∨ a = 102 ∨ a = 116)) := fun k' hk' => by
  rw [has_p (by decide) (by show 5 < k'; omega)]
  congr 1
  rw [Bool.eq_iff_iff]
  simp
 simp only [spec_RuneWide.j0, spec_RuneWide.j1, spec_RuneWide.j2, l1In_f, Option.bind_some, wideC, hh (k + 29) (by omega)]
 grind (splits := 40)
def signC (a : Int) : Int := if a = 40 ∨ a = 91 ∨ a = 123 then 8 else if a = 41 ∨ a = 93 ∨ a = 125 then 9 else if a = 33 ∨ a = 63 then 10 else if a = 34 then 11 else if a = 45 then 12 else if a = 44 ∨ a = 46 ∨ a = 58 ∨ a = 59 ∨ a = 47 then 13 else if a = 9 ∨ a = 173 then 14 else 1
theorem signs_s {k : Nat} (hk : 10 ≤ k) (a : Int) : spec_l5Signs.f k a = some (signC a) := by
 obtain ⟨k, rfl⟩ : ∃ m, k = m + 10 := ⟨k - 10, by omega⟩
 simp only [spec_l5Signs.f, spec_l5Signs.j0, spec_l5Signs.j1, spec_l5Signs.j2, spec_l5Signs.j3, signC]
 grind (splits := 60)
def tailC (a : Int) : Int := if a = 10 then 4 else if a = 32 then 3 else if a = 160 then 5 else if a = 8203 then 6 else if a = 8205 then 7 else if (48 ≤ a ∧ a ≤ 57) ∨ (1632 ≤ a ∧ a ≤ 1641) then 2 else if 19968 ≤ a ∧ a ≤ 40959 then 15 else signC a
def lineV (a : Int) : Int := if bidiV a = 9 ∨ 14 ≤ bidiV a then 7 else tailC a
theorem line_s {k : Nat} (hk : 40 ≤ k) (a : Int) : spec_RuneLine.f k a = some (lineV a) := by
 obtain ⟨k, rfl⟩ : ∃ m, k = m + 40 := ⟨k - 40, by omega⟩
 unfold spec_RuneLine.f lineV tailC
 rw [spec_bidi_k (by omega)]
 by_cases h0 : a = 10
 · subst h0; rfl
 by_cases h1 : a = 32
 · subst h1; rfl
 by_cases h2 : a = 160
 · subst h2; rfl
 by_cases h3 : a = 8203
 · subst h3; rfl
 rw [if_neg h0, if_neg h1, if_neg h2, if_neg h3, if_neg h0, if_neg h1, if_neg h2, if_neg h3, Option.bind_some, Option.bind_some]
 generalize bidiV a = c
 simp only [spec_RuneLine.j0, spec_RuneLine.j1, l1In_f, Option.bind_some, signs_s (k := k + 38) (by omega)]
 grind (splits := 40)
theorem tail_chain (a : Int) : (if 9 ≤ a ∧ a ≤ 9 then (14 : Int) else if 10 ≤ a ∧ a ≤ 10 then (4 : Int) else if 32 ≤ a ∧ a ≤ 32 then (3 : Int) else if 33 ≤ a ∧ a ≤ 33 then (10 : Int) else if 34 ≤ a ∧ a ≤ 34 then (11 : Int) else if 40 ≤ a ∧ a ≤ 40 then (8 : Int) else if 41 ≤ a ∧ a ≤ 41 then (9 : Int) else if 44 ≤ a ∧ a ≤ 44 then (13 : Int) else if 45 ≤ a ∧ a ≤ 45 then (12 : Int) else if 46 ≤ a ∧ a ≤ 47 then (13 : Int) else if 48 ≤ a ∧ a ≤ 57 then (2 : Int) else if 58 ≤ a ∧ a ≤ 59 then (13 : Int) else if 63 ≤ a ∧ a ≤ 63 then (10 : Int) else if 91 ≤ a ∧ a ≤ 91 then (8 : Int) else if 93 ≤ a ∧ a ≤ 93 then (9 : Int) else if 123 ≤ a ∧ a ≤ 123 then (8 : Int) else if 125 ≤ a ∧ a ≤ 125 then (9 : Int) else if 160 ≤ a ∧ a ≤ 160 then (5 : Int) else if 173 ≤ a ∧ a ≤ 173 then (14 : Int) else if 1632 ≤ a ∧ a ≤ 1641 then (2 : Int) else if 8203 ≤ a ∧ a ≤ 8203 then (6 : Int) else if 8205 ≤ a ∧ a ≤ 8205 then (7 : Int) else if 19968 ≤ a ∧ a ≤ 40959 then (15 : Int) else 1) = tailC a := by
 unfold tailC signC
 by_cases h9 : a < 9
 · (repeat (first | rw [if_pos (by omega)] | rw [if_neg (by omega)])) <;> try rfl
 by_cases h10 : a < 10
 · (repeat (first | rw [if_pos (by omega)] | rw [if_neg (by omega)])) <;> try rfl
 clear h9
 by_cases h11 : a < 11
 · (repeat (first | rw [if_pos (by omega)] | rw [if_neg (by omega)])) <;> try rfl
 clear h10
 by_cases h32 : a < 32
 · (repeat (first | rw [if_pos (by omega)] | rw [if_neg (by omega)])) <;> try rfl
 clear h11
 by_cases h33 : a < 33
 · (repeat (first | rw [if_pos (by omega)] | rw [if_neg (by omega)])) <;> try rfl
 clear h32
 by_cases h34 : a < 34
 · (repeat (first | rw [if_pos (by omega)] | rw [if_neg (by omega)])) <;> try rfl
 clear h33
 by_cases h35 : a < 35
 · (repeat (first | rw [if_pos (by omega)] | rw [if_neg (by omega)])) <;> try rfl
 clear h34
 by_cases h40 : a < 40
 · (repeat (first | rw [if_pos (by omega)] | rw [if_neg (by omega)])) <;> try rfl
 clear h35
 by_cases h41 : a < 41
 · (repeat (first | rw [if_pos (by omega)] | rw [if_neg (by omega)])) <;> try rfl
 clear h40
 by_cases h42 : a < 42
 · (repeat (first | rw [if_pos (by omega)] | rw [if_neg (by omega)])) <;> try rfl
 clear h41
 by_cases h44 : a < 44
 · (repeat (first | rw [if_pos (by omega)] | rw [if_neg (by omega)])) <;> try rfl
 clear h42
 by_cases h45 : a < 45
 · (repeat (first | rw [if_pos (by omega)] | rw [if_neg (by omega)])) <;> try rfl
 clear h44
 by_cases h46 : a < 46
 · (repeat (first | rw [if_pos (by omega)] | rw [if_neg (by omega)])) <;> try rfl
 clear h45
 by_cases h48 : a < 48
 · (repeat (first | rw [if_pos (by omega)] | rw [if_neg (by omega)])) <;> try rfl
 clear h46
 by_cases h58 : a < 58
 · (repeat (first | rw [if_pos (by omega)] | rw [if_neg (by omega)])) <;> try rfl
 clear h48
 by_cases h60 : a < 60
 · (repeat (first | rw [if_pos (by omega)] | rw [if_neg (by omega)])) <;> try rfl
 clear h58
 by_cases h63 : a < 63
 · (repeat (first | rw [if_pos (by omega)] | rw [if_neg (by omega)])) <;> try rfl
 clear h60
 by_cases h64 : a < 64
 · (repeat (first | rw [if_pos (by omega)] | rw [if_neg (by omega)])) <;> try rfl
 clear h63
 by_cases h91 : a < 91
 · (repeat (first | rw [if_pos (by omega)] | rw [if_neg (by omega)])) <;> try rfl
 clear h64
 by_cases h92 : a < 92
 · (repeat (first | rw [if_pos (by omega)] | rw [if_neg (by omega)])) <;> try rfl
 clear h91
 by_cases h93 : a < 93
 · (repeat (first | rw [if_pos (by omega)] | rw [if_neg (by omega)])) <;> try rfl
 clear h92
 by_cases h94 : a < 94
 · (repeat (first | rw [if_pos (by omega)] | rw [if_neg (by omega)])) <;> try rfl
 clear h93
 by_cases h123 : a < 123
 · (repeat (first | rw [if_pos (by omega)] | rw [if_neg (by omega)])) <;> try rfl
 clear h94
 by_cases h124 : a < 124
 · (repeat (first | rw [if_pos (by omega)] | rw [if_neg (by omega)])) <;> try rfl
 clear h123
 by_cases h125 : a < 125
 · (repeat (first | rw [if_pos (by omega)] | rw [if_neg (by omega)])) <;> try rfl
 clear h124
 by_cases h126 : a < 126
 · (repeat (first | rw [if_pos (by omega)] | rw [if_neg (by omega)])) <;> try rfl
 clear h125
 by_cases h160 : a < 160
 · (repeat (first | rw [if_pos (by omega)] | rw [if_neg (by omega)])) <;> try rfl
 clear h126
 by_cases h161 : a < 161
 · (repeat (first | rw [if_pos (by omega)] | rw [if_neg (by omega)])) <;> try rfl
 clear h160
 by_cases h173 : a < 173
 · (repeat (first | rw [if_pos (by omega)] | rw [if_neg (by omega)])) <;> try rfl
 clear h161
 by_cases h174 : a < 174
 · (repeat (first | rw [if_pos (by omega)] | rw [if_neg (by omega)])) <;> try rfl
 clear h173
 by_cases h1632 : a < 1632
 · (repeat (first | rw [if_pos (by omega)] | rw [if_neg (by omega)])) <;> try rfl
 clear h174
 by_cases h1642 : a < 1642
 · (repeat (first | rw [if_pos (by omega)] | rw [if_neg (by omega)])) <;> try rfl
 clear h1632
 by_cases h8203 : a < 8203
 · (repeat (first | rw [if_pos (by omega)] | rw [if_neg (by omega)])) <;> try rfl
 clear h1642
 by_cases h8204 : a < 8204
 · (repeat (first | rw [if_pos (by omega)] | rw [if_neg (by omega)])) <;> try rfl
 clear h8203
 by_cases h8205 : a < 8205
 · (repeat (first | rw [if_pos (by omega)] | rw [if_neg (by omega)])) <;> try rfl
 clear h8204
 by_cases h8206 : a < 8206
 · (repeat (first | rw [if_pos (by omega)] | rw [if_neg (by omega)])) <;> try rfl
 clear h8205
 by_cases h19968 : a < 19968
 · (repeat (first | rw [if_pos (by omega)] | rw [if_neg (by omega)])) <;> try rfl
 clear h8206
 by_cases h40960 : a < 40960
 · (repeat (first | rw [if_pos (by omega)] | rw [if_neg (by omega)])) <;> try rfl
 clear h19968
 (repeat (first | rw [if_pos (by omega)] | rw [if_neg (by omega)])) <;> try rfl
theorem reach_i (a : Int) : (impl_lineReaches.f).bind (fun t => impl_find.f t a 1) = some (tailC a) := by
 unfold impl_lineReaches.f impl_find.f
 rw [Option.bind_some, if_pos (by decide), findV_eq (by decide), ← tail_chain]
 simp only [find_if, List.find?_nil, inR_iff]
 congr 1
 by_cases h : 9 ≤ a ∧ a ≤ 9
 · simp only [if_pos h]
 simp only [if_neg h]; clear h
 by_cases h : 10 ≤ a ∧ a ≤ 10
 · simp only [if_pos h]
 simp only [if_neg h]; clear h
 by_cases h : 32 ≤ a ∧ a ≤ 32
 · simp only [if_pos h]
 simp only [if_neg h]; clear h
 by_cases h : 33 ≤ a ∧ a ≤ 33
 · simp only [if_pos h]
 simp only [if_neg h]; clear h
 by_cases h : 34 ≤ a ∧ a ≤ 34
 · simp only [if_pos h]
 simp only [if_neg h]; clear h
 by_cases h : 40 ≤ a ∧ a ≤ 40
 · simp only [if_pos h]
 simp only [if_neg h]; clear h
 by_cases h : 41 ≤ a ∧ a ≤ 41
 · simp only [if_pos h]
 simp only [if_neg h]; clear h
 by_cases h : 44 ≤ a ∧ a ≤ 44
 · simp only [if_pos h]
 simp only [if_neg h]; clear h
 by_cases h : 45 ≤ a ∧ a ≤ 45
 · simp only [if_pos h]
 simp only [if_neg h]; clear h
 by_cases h : 46 ≤ a ∧ a ≤ 47
 · simp only [if_pos h]
 simp only [if_neg h]; clear h
 by_cases h : 48 ≤ a ∧ a ≤ 57
 · simp only [if_pos h]
 simp only [if_neg h]; clear h
 by_cases h : 58 ≤ a ∧ a ≤ 59
 · simp only [if_pos h]
 simp only [if_neg h]; clear h
 by_cases h : 63 ≤ a ∧ a ≤ 63
 · simp only [if_pos h]
 simp only [if_neg h]; clear h
 by_cases h : 91 ≤ a ∧ a ≤ 91
 · simp only [if_pos h]
 simp only [if_neg h]; clear h
 by_cases h : 93 ≤ a ∧ a ≤ 93
 · simp only [if_pos h]
 simp only [if_neg h]; clear h
 by_cases h : 123 ≤ a ∧ a ≤ 123
 · simp only [if_pos h]
 simp only [if_neg h]; clear h
 by_cases h : 125 ≤ a ∧ a ≤ 125
 · simp only [if_pos h]
 simp only [if_neg h]; clear h
 by_cases h : 160 ≤ a ∧ a ≤ 160
 · simp only [if_pos h]
 simp only [if_neg h]; clear h
 by_cases h : 173 ≤ a ∧ a ≤ 173
 · simp only [if_pos h]
 simp only [if_neg h]; clear h
 by_cases h : 1632 ≤ a ∧ a ≤ 1641
 · simp only [if_pos h]
 simp only [if_neg h]; clear h
 by_cases h : 8203 ≤ a ∧ a ≤ 8203
 · simp only [if_pos h]
 simp only [if_neg h]; clear h
 by_cases h : 8205 ≤ a ∧ a ≤ 8205
 · simp only [if_pos h]
 simp only [if_neg h]; clear h
 by_cases h : 19968 ≤ a ∧ a ≤ 40959
 · simp only [if_pos h]
 simp only [if_neg h]
theorem line_i {k : Nat} (hk : 10 ≤ k) (a : Int) : impl_RuneLine.f k a = some (lineV a) := by
 obtain ⟨k, rfl⟩ : ∃ m, k = m + 10 := ⟨k - 10, by omega⟩
 unfold impl_RuneLine.f lineV
 rw [impl_bidi_p, Option.bind_some]
 have hr := reach_i a
 by_cases h0 : bidiV a = 9
 · rw [if_pos h0, if_pos (.inl h0), impl_RuneLine.j0, if_pos rfl]
 ·
  rw [if_neg h0, impl_RuneLine.j0]
  by_cases h1 : bidiV a ≥ 14
  · rw [decide_eq_true h1, if_pos rfl, if_pos (.inr h1)]
  ·
   rw [decide_eq_false h1, if_neg (by decide), if_neg (by omega), ← hr]
   congr 1
   funext t
   cases impl_find.f t a 1 <;> rfl
end Go.Proofs.YtmcdcogedcbndaaGreat.Pure
/- Which letters join the one ahead, by both texts. -/
namespace Go.Proofs.YtmcdcogedcbndaaGreat.Pure
open Go.RowKit Go.Proofs.YtmcdcogedcbndaaGreat.S Go.Proofs.YtmcdcogedcbndaaGreatW.PrintWords Go.Proofs.YtmcdcogedcbndaaGreatW.PrintLast
def flagB (a : Int) : Bool := decide (127462 ≤ a ∧ a ≤ 127487)
def flN (rs : List Int) : Nat → Nat
 | 0 => 0
 | i + 1 => if flagB (rs.getD i 0) = true then flN rs i + 1 else 0
def jV (rs : List Int) (i : Nat) : Bool :=
 if rs.getD i 0 = 10 ∨ rs.getD (i - 1) 0 = 10 then decide (rs.getD (i - 1) 0 = 13 ∧ rs.getD i 0 = 10)
 else if bidiV (rs.getD i 0) = 9 ∨ rs.getD i 0 = 8205 then true else flagB (rs.getD i 0) && decide (flN rs i % 2 = 1)
theorem dec13 {p r : Int} (h : p = 13) : (r == 10) = decide (p = 13 ∧ r = 10) := by
 subst h
 by_cases e : r = 10
 · subst e; rfl
 · rw [beq_eq_false_iff_ne.mpr e, decide_eq_false (fun h => e h.2)]
theorem flag_s (a : Int) : spec_l2Flag.f a = some (flagB a) := by
 unfold spec_l2Flag.f flagB
 rw [l1In_f, Option.bind_some]
theorem flag_i (a : Int) : impl_isRegional.f a = some (flagB a) := by
 unfold impl_isRegional.f flagB
 by_cases h : a ≥ 127462
 ·
  rw [if_pos h]
  congr 1
  rw [decide_eq_decide]
  omega
 · rw [if_neg h, decide_eq_false (by omega)]
theorem joinS_l (rs : List Int) (r : Int) (hn : rs.length ≤ 1000) : ∀ (m k n : Nat), m ≤ rs.length → m < k → n + m ≤ 1000 → spec_l2Joins.l0 k rs r (n : Int) ((m : Int) - 1) = some (flagB r && decide ((n + flN rs m) % 2 = 1))
 | 0, k, n, hm, hk, hn1 => by
  obtain ⟨k, rfl⟩ : ∃ m, k = m + 1 := ⟨k - 1, by omega⟩
  rw [spec_l2Joins.l0, if_neg (by omega), flag_s, Option.bind_some, flN, Nat.add_zero]
  cases flagB r
  · rfl
  ·
   rw [if_pos rfl, Bool.true_and]
   congr 1
   rw [show Int.tmod (n : Int) 2 = ((n % 2 : Nat) : Int) by rw [Int.tmod_eq_emod_of_nonneg (by omega)]; rfl]
   rw [Bool.eq_iff_iff]
   simp
   omega
 | m + 1, k, n, hm, hk, hn1 => by
  obtain ⟨k, rfl⟩ : ∃ m, k = m + 1 := ⟨k - 1, by omega⟩
  rw [spec_l2Joins.l0, show ((m + 1 : Nat) : Int) - 1 = (m : Int) by omega, if_pos (by omega), if_pos (by omega), if_pos (by omega), flag_s, Option.bind_some, rd_nat, flN]
  by_cases h : flagB (rs.getD m 0) = true
  ·
   rw [if_pos h, if_pos h, w64 (by omega) (by omega), w64 (by omega) (by omega)]
   have := joinS_l rs r hn m k (n + 1) (by omega) (by omega) (by omega)
   rw [show ((n + 1 : Nat) : Int) = (n : Int) + 1 by omega] at this
   rw [this, show n + 1 + flN rs m = n + (flN rs m + 1) by omega]
  ·
   rw [if_neg h, if_neg h, Nat.add_zero, flag_s, Option.bind_some]
   cases flagB r
   · rfl
   ·
    rw [if_pos rfl, Bool.true_and]
    congr 1
    rw [show Int.tmod (n : Int) 2 = ((n % 2 : Nat) : Int) by rw [Int.tmod_eq_emod_of_nonneg (by omega)]; rfl]
    rw [Bool.eq_iff_iff]
    simp
    omega
theorem join_s {rs : List Int} {i k : Nat} (hn : rs.length ≤ 1000) (h0 : 0 < i) (hi : i < rs.length) (hk : rs.length + 40 ≤ k) : spec_l2Joins.f k rs (i : Int) = some (jV rs i) := by
 obtain ⟨k, rfl⟩ : ∃ m, k = m + 2 := ⟨k - 2, by omega⟩
 have w1 : wrap64 ((i : Int) - 1) = ((i - 1 : Nat) : Int) := by rw [w64 (by omega) (by omega)]; omega
 unfold spec_l2Joins.f jV
 rw [if_pos (by omega), if_pos (by omega), rd_nat, w1, rd_nat]
 have J0 : ∀ b : Bool, spec_l2Joins.j0 (k + 2) rs (i : Int) (rs.getD i 0) b = if b = true then some (decide (rs.getD (i - 1) 0 = 13 ∧ rs.getD i 0 = 10)) else some (if bidiV (rs.getD i 0) = 9 ∨ rs.getD i 0 = 8205 then true else flagB (rs.getD i 0) && decide (flN rs i % 2 = 1)) := by
  intro b
  have L := joinS_l rs (rs.getD i 0) hn i k 0 (by omega) (by omega) (by omega)
  rw [Nat.zero_add] at L
  cases b
  ·
   rw [spec_l2Joins.j0, if_neg (by decide), if_neg (by decide), spec_bidi_k (by omega), Option.bind_some]
   by_cases h9 : bidiV (rs.getD i 0) = 9
   · rw [if_pos h9, if_pos (.inl h9), spec_l2Joins.j1, if_pos rfl]
   ·
    rw [if_neg h9, spec_l2Joins.j1]
    by_cases h8 : rs.getD i 0 = 8205
    · rw [beq_iff_eq.mpr h8, if_pos rfl, if_pos (.inr h8)]
    ·
     rw [beq_eq_false_iff_ne.mpr h8, if_neg (by decide), if_neg (by rintro (h | h); exact h9 h; exact h8 h), w64 (x := (i : Int) - 1) (by omega) (by omega)]
     exact L
  ·
   rw [spec_l2Joins.j0, if_pos rfl, if_pos rfl, w1, if_pos (by omega), if_pos (by omega), rd_nat]
   by_cases h13 : rs.getD (i - 1) 0 = 13
   · rw [if_pos h13, dec13 h13]
   · rw [if_neg h13, decide_eq_false (fun h => h13 h.1)]
 by_cases h10 : rs.getD i 0 = 10
 · rw [if_pos h10, J0, if_pos rfl, if_pos (.inl h10)]
 ·
  rw [if_neg h10, if_pos (by omega), if_pos (by omega), J0]
  by_cases hp : rs.getD (i - 1) 0 = 10
  · rw [beq_iff_eq.mpr hp, if_pos rfl, if_pos (.inr hp)]
  · rw [beq_eq_false_iff_ne.mpr hp, if_neg (show ¬ (rs.getD i 0 = 10 ∨ rs.getD (i - 1) 0 = 10) by rintro (h | h); exact h10 h; exact hp h), if_neg (show ¬ (false = true) by decide)]
def stV (rs : List Int) (i : Nat) : Int := if i = 0 then 0 else if rs.getD (i - 1) 0 = 13 then 1 else if rs.getD (i - 1) 0 = 10 then 2 else if flagB (rs.getD (i - 1) 0) = true then (if flN rs i % 2 = 1 then 3 else 4) else 5
theorem st_next {rs : List Int} {i k : Nat} (hk : 2 ≤ k) : impl_joining_next.f k (stV rs i) (rs.getD i 0) = some (stV rs (i + 1)) := by
 obtain ⟨k, rfl⟩ : ∃ m, k = m + 2 := ⟨k - 2, by omega⟩
 unfold impl_joining_next.f
 have e : stV rs (i + 1) = if rs.getD i 0 = 13 then 1 else if rs.getD i 0 = 10 then 2 else if flagB (rs.getD i 0) = true then (if flN rs (i + 1) % 2 = 1 then 3 else 4) else 5 := by
  unfold stV
  rw [if_neg (by omega), Nat.add_sub_cancel]
 rw [e]
 by_cases h13 : rs.getD i 0 = 13
 · rw [if_pos h13, if_pos h13]
 rw [if_neg h13, if_neg h13]
 by_cases h10 : rs.getD i 0 = 10
 · rw [if_pos h10, if_pos h10]
 rw [if_neg h10, if_neg h10, flag_i, Option.bind_some, flN]
 by_cases hf : flagB (rs.getD i 0) = true
 ·
  rw [if_pos hf, if_pos hf, if_pos hf, impl_joining_next.j0]
  by_cases h3 : stV rs i = 3
  ·
   rw [beq_iff_eq.mpr h3, if_pos rfl]
   have : flN rs i % 2 = 1 := by
    unfold stV at h3
    grind
   rw [if_neg (by omega)]
  ·
   rw [beq_eq_false_iff_ne.mpr h3, if_neg (by decide), flag_i, Option.bind_some, if_pos hf]
   have : flN rs i % 2 = 0 := by
    unfold stV at h3
    by_cases h0 : i = 0
    · subst h0; rfl
    ·
     obtain ⟨j, rfl⟩ : ∃ j, i = j + 1 := ⟨i - 1, by omega⟩
     rw [if_neg h0, Nat.add_sub_cancel] at h3
     by_cases hg : flagB (rs.getD j 0) = true
     ·
      have n13 : rs.getD j 0 ≠ 13 := by intro h; rw [h] at hg; exact absurd hg (by decide)
      have n10 : rs.getD j 0 ≠ 10 := by intro h; rw [h] at hg; exact absurd hg (by decide)
      rw [if_neg n13, if_neg n10, if_pos hg] at h3
      by_cases ho : flN rs (j + 1) % 2 = 1
      · rw [if_pos ho] at h3; exact absurd rfl h3
      · omega
     · rw [flN, if_neg hg]
   rw [if_pos (by omega)]
 · rw [if_neg hf, if_neg hf, impl_joining_next.j0, if_neg (by decide), flag_i, Option.bind_some, if_neg hf]
theorem st_joins {rs : List Int} {i k : Nat} (hk : 2 ≤ k) : impl_joining_joins.f k (stV rs i) (rs.getD i 0) = some (if i = 0 then false else jV rs i) := by
 obtain ⟨k, rfl⟩ : ∃ m, k = m + 2 := ⟨k - 2, by omega⟩
 unfold impl_joining_joins.f
 by_cases h0 : i = 0
 ·
  subst h0
  rfl
 rw [if_neg h0]
 have hs0 : stV rs i ≠ 0 := by unfold stV; grind
 have hs2 : stV rs i = 2 ↔ rs.getD (i - 1) 0 = 10 := by unfold stV; grind
 have hs1 : stV rs i = 1 ↔ rs.getD (i - 1) 0 = 13 := by unfold stV; grind
 have hs3 : stV rs i = 3 ↔ flN rs i % 2 = 1 := by
  obtain ⟨j, rfl⟩ : ∃ j, i = j + 1 := ⟨i - 1, by omega⟩
  unfold stV
  rw [if_neg h0, Nat.add_sub_cancel]
  by_cases hg : flagB (rs.getD j 0) = true
  ·
   have n13 : rs.getD j 0 ≠ 13 := by intro h; rw [h] at hg; exact absurd hg (by decide)
   have n10 : rs.getD j 0 ≠ 10 := by intro h; rw [h] at hg; exact absurd hg (by decide)
   rw [if_neg n13, if_neg n10, if_pos hg]
   grind
  ·
   rw [if_neg hg, flN, if_neg hg]
   grind
 generalize stV rs i = s at hs0 hs1 hs2 hs3
 unfold jV
 rw [if_neg hs0]
 have J : ∀ b : Bool, impl_joining_joins.j0 (k + 2) s (rs.getD i 0) b = if b = true then some (decide (rs.getD (i - 1) 0 = 13 ∧ rs.getD i 0 = 10)) else some (if bidiV (rs.getD i 0) = 9 ∨ rs.getD i 0 = 8205 then true else flagB (rs.getD i 0) && decide (flN rs i % 2 = 1)) := by
  intro b
  cases b
  ·
   rw [impl_joining_joins.j0]
   simp only [Bool.false_eq_true, if_false]
   rw [impl_bidi_p, Option.bind_some]
   by_cases h9 : bidiV (rs.getD i 0) = 9
   · rw [if_pos h9, if_pos (.inl h9)]
   ·
    rw [if_neg h9]
    by_cases h8 : rs.getD i 0 = 8205
    · rw [if_pos h8, if_pos (.inr h8)]
    ·
     rw [if_neg h8, if_neg (by rintro (h | h); exact h9 h; exact h8 h), flag_i, Option.bind_some]
     cases flagB (rs.getD i 0)
     · rfl
     ·
      rw [if_pos rfl, Bool.true_and]
      congr 1
      rw [Bool.eq_iff_iff, beq_iff_eq, decide_eq_true_eq]
      exact hs3
  ·
   rw [impl_joining_joins.j0, if_pos rfl, if_pos rfl]
   by_cases h1 : s = 1
   · rw [if_pos h1, dec13 (hs1.mp h1)]
   · rw [if_neg h1, decide_eq_false (fun h => h1 (hs1.mpr h.1))]
 by_cases h2 : s = 2
 · rw [if_pos h2, J, if_pos rfl, if_pos (.inr (hs2.mp h2))]
 ·
  rw [if_neg h2, J]
  by_cases h10 : rs.getD i 0 = 10
  · rw [beq_iff_eq.mpr h10, if_pos rfl, if_pos (.inl h10)]
  · rw [beq_eq_false_iff_ne.mpr h10, if_neg (show ¬ (rs.getD i 0 = 10 ∨ rs.getD (i - 1) 0 = 10) by rintro (h | h); exact h10 h; exact h2 (hs2.mpr h)), if_neg (show ¬ (false = true) by decide)]
def jAt (rs : List Int) (i : Nat) : Bool := if i = 0 then false else jV rs i
def jsV (rs : List Int) : List Bool := (List.range rs.length).map (jAt rs)
theorem jsV_len (rs : List Int) : (jsV rs).length = rs.length := by simp [jsV]
theorem jsV_get {rs : List Int} {i : Nat} (h : i < rs.length) : (jsV rs).getD i false = jAt rs i := by simp [jsV, List.getD_eq_getElem?_getD, h]
theorem joined_l (rs : List Int) (hn : rs.length ≤ 1000) : ∀ (d k i : Nat), rs.length - i = d → i ≤ rs.length → d + 10 < k → impl_joined.l0 k ((List.range i).map (jAt rs)) (stV rs i) rs (rs.length : Int) (i : Int) = some (jsV rs)
 | 0, k, i, hd, hi, hk => by
  obtain ⟨k, rfl⟩ : ∃ m, k = m + 1 := ⟨k - 1, by omega⟩
  obtain rfl : i = rs.length := by omega
  rw [impl_joined.l0, if_neg (by omega)]
  rfl
 | d + 1, k, i, hd, hi, hk => by
  obtain ⟨k, rfl⟩ : ∃ m, k = m + 1 := ⟨k - 1, by omega⟩
  rw [impl_joined.l0, if_pos (by omega), if_pos (by omega), if_pos (by omega), rd_nat, st_joins (by omega), Option.bind_some, if_pos (by simp; omega), st_next (by omega), Option.bind_some, w64 (by omega) (by omega)]
  have := joined_l rs hn d k (i + 1) (by omega) (by omega) (by omega)
  rw [List.range_succ, List.map_append, List.map_cons, List.map_nil] at this
  exact this
theorem joined_p {rs : List Int} {k : Nat} (hn : rs.length ≤ 1000) (hk : rs.length + 10 < k) : impl_joined.f k rs = some (jsV rs) := by
 have h := joined_l rs hn rs.length k 0 (by omega) (by omega) hk
 exact h
end Go.Proofs.YtmcdcogedcbndaaGreat.Pure
/- Where lines may end, by both texts. -/
namespace Go.Proofs.YtmcdcogedcbndaaGreat.Pure
open Go.RowKit Go.Proofs.YtmcdcogedcbndaaGreat.S Go.Proofs.YtmcdcogedcbndaaGreatW.PrintWords Go.Proofs.YtmcdcogedcbndaaGreatW.PrintLast
def spc (c : Int) : Prop := c = 3 ∨ c = 4 ∨ c = 6
instance (c : Int) : Decidable (spc c) := by unfold spc; infer_instance
theorem inL_346 (c : Int) : inL [3, 4, 6] c = decide (spc c) := by
 unfold inL
 rw [Bool.eq_iff_iff, decide_eq_true_eq]
 unfold spc
 simp
theorem after_i {k : Nat} (hk : 4 ≤ k) (c : Int) : impl_afterSpace.f k c = some (decide (spc c)) := by
 unfold impl_afterSpace.f
 rw [one_f k c [3, 4, 6] (by decide) (by show 3 < k; omega), Option.bind_some, ← inL_346]
 rfl
def cntV (rs : List Int) : Nat → Int
 | 0 => if lineV (rs.getD 0 0) = 7 then 1 else lineV (rs.getD 0 0)
 | i + 1 => if lineV (rs.getD (i + 1) 0) = 7 then (if spc (cntV rs i) then 1 else cntV rs i) else lineV (rs.getD (i + 1) 0)
def csV (rs : List Int) : List Int := (List.range rs.length).map (cntV rs)
theorem csV_len (rs : List Int) : (csV rs).length = rs.length := by simp [csV]
theorem csV_get {rs : List Int} {i : Nat} (h : i < rs.length) : (csV rs).getD i 0 = cntV rs i := by simp [csV, List.getD_eq_getElem?_getD, h]
theorem pre_get (f : Nat → Int) {i n : Nat} (h : i < n) : ((List.range n).map f).getD i 0 = f i := by simp [List.getD_eq_getElem?_getD, h]
theorem countsI_l (rs : List Int) (hn : rs.length ≤ 1000) : ∀ (d k i : Nat), rs.length - i = d → i ≤ rs.length → d + 50 < k → impl_countsOf.l0 k ((List.range i).map (cntV rs)) rs (rs.length : Int) (i : Int) = some (csV rs)
 | 0, k, i, hd, hi, hk => by
  obtain ⟨k, rfl⟩ : ∃ m, k = m + 1 := ⟨k - 1, by omega⟩
  obtain rfl : i = rs.length := by omega
  rw [impl_countsOf.l0, if_neg (by omega)]
  rfl
 | d + 1, k, i, hd, hi, hk => by
  obtain ⟨k, rfl⟩ : ∃ m, k = m + 1 := ⟨k - 1, by omega⟩
  have ih := countsI_l rs hn d k (i + 1) (by omega) (by omega) (by omega)
  rw [List.range_succ, List.map_append, List.map_cons, List.map_nil] at ih
  have hl : ((List.range i).map (cntV rs)).length < 17592186044416 := by simp; omega
  have w2 : wrap64 ((i : Int) + 1) = ((i + 1 : Nat) : Int) := by rw [w64 (by omega) (by omega)]; omega
  rw [impl_countsOf.l0, if_pos (by omega), if_pos (by omega), if_pos (by omega), rd_nat, line_i (by omega), Option.bind_some, w2]
  by_cases h7 : lineV (rs.getD i 0) = 7
  ·
   rw [if_pos h7]
   by_cases h0 : i = 0
   ·
    subst h0
    rw [if_neg (by omega), if_pos hl]
    rw [cntV, if_pos h7] at ih
    exact ih
   ·
    obtain ⟨j, rfl⟩ : ∃ j, i = j + 1 := ⟨i - 1, by omega⟩
    have w1 : wrap64 (((j + 1 : Nat) : Int) - 1) = (j : Int) := by rw [w64 (by omega) (by omega)]; omega
    rw [if_pos (by omega), w1, if_pos (by omega), if_pos (by simp; omega), rd_nat, pre_get _ (by omega), after_i (by omega), Option.bind_some]
    rw [cntV, if_pos h7] at ih
    by_cases hs : spc (cntV rs j)
    ·
     rw [decide_eq_true hs, if_pos rfl, if_pos hl]
     rw [if_pos hs] at ih
     exact ih
    ·
     rw [decide_eq_false hs, if_neg (by decide), if_pos hl]
     rw [if_neg hs] at ih
     exact ih
  ·
   rw [if_neg h7, if_pos hl]
   have e : cntV rs i = lineV (rs.getD i 0) := by
    cases i with
    | zero => rw [cntV, if_neg h7]
    | succ j => rw [cntV, if_neg h7]
   rw [e] at ih
   exact ih
theorem countsI_p {rs : List Int} {k : Nat} (hn : rs.length ≤ 1000) (hk : rs.length + 50 < k) : impl_countsOf.f k rs = some (csV rs) := countsI_l rs hn rs.length k 0 (by omega) (by omega) hk
theorem countsS_l (rs : List Int) (hn : rs.length ≤ 1000) : ∀ (d k i : Nat), rs.length - i = d → i ≤ rs.length → d + 50 < k → spec_l5Counts.l0 k rs ((List.range i).map (cntV rs)) (i : Int) = some (csV rs)
 | 0, k, i, hd, hi, hk => by
  obtain ⟨k, rfl⟩ : ∃ m, k = m + 1 := ⟨k - 1, by omega⟩
  obtain rfl : i = rs.length := by omega
  rw [spec_l5Counts.l0, if_neg (by omega)]
  rfl
 | d + 1, k, i, hd, hi, hk => by
  obtain ⟨k, rfl⟩ : ∃ m, k = m + 1 := ⟨k - 1, by omega⟩
  have ih := countsS_l rs hn d k (i + 1) (by omega) (by omega) (by omega)
  rw [List.range_succ, List.map_append, List.map_cons, List.map_nil] at ih
  have hl : ((List.range i).map (cntV rs)).length < 17592186044416 := by simp; omega
  have w2 : wrap64 ((i : Int) + 1) = ((i + 1 : Nat) : Int) := by rw [w64 (by omega) (by omega)]; omega
  rw [spec_l5Counts.l0, if_pos (by omega), if_pos (by omega), rd_nat, line_s (by omega), Option.bind_some, w2]
  by_cases h7 : lineV (rs.getD i 0) = 7
  ·
   rw [if_pos h7]
   by_cases h0 : i = 0
   ·
    subst h0
    rw [if_neg (by omega), if_pos hl]
    rw [cntV, if_pos h7] at ih
    exact ih
   ·
    obtain ⟨j, rfl⟩ : ∃ j, i = j + 1 := ⟨i - 1, by omega⟩
    have w1 : wrap64 (((j + 1 : Nat) : Int) - 1) = (j : Int) := by rw [w64 (by omega) (by omega)]; omega
    rw [if_pos (by omega), w1, if_pos (by omega), if_pos (by simp; omega), rd_nat, pre_get _ (by omega)]
    rw [cntV, if_pos h7] at ih
    by_cases h3 : cntV rs j = 3
    · rw [if_pos h3, if_pos hl]; rw [if_pos (show spc (cntV rs j) from .inl h3)] at ih; exact ih
    rw [if_neg h3]
    by_cases h4 : cntV rs j = 4
    · rw [if_pos h4, if_pos hl]; rw [if_pos (show spc (cntV rs j) from .inr (.inl h4))] at ih; exact ih
    rw [if_neg h4]
    by_cases h6 : cntV rs j = 6
    · rw [if_pos h6, if_pos hl]; rw [if_pos (show spc (cntV rs j) from .inr (.inr h6))] at ih; exact ih
    rw [if_neg h6, if_pos hl]
    rw [if_neg (show ¬ spc (cntV rs j) by rintro (h | h | h); exact h3 h; exact h4 h; exact h6 h)] at ih
    exact ih
  ·
   rw [if_neg h7, if_pos hl]
   have e : cntV rs i = lineV (rs.getD i 0) := by
    cases i with
    | zero => rw [cntV, if_neg h7]
    | succ j => rw [cntV, if_neg h7]
   rw [e] at ih
   exact ih
theorem countsS_p {rs : List Int} {k : Nat} (hn : rs.length ≤ 1000) (hk : rs.length + 50 < k) : spec_l5Counts.f k rs = some (csV rs) := countsS_l rs hn rs.length k 0 (by omega) (by omega) hk
theorem place_s {k : Nat} (hk : 10 ≤ k) (a b s : Int) : spec_l5Place.f k a b s = some (placeV a b s) := by
 obtain ⟨k, rfl⟩ : ∃ m, k = m + 10 := ⟨k - 10, by omega⟩
 simp only [spec_l5Place.f, spec_l5Place.j0, spec_l5Place.j1, spec_l5Place.j2, spec_l5Inner.f, spec_l5Inner.j0, spec_l5Inner.j1, spec_l5Inner.j2, spec_l5Never.f, spec_l5Word.f, placeV, placeR, isV, ansV, wordB, inL, List.contains_cons, List.contains_nil]
 grind (splits := 60)
def solV (cs : List Int) : Nat → Int
 | 0 => 0
 | i + 1 => if cs.getD i 0 = 3 then solV cs i else cs.getD i 0
theorem before_l (cs : List Int) (hn : cs.length ≤ 1000) : ∀ (m k : Nat), m ≤ cs.length → m < k → ∃ t : Int, spec_l5Before.l0 k cs ((m : Int) - 1) = some t ∧ ((t < 0 ∧ solV cs m = 0) ∨ (0 ≤ t ∧ t < cs.length ∧ rd cs t = solV cs m))
 | 0, k, hm, hk => by
  obtain ⟨k, rfl⟩ : ∃ m, k = m + 1 := ⟨k - 1, by omega⟩
  rw [spec_l5Before.l0, if_neg (by omega)]
  exact ⟨_, rfl, .inl ⟨by omega, rfl⟩⟩
 | m + 1, k, hm, hk => by
  obtain ⟨k, rfl⟩ : ∃ m, k = m + 1 := ⟨k - 1, by omega⟩
  rw [spec_l5Before.l0, show ((m + 1 : Nat) : Int) - 1 = (m : Int) by omega, if_pos (by omega), if_pos (by omega), if_pos (by omega), rd_nat, solV]
  by_cases h : cs.getD m 0 = 3
  ·
   rw [if_pos h, if_pos h, w64 (by omega) (by omega)]
   exact before_l cs hn m k (by omega) (by omega)
  ·
   rw [if_neg h, if_neg h]
   exact ⟨_, rfl, .inr ⟨by omega, by omega, rd_nat _ _⟩⟩
def brV (rs : List Int) (i : Nat) : Int :=
 if i + 1 = rs.length then 2 else if jV rs (i + 1) = true then 0 else if lineV (rs.getD (i + 1) 0) = 7 ∧ ¬ spc (cntV rs i) then 0 else placeV (cntV rs i) (cntV rs (i + 1)) (solV (csV rs) (i + 1))
def bsV (rs : List Int) : List Int := (List.range rs.length).map (brV rs)
theorem bsV_len (rs : List Int) : (bsV rs).length = rs.length := by simp [bsV]
theorem bsV_get {rs : List Int} {i : Nat} (h : i < rs.length) : (bsV rs).getD i 0 = brV rs i := by simp [bsV, List.getD_eq_getElem?_getD, h]
theorem breaksI_l (rs : List Int) (hn : rs.length ≤ 1000) (k : Nat) (hk : 1000 ≤ k) : ∀ (d i : Nat), rs.length - i = d → i ≤ rs.length → brL k rs (csV rs) (jsV rs) d i (solV (csV rs) i) ((List.range i).map (brV rs)) = some (bsV rs)
 | 0, i, hd, hi => by
  obtain rfl : i = rs.length := by omega
  rfl
 | d + 1, i, hd, hi => by
  have ih := breaksI_l rs hn k hk d (i + 1) (by omega) (by omega)
  rw [List.range_succ, List.map_append, List.map_cons, List.map_nil, solV] at ih
  rw [brL]
  have e : brX k rs (csV rs) (jsV rs) i (if (csV rs).getD i 0 = 3 then solV (csV rs) i else (csV rs).getD i 0) = some (brV rs i) := by
   unfold brX brV
   by_cases hl : i + 1 = rs.length
   · rw [if_pos hl, if_pos hl]
   ·
    rw [if_neg hl, if_neg hl, jsV_get (by omega), show jAt rs (i + 1) = jV rs (i + 1) from if_neg (by omega)]
    by_cases hj : jV rs (i + 1) = true
    · rw [if_pos hj, if_pos hj]
    ·
     rw [if_neg hj, if_neg hj, line_i (by omega), Option.bind_some, after_i (by omega), Option.bind_some, csV_get (by omega), csV_get (by omega), solV, csV_get (by omega)]
     congr 1
     by_cases h7 : lineV (rs.getD (i + 1) 0) = 7 ∧ ¬ spc (cntV rs i)
     · rw [if_pos h7, if_pos ⟨h7.1, decide_eq_false h7.2⟩]
     · rw [if_neg h7, if_neg (fun h => h7 ⟨h.1, of_decide_eq_false h.2⟩)]
  rw [e, Option.bind_some]
  exact ih
theorem breaksI_p {rs : List Int} {k : Nat} (hn : rs.length ≤ 80) (hk : 2000 ≤ k) : impl_breaks.f k rs = some (bsV rs) := by
 unfold impl_breaks.f
 rw [countsI_p (by omega) (by omega), Option.bind_some, joined_p (by omega) (by omega), Option.bind_some, if_pos ⟨csV_len rs, jsV_len rs, by omega⟩]
 exact breaksI_l rs (by omega) k (by omega) rs.length 0 (by omega) (by omega)
theorem breaksS_l (rs : List Int) (hn : rs.length ≤ 80) : ∀ (d k i : Nat), rs.length - i = d → i ≤ rs.length → 2 * d + 500 < k → spec_l5Breaks.l0 k rs (csV rs) ((List.range i).map (brV rs)) (i : Int) = some (bsV rs)
 | 0, k, i, hd, hi, hk => by
  obtain ⟨k, rfl⟩ : ∃ m, k = m + 1 := ⟨k - 1, by omega⟩
  obtain rfl : i = rs.length := by omega
  rw [spec_l5Breaks.l0, if_neg (by rw [csV_len]; omega)]
  rfl
 | d + 1, k, i, hd, hi, hk => by
  obtain ⟨k, rfl⟩ : ∃ m, k = m + 2 := ⟨k - 2, by omega⟩
  have ih1 := breaksS_l rs hn d (k + 1) (i + 1) (by omega) (by omega) (by omega)
  have ih := breaksS_l rs hn d k (i + 1) (by omega) (by omega) (by omega)
  rw [List.range_succ, List.map_append, List.map_cons, List.map_nil] at ih ih1
  have hl : ((List.range i).map (brV rs)).length < 17592186044416 := by simp; omega
  have w2 : wrap64 ((i : Int) + 1) = ((i + 1 : Nat) : Int) := by rw [w64 (by omega) (by omega)]; omega
  have hcl := csV_len rs
  rw [spec_l5Breaks.l0, if_pos (by omega), w2]
  by_cases hlast : i + 1 = rs.length
  ·
   rw [if_pos (by omega), if_pos hl]
   have e : brV rs i = 2 := by unfold brV; rw [if_pos hlast]
   rw [e] at ih1
   exact ih1
  ·
   rw [if_neg (by omega), join_s (by omega) (by omega) (by omega) (by omega), Option.bind_some]
   have J : ∀ b : Bool, (b = true → brV rs i = 0) → (b = false → brV rs i = placeV (cntV rs i) (cntV rs (i + 1)) (solV (csV rs) (i + 1))) → spec_l5Breaks.j1 (k + 1) rs (csV rs) ((List.range i).map (brV rs)) (i : Int) b = some (bsV rs) := by
    intro b hb1 hb0
    cases b
    ·
     have hb := hb0 rfl
     obtain ⟨t, ht, hc⟩ := before_l (csV rs) (by omega) (i + 1) k (by omega) (by omega)
     rw [show ((i + 1 : Nat) : Int) - 1 = (i : Int) by omega] at ht
     rw [spec_l5Breaks.j1, if_neg (by decide)]
     unfold spec_l5Before.f
     rw [ht, Option.bind_some, w2, rd_nat, rd_nat, csV_get (by omega), csV_get (by omega)]
     rcases hc with ⟨h1, h2⟩ | ⟨h1, h2, h3⟩
     ·
      rw [if_neg (by omega), if_pos (by omega), if_pos (by omega), if_pos (by omega), if_pos (by omega), place_s (by omega), Option.bind_some, if_pos hl]
      rw [h2] at hb
      rw [hb] at ih
      exact ih
     ·
      rw [if_pos (by omega), if_pos h1, if_pos h2, if_pos (by omega), if_pos (by omega), if_pos (by omega), if_pos (by omega), place_s (by omega), Option.bind_some, if_pos hl, h3]
      rw [hb] at ih
      exact ih
    ·
     have hb := hb1 rfl
     rw [spec_l5Breaks.j1, if_pos rfl, if_pos hl, w2]
     rw [hb] at ih
     exact ih
   by_cases hj : jV rs (i + 1) = true
   ·
    rw [if_pos hj]
    exact J true (fun _ => by unfold brV; rw [if_neg hlast, if_pos hj]) (fun h => by cases h)
   ·
    rw [if_neg hj, if_pos (by omega), if_pos (by omega), rd_nat, line_s (by omega), Option.bind_some]
    have B : brV rs i = if lineV (rs.getD (i + 1) 0) = 7 ∧ ¬ spc (cntV rs i) then 0 else placeV (cntV rs i) (cntV rs (i + 1)) (solV (csV rs) (i + 1)) := by unfold brV; rw [if_neg hlast, if_neg hj]
    by_cases h7 : lineV (rs.getD (i + 1) 0) = 7
    ·
     rw [if_pos h7, if_pos (by omega), rd_nat, csV_get (by omega)]
     by_cases h3 : cntV rs i = 3
     ·
      rw [if_pos h3]
      exact J false (fun h => by cases h) (fun _ => by rw [B, if_neg (fun h => h.2 (.inl h3))])
     rw [if_neg h3]
     by_cases h4 : cntV rs i = 4
     ·
      rw [if_pos h4]
      exact J false (fun h => by cases h) (fun _ => by rw [B, if_neg (fun h => h.2 (.inr (.inl h4)))])
     rw [if_neg h4]
     by_cases h6 : cntV rs i = 6
     ·
      rw [show (cntV rs i != 6) = false from bne_eq_false_iff_eq.mpr h6]
      exact J false (fun h => by cases h) (fun _ => by rw [B, if_neg (fun h => h.2 (.inr (.inr h6)))])
     ·
      rw [show (cntV rs i != 6) = true from bne_iff_ne.mpr h6]
      exact J true (fun _ => by rw [B, if_pos ⟨h7, by rintro (h | h | h); exact h3 h; exact h4 h; exact h6 h⟩]) (fun h => by cases h)
    ·
     rw [if_neg h7]
     exact J false (fun h => by cases h) (fun _ => by rw [B, if_neg (fun h => h7 h.1)])
theorem breaksS_p {rs : List Int} {k : Nat} (hn : rs.length ≤ 80) (hk : 2000 ≤ k) : spec_l5Breaks.f k rs = some (bsV rs) := by
 unfold spec_l5Breaks.f
 rw [countsS_p (by omega) (by omega), Option.bind_some]
 exact breaksS_l rs hn rs.length k 0 (by omega) (by omega) (by omega)
end Go.Proofs.YtmcdcogedcbndaaGreat.Pure
namespace Go.Proofs.YtmcdcogedcbndaaGreat.S
open Go.RowKit Go.Proofs.YtmcdcogedcbndaaGreatW.PrintWords Go.Proofs.YtmcdcogedcbndaaGreatW.PrintLast
set_option linter.unusedVariables false
set_option linter.unusedSimpArgs false
def spec_l7Empty.f (k : Nat) (a0 : Int) : Option (Bool) := if a0 = 32 then (some true) else (if a0 = 10 then (some true) else ((spec_RuneWide.f k a0).bind fun t248 => (some (t248 == 0))))
theorem spec_l7Empty.mono : ∀ a0 k, LeO (spec_l7Empty.f k a0) (spec_l7Empty.f (k + 1) a0) := by
 intro a0 k; unfold spec_l7Empty.f
 repeat' first
   | (with_reducible exact spec_RuneWide.mono _ _)
   | (with_reducible exact LeO.refl _)
   | (with_reducible exact LeO.none _)
   | (with_reducible refine LeO.ite ?_ ?_)
   | (with_reducible refine LeO.bind ?_ (fun _ => ?_))
   | exact spec_RuneWide.mono _ _
   | exact LeO.none _
   | refine LeO.ite ?_ ?_
   | refine LeO.bind ?_ (fun _ => ?_)
theorem spec_l7Empty.calls (k : Nat) (a0 : Int) (r : Bool) (w : World) (h : spec_l7Empty.f k a0 = some r) :
  Calls Tryz.prog 128 #[.int .i64 a0] w fun e w' => e = .returned (.bool r) ∧ Below w.heap.size w w' := by
 have HB := az (Below.refl w.heap.size w); have H : (if a0 = 32 then (some true) else (if a0 = 10 then (some true) else ((spec_RuneWide.f k a0).bind fun t248 => (some (t248 == 0))))) = some r := h; clear h; by_cases c2 : a0 = 32
 ·
  rw [if_pos c2] at H; have c2b0 : (a0 == 32) = true := beq_iff_eq.mpr c2; have c2b1 : (a0 != 32) = false := bne_eq_false_iff_eq.mpr c2; clear c2; obtain rfl := Option.some.inj H; go_enter Tryz.func128, Tryz.ntmps128; go_wp2; go_ret; exact ⟨zG, zA HB.out⟩
 ·
  rw [if_neg c2] at H; have c2b0 : (a0 == 32) = false := beq_eq_false_iff_ne.mpr c2; have c2b1 : (a0 != 32) = true := bne_iff_ne.mpr c2; by_cases c3 : a0 = 10
  ·
   rw [if_pos c3] at H; have c3b0 : (a0 == 10) = true := beq_iff_eq.mpr c3; have c3b1 : (a0 != 10) = false := bne_eq_false_iff_eq.mpr c3; clear c3; obtain rfl := Option.some.inj H; go_enter Tryz.func128, Tryz.ntmps128; go_wp2; go_ret; exact ⟨zG, zA HB.out⟩
  ·
   rw [if_neg c3] at H; have c3b0 : (a0 == 10) = false := beq_eq_false_iff_ne.mpr c3; have c3b1 : (a0 != 10) = true := bne_iff_ne.mpr c3; replace H := Option.bind_eq_some_iff.mp H; obtain ⟨t248, A40, H⟩ := H; replace H : (some (t248 == 0)) = some r := H; have A4 := az A40; clear A40; obtain rfl := Option.some.inj H; go_enter Tryz.func128, Tryz.ntmps128; go_wp2_with (first | (go_at_call 136; (with_reducible refine (spec_RuneWide.calls k a0 t248 _ A4.out).mono ?_); rintro e w5 ⟨rfl, hb⟩; have n0_ := az (below_step (zA HB.out) hb); clear HB; have HB := n0_; clear n0_; (try clear hb); (try clear hb2); (try clear hk); (try clear hi))); go_ret; exact ⟨zG, zA HB.out⟩
mutual
def spec_l7Wide.j1 : Nat → List Int → Int → Int → Option (Int)
 | 0, _, _, _ => none
 | k + 1, x1, x2, x3 => spec_l7Wide.l1 k x1 x3 0 x2
def spec_l7Wide.l1 : Nat → List Int → Int → Int → Int → Option (Int)
 | 0, _, _, _, _ => none
 | k + 1, x1, x3, x9, x10 => if x10 < x3 then (if 0 ≤ x10 then (if x10 < (x1.length : Int) then (spec_l7Wide.l1 k x1 x3 (wrap64 (x9 + (rd x1 x10))) (wrap64 (x10 + 1))) else (none)) else (none)) else (some x9)
def spec_l7Wide.l0 : Nat → List Int → List Int → Int → Int → Option (Int)
 | 0, _, _, _, _ => none
 | k + 1, x0, x1, x2, x3 => if x3 > x2 then (if 0 ≤ (wrap64 (x3 - 1)) then (if (wrap64 (x3 - 1)) < (x0.length : Int) then ((spec_l7Empty.f k (rd x0 (wrap64 (x3 - 1)))).bind fun t250 => (if t250 = true then (spec_l7Wide.l0 k x0 x1 x2 (wrap64 (x3 - 1))) else (spec_l7Wide.j1 k x1 x2 x3))) else (none)) else (none)) else (spec_l7Wide.j1 k x1 x2 x3)
end
def spec_l7Wide.f (k : Nat) (l0 : List Int) (l1 : List Int) (a2 : Int) (a3 : Int) : Option (Int) := spec_l7Wide.l0 k l0 l1 a2 a3
theorem spec_l7Wide.mono_l : ∀ k, (∀ y0 y1 y2, LeO (spec_l7Wide.j1 k y0 y1 y2) (spec_l7Wide.j1 (k + 1) y0 y1 y2)) ∧ (∀ y0 y1 y2 y3, LeO (spec_l7Wide.l1 k y0 y1 y2 y3) (spec_l7Wide.l1 (k + 1) y0 y1 y2 y3)) ∧ (∀ y0 y1 y2 y3, LeO (spec_l7Wide.l0 k y0 y1 y2 y3) (spec_l7Wide.l0 (k + 1) y0 y1 y2 y3))
 | 0 => ⟨fun _ _ _ r h => by simp [spec_l7Wide.j1] at h, fun _ _ _ _ r h => by simp [spec_l7Wide.l1] at h, fun _ _ _ _ r h => by simp [spec_l7Wide.l0] at h⟩
 | k + 1 => by
  obtain ⟨ih0, ih1, ih2⟩ := spec_l7Wide.mono_l k; refine ⟨?_, ?_, ?_⟩
  ·
   intro y0 y1 y2; unfold spec_l7Wide.j1
   repeat' first
   | (with_reducible exact ih0 _ _ _)
   | (with_reducible exact ih1 _ _ _ _)
   | (with_reducible exact ih2 _ _ _ _)
   | (with_reducible exact spec_l7Empty.mono _ _)
   | (with_reducible exact LeO.refl _)
   | (with_reducible exact LeO.none _)
   | (with_reducible refine LeO.ite ?_ ?_)
   | (with_reducible refine LeO.bind ?_ (fun _ => ?_))
   | exact ih0 _ _ _
   | exact ih1 _ _ _ _
   | exact ih2 _ _ _ _
   | exact spec_l7Empty.mono _ _
   | exact LeO.none _
   | refine LeO.ite ?_ ?_
   | refine LeO.bind ?_ (fun _ => ?_)
  ·
   intro y0 y1 y2 y3; unfold spec_l7Wide.l1
   repeat' first
   | (with_reducible exact ih0 _ _ _)
   | (with_reducible exact ih1 _ _ _ _)
   | (with_reducible exact ih2 _ _ _ _)
   | (with_reducible exact spec_l7Empty.mono _ _)
   | (with_reducible exact LeO.refl _)
   | (with_reducible exact LeO.none _)
   | (with_reducible refine LeO.ite ?_ ?_)
   | (with_reducible refine LeO.bind ?_ (fun _ => ?_))
   | exact ih0 _ _ _
   | exact ih1 _ _ _ _
   | exact ih2 _ _ _ _
   | exact spec_l7Empty.mono _ _
   | exact LeO.none _
   | refine LeO.ite ?_ ?_
   | refine LeO.bind ?_ (fun _ => ?_)
  ·
   intro y0 y1 y2 y3; unfold spec_l7Wide.l0
   repeat' first
   | (with_reducible exact ih0 _ _ _)
   | (with_reducible exact ih1 _ _ _ _)
   | (with_reducible exact ih2 _ _ _ _)
   | (with_reducible exact spec_l7Empty.mono _ _)
   | (with_reducible exact LeO.refl _)
   | (with_reducible exact LeO.none _)
   | (with_reducible refine LeO.ite ?_ ?_)
   | (with_reducible refine LeO.bind ?_ (fun _ => ?_))
   | exact ih0 _ _ _
   | exact ih1 _ _ _ _
   | exact ih2 _ _ _ _
   | exact spec_l7Empty.mono _ _
   | exact LeO.none _
   | refine LeO.ite ?_ ?_
   | refine LeO.bind ?_ (fun _ => ?_)
theorem spec_l7Wide.mono : ∀ a0 a1 a2 a3 k, LeO (spec_l7Wide.f k a0 a1 a2 a3) (spec_l7Wide.f (k + 1) a0 a1 a2 a3) := by
 intro a0 a1 a2 a3 k; obtain ⟨ih0, ih1, ih2⟩ := spec_l7Wide.mono_l k; unfold spec_l7Wide.f
 repeat' first
   | (with_reducible exact ih0 _ _ _)
   | (with_reducible exact ih1 _ _ _ _)
   | (with_reducible exact ih2 _ _ _ _)
   | (with_reducible exact spec_l7Empty.mono _ _)
   | (with_reducible exact LeO.refl _)
   | (with_reducible exact LeO.none _)
   | (with_reducible refine LeO.ite ?_ ?_)
   | (with_reducible refine LeO.bind ?_ (fun _ => ?_))
   | exact ih0 _ _ _
   | exact ih1 _ _ _ _
   | exact ih2 _ _ _ _
   | exact spec_l7Empty.mono _ _
   | exact LeO.none _
   | refine LeO.ite ?_ ?_
   | refine LeO.bind ?_ (fun _ => ?_)
theorem spec_l7Wide.calls (k : Nat) (A0 : Option Addr) (c0 : Nat) (l0 : List Int) (A1 : Option Addr) (c1 : Nat) (l1 : List Int) (a2 : Int) (a3 : Int) (r : Int) (w : World) (hr0 : Kd.C (Kd.int .i64) w A0 l0.length l0) (hc0 : l0.length ≤ c0) (hr1 : Kd.C (Kd.int .i64) w A1 l1.length l1) (hc1 : l1.length ≤ c1) (h : spec_l7Wide.f k l0 l1 a2 a3 = some r) :
  Calls Tryz.prog 92 #[.slice A0 l0.length c0, .slice A1 l1.length c1, .int .i64 a2, .int .i64 a3] w fun e w' => e = .returned (.int .i64 r) ∧ Below w.heap.size w w' := by
 have HR0 := az hr0; have HC0 := az hc0; clear hr0 hc0; have HR1 := az hr1; have HC1 := az hc1; clear hr1 hc1; have HB := az (Below.refl w.heap.size w); have H : (spec_l7Wide.l0 k l0 l1 a2 a3) = some r := h; clear h; have HC5 := az H; clear H; go_enter Tryz.func92, Tryz.ntmps92; go_upto_block 0 with (fail)
 go_cut [3] (fun v3 wc => ∃ (kq : Nat) (x3_4 : Int), v3 = .int .i64 x3_4 ∧ Aside0 (spec_l7Wide.j1 kq l1 a2 x3_4 = some r) ∧ Aside0 (kq ≤ k) ∧ Aside0 (Below w.heap.size w wc))
 case first =>
  have H := HC5.out; clear HC5; have H' := az H; clear H; go_wp2; go_loopg [3] k (fun kq v3 w' => ∃ (x3_1 : Int), v3 = .int .i64 x3_1 ∧ Aside0 (spec_l7Wide.l0 kq l0 l1 a2 x3_1 = some r) ∧ Aside0 (kq ≤ k) ∧ Aside0 (Below w.heap.size w w'))
  case atStart => exact ⟨(a3), zB, H', ⟨Nat.le_refl _⟩, ⟨zA HB.out⟩⟩
  case round =>
   clear H'; (try clear c1); (try clear p2); obtain ⟨x3_1, rfl, HA, HK1, HB⟩ := hrel
   cases gk with
   | zero => exact absurd HA.out (by simp [spec_l7Wide.l0])
   | succ k1 =>
    have H := HA.out; clear HA; simp only [spec_l7Wide.l0] at H; by_cases c6 : x3_1 > a2
    ·
     rw [if_pos c6] at H; have c6b0 : decide (a2 < x3_1) = true := decide_eq_true c6; clear c6; (first | rw [c6b0] | (simp only [i64_w, i32_w]; rw [c6b0]) | skip); obtain ⟨ji7, hji7⟩ : ∃ j_ : Int, (wrap64 (x3_1 - 1)) = j_ := ⟨_, rfl⟩; replace H : (if 0 ≤ (ji7) then (if (ji7) < (l0.length : Int) then ((spec_l7Empty.f k1 (rd l0 (ji7))).bind fun t250 => (if t250 = true then (spec_l7Wide.l0 k1 l0 l1 a2 ji7) else (spec_l7Wide.j1 k1 l1 a2 x3_1))) else (none)) else (none)) = some r := by first | (rw [hji7] at H; exact H) | (simp only [hji7] at H ⊢; exact H)
     have hji7w : (IntKind.i64.wrap (x3_1 - 1)) = ji7 := (i64_w _).trans hji7; by_cases c8 : 0 ≤ (ji7)
     ·
      rw [if_pos c8] at H; have c8b0 : decide (0 ≤ (ji7)) = true := decide_eq_true c8; clear c8; by_cases c9 : (ji7) < (l0.length : Int)
      ·
       rw [if_pos c9] at H; have c9b0 : decide ((ji7) < (l0.length : Int)) = true := decide_eq_true c9; clear c9; replace H := Option.bind_eq_some_iff.mp H; obtain ⟨t250, A100, H⟩ := H; replace H : (if t250 = true then (spec_l7Wide.l0 k1 l0 l1 a2 ji7) else (spec_l7Wide.j1 k1 l1 a2 x3_1)) = some r := H; have A10 := az A100; clear A100; by_cases c11 : t250 = true
       ·
        subst c11; have H1 : (spec_l7Wide.l0 k1 l0 l1 a2 ji7) = some r := by rw [if_pos rfl] at H; exact H
        clear H; have H := H1; clear H1; have H' := az H; clear H; have p249 : 0 ≤ ((ji7) : Int) := of_decide_eq_true (by assumption); have q249 : (ji7) < (l0.length : Int) := of_decide_eq_true (by assumption); obtain ⟨ad249, e249, hx249_0⟩ := Kd.at_int HR0.out (ji7) p249 q249
        cases e249
        replace hx249_0 := (HB.out.cell (World.block_lt_of_cell? w _ hx249_0)).trans hx249_0; replace p249 := eq_true p249; replace q249 := eq_true q249; go_wp2_with (first | (go_at_call 128; (with_reducible refine (spec_l7Empty.calls k1 (rd l0 (ji7)) true _ A10.out).mono ?_); rintro e w12 ⟨rfl, hb⟩; have n0_ := az (below_step (zA HB.out) hb); clear HB; have HB := n0_; clear n0_; (try clear hb); (try clear hb2); (try clear hk); (try clear hi))); go_roundg k1
        case measure => have := HK1.out; omega
        case rel => exact ⟨(ji7), (by first | rfl | (simp; done) | (simp only [← hji7] <;> (first | rfl | simp)) | (simp [*]; done)), H', ⟨zE HK1.out⟩, ⟨zA HB.out⟩⟩
       ·
        replace c11 := Bool.eq_false_iff.mpr c11; subst c11; have H1 : (spec_l7Wide.j1 k1 l1 a2 x3_1) = some r := by rw [if_neg (show ¬ (false = true) by decide)] at H; exact H
        clear H; have H := H1; clear H1; have H' := az H; clear H; have p249 : 0 ≤ ((ji7) : Int) := of_decide_eq_true (by assumption); have q249 : (ji7) < (l0.length : Int) := of_decide_eq_true (by assumption); obtain ⟨ad249, e249, hx249_0⟩ := Kd.at_int HR0.out (ji7) p249 q249
        cases e249
        replace hx249_0 := (HB.out.cell (World.block_lt_of_cell? w _ hx249_0)).trans hx249_0; replace p249 := eq_true p249; replace q249 := eq_true q249; go_wp2_with (first | (go_at_call 128; (with_reducible refine (spec_l7Empty.calls k1 (rd l0 (ji7)) false _ A10.out).mono ?_); rintro e w13 ⟨rfl, hb⟩; have n0_ := az (below_step (zA HB.out) hb); clear HB; have HB := n0_; clear n0_; (try clear hb); (try clear hb2); (try clear hk); (try clear hi))); go_meet
        case rel => exact ⟨_, (x3_1), zB, H', ⟨zK HK1.out⟩, ⟨zA HB.out⟩⟩
      ·
       rw [if_neg c9] at H; exact absurd H (by simp)
     ·
      rw [if_neg c8] at H; exact absurd H (by simp)
    ·
     rw [if_neg c6] at H; have c6b0 : decide (a2 < x3_1) = false := decide_eq_false c6; clear c6; (first | rw [c6b0] | (simp only [i64_w, i32_w]; rw [c6b0]) | skip); have H' := az H; clear H; go_wp2; go_meet
     case rel => exact ⟨_, (x3_1), zB, H', ⟨zK HK1.out⟩, ⟨zA HB.out⟩⟩
 case rest =>
  clear HC5; (try clear c1); (try clear p2); (try clear q2); (try clear hx2); (try clear c6); (try clear c6b0); (try clear p6); (try clear c8); (try clear c8b0); (try clear c9); (try clear c9b0); (try clear c11); (try clear hx249_0); (try clear p2); (try clear p249); (try clear q249); obtain ⟨kq, x3_4, rfl, HA, HJ4, HB⟩ := hcut
  cases kq with
  | zero => exact absurd HA.out (by simp [spec_l7Wide.j1])
  | succ kj4 =>
   have H := HA.out; clear HA; simp only [spec_l7Wide.j1] at H; have H' := az H; clear H; go_wp2; go_loopg [9, 10] kj4 (fun kq v9 v10 w' => ∃ (x9_2 : Int) (x10_2 : Int), v9 = .int .i64 x9_2 ∧ v10 = .int .i64 x10_2 ∧ Aside0 (spec_l7Wide.l1 kq l1 x3_4 x9_2 x10_2 = some r) ∧ Aside0 (kq ≤ kj4) ∧ Aside0 (Below w.heap.size w w'))
   case atStart => exact ⟨(0), (a2), zB, zB, H', ⟨Nat.le_refl _⟩, ⟨zA HB.out⟩⟩
   case round =>
    clear H'; (try clear c1); (try clear p2); (try clear q2); (try clear hx2); (try clear c6); (try clear c6b0); (try clear p6); (try clear c8); (try clear c8b0); (try clear c9); (try clear c9b0); (try clear c11); (try clear hx249_0); (try clear p2); (try clear p249); (try clear p6); (try clear q2); (try clear q249); obtain ⟨x9_2, x10_2, rfl, rfl, HA, HK2, HB⟩ := hrel
    cases gk with
    | zero => exact absurd HA.out (by simp [spec_l7Wide.l1])
    | succ k2 =>
     have H := HA.out; clear HA; simp only [spec_l7Wide.l1] at H; by_cases c14 : x10_2 < x3_4
     ·
      rw [if_pos c14] at H; have c14b0 : decide (x10_2 < x3_4) = true := decide_eq_true c14; clear c14; by_cases c15 : 0 ≤ x10_2
      ·
       rw [if_pos c15] at H; have c15b0 : decide (0 ≤ x10_2) = true := decide_eq_true c15; clear c15; by_cases c16 : x10_2 < (l1.length : Int)
       ·
        rw [if_pos c16] at H; have c16b0 : decide (x10_2 < (l1.length : Int)) = true := decide_eq_true c16; clear c16; have H' := az H; clear H; have p251 : 0 ≤ (x10_2 : Int) := of_decide_eq_true (by assumption); have q251 : x10_2 < (l1.length : Int) := of_decide_eq_true (by assumption); obtain ⟨ad251, e251, hx251_0⟩ := Kd.at_int HR1.out x10_2 p251 q251
        cases e251
        replace hx251_0 := (HB.out.cell (World.block_lt_of_cell? w _ hx251_0)).trans hx251_0; replace p251 := eq_true p251; replace q251 := eq_true q251; go_wp2; go_roundg k2
        case measure => have := HJ4.out; have := HK2.out; omega
        case rel => exact ⟨(wrap64 (x9_2 + (rd l1 x10_2))), (wrap64 (x10_2 + 1)), zB, zB, H', ⟨zL HJ4.out HK2.out⟩, ⟨zA HB.out⟩⟩
       ·
        rw [if_neg c16] at H; exact absurd H (by simp)
      ·
       rw [if_neg c15] at H; exact absurd H (by simp)
     ·
      rw [if_neg c14] at H; have c14b0 : decide (x10_2 < x3_4) = false := decide_eq_false c14; clear c14; obtain rfl := Option.some.inj H; go_wp2; go_ret; exact ⟨zG, zA HB.out⟩
def spec_l2At.l0 : Nat → List Int → Int → Option (Int)
 | 0, _, _ => none
 | k + 1, x0, x1 => if x1 > 0 then ((spec_l2Joins.f k x0 x1).bind fun t145 => (if t145 = true then (spec_l2At.l0 k x0 (wrap64 (x1 - 1))) else (some x1))) else (some x1)
def spec_l2At.f (k : Nat) (l0 : List Int) (a1 : Int) : Option (Int) := spec_l2At.l0 k l0 a1
theorem spec_l2At.mono_l : ∀ k, (∀ y0 y1, LeO (spec_l2At.l0 k y0 y1) (spec_l2At.l0 (k + 1) y0 y1))
 | 0 => fun _ _ r h => by simp [spec_l2At.l0] at h
 | k + 1 => by
  have ih0 := spec_l2At.mono_l k
  ·
   intro y0 y1; unfold spec_l2At.l0
   repeat' first
   | (with_reducible exact ih0 _ _)
   | (with_reducible exact spec_l2Joins.mono _ _ _)
   | (with_reducible exact LeO.refl _)
   | (with_reducible exact LeO.none _)
   | (with_reducible refine LeO.ite ?_ ?_)
   | (with_reducible refine LeO.bind ?_ (fun _ => ?_))
   | exact ih0 _ _
   | exact spec_l2Joins.mono _ _ _
   | exact LeO.none _
   | refine LeO.ite ?_ ?_
   | refine LeO.bind ?_ (fun _ => ?_)
theorem spec_l2At.mono : ∀ a0 a1 k, LeO (spec_l2At.f k a0 a1) (spec_l2At.f (k + 1) a0 a1) := by
 intro a0 a1 k; have ih0 := spec_l2At.mono_l k; unfold spec_l2At.f
 repeat' first
   | (with_reducible exact ih0 _ _)
   | (with_reducible exact spec_l2Joins.mono _ _ _)
   | (with_reducible exact LeO.refl _)
   | (with_reducible exact LeO.none _)
   | (with_reducible refine LeO.ite ?_ ?_)
   | (with_reducible refine LeO.bind ?_ (fun _ => ?_))
   | exact ih0 _ _
   | exact spec_l2Joins.mono _ _ _
   | exact LeO.none _
   | refine LeO.ite ?_ ?_
   | refine LeO.bind ?_ (fun _ => ?_)
theorem spec_l2At.calls (k : Nat) (A0 : Option Addr) (c0 : Nat) (l0 : List Int) (a1 : Int) (r : Int) (w : World) (hr0 : Kd.C (Kd.int .i64) w A0 l0.length l0) (hc0 : l0.length ≤ c0) (h : spec_l2At.f k l0 a1 = some r) :
  Calls Tryz.prog 120 #[.slice A0 l0.length c0, .int .i64 a1] w fun e w' => e = .returned (.int .i64 r) ∧ Below w.heap.size w w' := by
 have HR0 := az hr0; have HC0 := az hc0; clear hr0 hc0; have HB := az (Below.refl w.heap.size w); have H : (spec_l2At.l0 k l0 a1) = some r := h; clear h; have H' := az H; clear H; go_enter Tryz.func120, Tryz.ntmps120; go_wp2; go_loopg [1] k (fun kq v1 w' => ∃ (x1_1 : Int), v1 = .int .i64 x1_1 ∧ Aside0 (spec_l2At.l0 kq l0 x1_1 = some r) ∧ Aside0 (kq ≤ k) ∧ Aside0 (Below w.heap.size w w'))
 case atStart => exact ⟨(a1), zB, H', ⟨Nat.le_refl _⟩, ⟨zA HB.out⟩⟩
 case round =>
  clear H'; (try clear c1); (try clear p2); obtain ⟨x1_1, rfl, HA, HK1, HB⟩ := hrel
  cases gk with
  | zero => exact absurd HA.out (by simp [spec_l2At.l0])
  | succ k1 =>
   have H := HA.out; clear HA; simp only [spec_l2At.l0] at H; by_cases c3 : x1_1 > 0
   ·
    rw [if_pos c3] at H; have c3b0 : decide (0 < x1_1) = true := decide_eq_true c3; clear c3; replace H := Option.bind_eq_some_iff.mp H; obtain ⟨t145, A40, H⟩ := H; replace H : (if t145 = true then (spec_l2At.l0 k1 l0 (wrap64 (x1_1 - 1))) else (some x1_1)) = some r := H; have A4 := az A40; clear A40; by_cases c5 : t145 = true
    ·
     subst c5; have H1 : (spec_l2At.l0 k1 l0 (wrap64 (x1_1 - 1))) = some r := by rw [if_pos rfl] at H; exact H
     clear H; have H := H1; clear H1; have H' := az H; clear H; go_wp2_with (first | (go_at_call 124; (with_reducible refine (spec_l2Joins.calls k1 _ _ l0 x1_1 true _ ?side1 ?side2 A4.out).mono ?_); (case side1 => exact (zO HR0.out HB.out)); (case side2 => exact HC0.out); rintro e w6 ⟨rfl, hb⟩; have n0_ := az (below_step (zA HB.out) hb); clear HB; have HB := n0_; clear n0_; (try clear hb); (try clear hb2); (try clear hk); (try clear hi))); go_roundg k1
     case measure => have := HK1.out; omega
     case rel => exact ⟨(wrap64 (x1_1 - 1)), zB, H', ⟨zE HK1.out⟩, ⟨zA HB.out⟩⟩
    ·
     replace c5 := Bool.eq_false_iff.mpr c5; subst c5; have H1 : (some x1_1) = some r := by rw [if_neg (show ¬ (false = true) by decide)] at H; exact H
     clear H; have H := H1; clear H1; obtain rfl := Option.some.inj H; go_wp2_with (first | (go_at_call 124; (with_reducible refine (spec_l2Joins.calls k1 _ _ l0 x1_1 false _ ?side1 ?side2 A4.out).mono ?_); (case side1 => exact (zO HR0.out HB.out)); (case side2 => exact HC0.out); rintro e w7 ⟨rfl, hb⟩; have n0_ := az (below_step (zA HB.out) hb); clear HB; have HB := n0_; clear n0_; (try clear hb); (try clear hb2); (try clear hk); (try clear hi))); go_ret; exact ⟨zG, zA HB.out⟩
   ·
    rw [if_neg c3] at H; have c3b0 : decide (0 < x1_1) = false := decide_eq_false c3; clear c3; obtain rfl := Option.some.inj H; go_wp2; go_ret; exact ⟨zG, zA HB.out⟩
def atV (at_ : Int) : List S50 → Int × Int
 | [] => (10, 0)
 | x :: r => if x.f0 ≤ at_ ∧ at_ ≤ wrap64 (x.f1 - 1) then (x.f2, x.f3) else atV at_ r
def spec_l6At.f (l0 : List S50) (a1 : Int) : Option (Int × Int) := some (atV a1 l0)
theorem atV_in (a b c : Int) : spec_l1In.f a b c = some (decide (b ≤ a ∧ a ≤ c)) := by
 unfold spec_l1In.f
 by_cases h : a ≥ b
 · simp [h]
 · simp [h]
theorem in_quiet {a b c : Int} {r : Bool} (h : spec_l1In.f a b c = some r) (w : World) (n : Nat) : Calls Tryz.prog 36 #[.int .i64 a, .int .i64 b, .int .i64 c] (w.drewN n) fun e w'' => e = .returned (.bool r) ∧ ∃ m, w'' = w.drewN m :=
 Calls.quiet_of ((spec_l1In.calls a b c r (w.drewN n) h).mono fun _ _ ⟨he, hd⟩ => ⟨he, hd.out⟩)
theorem spec_l6At.calls (A0 : Option Addr) (c0 : Nat) (l0 : List S50) (a1 : Int) (r1 r2 : Int) (w : World) (hr0 : Kd.C k50 w A0 l0.length l0) (hc0 : l0.length ≤ c0) (h : spec_l6At.f l0 a1 = some (r1, r2)) :
  Calls Tryz.prog 121 #[.slice A0 l0.length c0, .int .i64 a1] w fun e w' => e = .returned (.tuple #[.int .i64 r1, .int .i64 r2]) ∧ Drawn0 w w' := by
 have HR := az hr0
 have hmx := hr0.2.1
 have HMX := az hmx
 clear hr0 hc0 hmx
 have HF := az (Option.some.inj h)
 clear h
 go_enter Tryz.func121, Tryz.ntmps121
 go_wp2
 go_loopg [6] l0.length (fun gg s6 wr => ∃ i : Nat, s6 = .int .i64 i ∧ i ≤ l0.length ∧ l0.length - i ≤ gg ∧ Aside0 (atV a1 (l0.drop i) = (r1, r2)) ∧ Aside0 (Drawn0 w wr))
 case atStart => exact ⟨0, rfl, Nat.zero_le _, by omega, HF, ⟨Drawn0.refl _⟩⟩
 case round =>
  clear HF
  obtain ⟨i, rfl, hi, hg, HF, hdr⟩ := hrel
  have HDR := hdr
  clear hdr
  by_cases hlt : i < l0.length
  ·
   have hltz : (i : Int) < (l0.length : Int) := by omega
   have hi0 : (0 : Int) ≤ (i : Int) := by omega
   obtain ⟨ad, rfl, h0, h1, h2, h3⟩ := at_T50 (Kd.C_below HR.out HDR.out.below) (i : Int) hi0 hltz
   obtain ⟨x, hx⟩ : ∃ x, rd_T50 l0 (i : Int) = x := ⟨_, rfl⟩
   have hd : l0.drop i = x :: l0.drop (i + 1) := by
    rw [List.drop_eq_getElem_cons hlt, ← hx]
    simp [rd_T50, List.getD_eq_getElem?_getD, hlt]
   rw [hx] at h0 h1 h2 h3
   rw [Int.toNat_natCast] at h0 h1 h2 h3
   have hq := HF.out
   rw [hd, atV] at hq
   have hw1 : IntKind.i64.wrap (x.f1 - 1) = wrap64 (x.f1 - 1) := i64_w _
   obtain ⟨t, ht⟩ : ∃ t, wrap64 (x.f1 - 1) = t := ⟨_, rfl⟩
   rw [ht] at hq hw1
   have hw64 : IntKind.i64.wrap ((i : Int) + 1) = (i : Int) + 1 := by rw [i64_w]; unfold wrap64; have := HMX.out; omega
   have hw65 : wrap64 ((i : Int) + 1) = (i : Int) + 1 := by unfold wrap64; have := HMX.out; omega
   clear hx hd HF
   by_cases hc : x.f0 ≤ a1 ∧ a1 ≤ t
   ·
    rw [if_pos hc] at hq
    obtain ⟨rfl, rfl⟩ := Prod.mk.inj hq
    have HIN := az (show spec_l1In.f a1 x.f0 t = some true by rw [atV_in, decide_eq_true hc])
    clear hc hq
    go_upto_region 4 with fail
    go_quiet ((go_at_call 36; exact in_quiet HIN.out _ _))
    go_upto_region 5 with fail
    go_quiet (fail)
    go_wp2
    go_ret2
    exact ⟨rfl, by obtain ⟨⟨n0, e0⟩⟩ := HDR.out; subst e0; repeat (first | exact Drawn0.refl _ | apply Drawn0.step | exact ⟨⟨_, rfl⟩⟩)⟩
   ·
    rw [if_neg hc] at hq
    have HQ := az hq
    have HIN := az (show spec_l1In.f a1 x.f0 t = some false by rw [atV_in, decide_eq_false hc])
    clear hc hq
    go_upto_region 4 with fail
    go_quiet ((go_at_call 36; exact in_quiet HIN.out _ _))
    go_wp2
    go_roundg (l0.length - (i + 1))
    case measure => omega
    case rel => exact ⟨i + 1, by first | rfl | go_num, by omega, by omega, HQ, ⟨by obtain ⟨⟨n0, e0⟩⟩ := HDR.out; subst e0; repeat (first | exact Drawn0.refl _ | apply Drawn0.step | exact ⟨⟨_, rfl⟩⟩)⟩⟩
  ·
   have hltz : ¬ (i : Int) < (l0.length : Int) := by omega
   obtain rfl : i = l0.length := by omega
   have hq := HF.out
   rw [List.drop_length, atV] at hq
   obtain ⟨rfl, rfl⟩ := Prod.mk.inj hq
   clear hq HF
   go_wp2
   go_ret2
   exact ⟨rfl, HDR.out⟩
mutual
def spec_l2Wide.l0 : Nat → List Int → Int → Int → Option (Int)
 | 0, _, _, _ => none
 | k + 1, x0, x5, x6 => if x6 < (x0.length : Int) then ((spec_l2Joins.f k x0 x6).bind fun t155 => (spec_l2Wide.j1 k x0 x5 x6 t155)) else (spec_l2Wide.j1 k x0 x5 x6 false)
def spec_l2Wide.j1 : Nat → List Int → Int → Int → Bool → Option (Int)
 | 0, _, _, _, _ => none
 | k + 1, x0, x5, x6, x22 => if x22 = true then (if 0 ≤ x6 then (if x6 < (x0.length : Int) then ((spec_RuneWide.f k (rd x0 x6)).bind fun t157 => (if t157 > x5 then ((spec_RuneWide.f k (rd x0 x6)).bind fun t159 => (spec_l2Wide.l0 k x0 t159 (wrap64 (x6 + 1)))) else (spec_l2Wide.l0 k x0 x5 (wrap64 (x6 + 1))))) else (none)) else (none)) else (some x5)
end
def spec_l2Wide.f (k : Nat) (l0 : List Int) (a1 : Int) : Option (Int) := if 0 ≤ a1 then (if a1 < (l0.length : Int) then ((spec_RuneWide.f k (rd l0 a1)).bind fun t154 => (spec_l2Wide.l0 k l0 t154 (wrap64 (a1 + 1)))) else (none)) else (none)
theorem spec_l2Wide.mono_l : ∀ k, (∀ y0 y1 y2, LeO (spec_l2Wide.l0 k y0 y1 y2) (spec_l2Wide.l0 (k + 1) y0 y1 y2)) ∧ (∀ y0 y1 y2 y3, LeO (spec_l2Wide.j1 k y0 y1 y2 y3) (spec_l2Wide.j1 (k + 1) y0 y1 y2 y3))
 | 0 => ⟨fun _ _ _ r h => by simp [spec_l2Wide.l0] at h, fun _ _ _ _ r h => by simp [spec_l2Wide.j1] at h⟩
 | k + 1 => by
  obtain ⟨ih0, ih1⟩ := spec_l2Wide.mono_l k; refine ⟨?_, ?_⟩
  ·
   intro y0 y1 y2; unfold spec_l2Wide.l0
   repeat' first
   | (with_reducible exact ih0 _ _ _)
   | (with_reducible exact ih1 _ _ _ _)
   | (with_reducible exact spec_RuneWide.mono _ _)
   | (with_reducible exact spec_l2Joins.mono _ _ _)
   | (with_reducible exact LeO.refl _)
   | (with_reducible exact LeO.none _)
   | (with_reducible refine LeO.ite ?_ ?_)
   | (with_reducible refine LeO.bind ?_ (fun _ => ?_))
   | exact ih0 _ _ _
   | exact ih1 _ _ _ _
   | exact spec_RuneWide.mono _ _
   | exact spec_l2Joins.mono _ _ _
   | exact LeO.none _
   | refine LeO.ite ?_ ?_
   | refine LeO.bind ?_ (fun _ => ?_)
  ·
   intro y0 y1 y2 y3; unfold spec_l2Wide.j1
   repeat' first
   | (with_reducible exact ih0 _ _ _)
   | (with_reducible exact ih1 _ _ _ _)
   | (with_reducible exact spec_RuneWide.mono _ _)
   | (with_reducible exact spec_l2Joins.mono _ _ _)
   | (with_reducible exact LeO.refl _)
   | (with_reducible exact LeO.none _)
   | (with_reducible refine LeO.ite ?_ ?_)
   | (with_reducible refine LeO.bind ?_ (fun _ => ?_))
   | exact ih0 _ _ _
   | exact ih1 _ _ _ _
   | exact spec_RuneWide.mono _ _
   | exact spec_l2Joins.mono _ _ _
   | exact LeO.none _
   | refine LeO.ite ?_ ?_
   | refine LeO.bind ?_ (fun _ => ?_)
theorem spec_l2Wide.mono : ∀ a0 a1 k, LeO (spec_l2Wide.f k a0 a1) (spec_l2Wide.f (k + 1) a0 a1) := by
 intro a0 a1 k; obtain ⟨ih0, ih1⟩ := spec_l2Wide.mono_l k; unfold spec_l2Wide.f
 repeat' first
   | (with_reducible exact ih0 _ _ _)
   | (with_reducible exact ih1 _ _ _ _)
   | (with_reducible exact spec_RuneWide.mono _ _)
   | (with_reducible exact spec_l2Joins.mono _ _ _)
   | (with_reducible exact LeO.refl _)
   | (with_reducible exact LeO.none _)
   | (with_reducible refine LeO.ite ?_ ?_)
   | (with_reducible refine LeO.bind ?_ (fun _ => ?_))
   | exact ih0 _ _ _
   | exact ih1 _ _ _ _
   | exact spec_RuneWide.mono _ _
   | exact spec_l2Joins.mono _ _ _
   | exact LeO.none _
   | refine LeO.ite ?_ ?_
   | refine LeO.bind ?_ (fun _ => ?_)
theorem spec_l2Wide.calls (k : Nat) (A0 : Option Addr) (c0 : Nat) (l0 : List Int) (a1 : Int) (r : Int) (w : World) (hr0 : Kd.C (Kd.int .i64) w A0 l0.length l0) (hc0 : l0.length ≤ c0) (h : spec_l2Wide.f k l0 a1 = some r) :
  Calls Tryz.prog 122 #[.slice A0 l0.length c0, .int .i64 a1] w fun e w' => e = .returned (.int .i64 r) ∧ Below w.heap.size w w' := by
 have HR0 := az hr0; have HC0 := az hc0; clear hr0 hc0; have HB := az (Below.refl w.heap.size w); have H : (if 0 ≤ a1 then (if a1 < (l0.length : Int) then ((spec_RuneWide.f k (rd l0 a1)).bind fun t154 => (spec_l2Wide.l0 k l0 t154 (wrap64 (a1 + 1)))) else (none)) else (none)) = some r := h; clear h; by_cases c3 : 0 ≤ a1
 ·
  rw [if_pos c3] at H; have c3b0 : decide (0 ≤ a1) = true := decide_eq_true c3; clear c3; by_cases c4 : a1 < (l0.length : Int)
  ·
   rw [if_pos c4] at H; have c4b0 : decide (a1 < (l0.length : Int)) = true := decide_eq_true c4; clear c4; replace H := Option.bind_eq_some_iff.mp H; obtain ⟨t154, A50, H⟩ := H; replace H : (spec_l2Wide.l0 k l0 t154 (wrap64 (a1 + 1))) = some r := H; have A5 := az A50; clear A50; have H' := az H; clear H; have p153 : 0 ≤ (a1 : Int) := of_decide_eq_true (by assumption); have q153 : a1 < (l0.length : Int) := of_decide_eq_true (by assumption); obtain ⟨ad153, e153, hx153_0⟩ := Kd.at_int HR0.out a1 p153 q153
   cases e153
   replace p153 := eq_true p153; replace q153 := eq_true q153; go_enter Tryz.func122, Tryz.ntmps122; go_wp2_with (first | ((with_reducible refine gate_callee (f := 136) rfl ?_); refine goesL_ (some 11) rfl rfl Tryz.func136 (by kernel_rfl) rfl #[.int .i64 (rd l0 a1)] rfl zC ?_; (with_reducible refine (spec_RuneWide.calls k (rd l0 a1) t154 _ A5.out).mono ?_); rintro e w6 ⟨rfl, hb⟩; refine ⟨_, rfl, ?_⟩; have n0_ := az (below_step (zA HB.out) hb); clear HB; have HB := n0_; clear n0_; (try clear hb); (try clear hb2); (try clear hk); (try clear hi))); go_loopg [5, 6] k (fun kq v5 v6 w' => ∃ (x5_1 : Int) (x6_1 : Int), v5 = .int .i64 x5_1 ∧ v6 = .int .i64 x6_1 ∧ Aside0 (spec_l2Wide.l0 kq l0 x5_1 x6_1 = some r) ∧ Aside0 (kq ≤ k) ∧ Aside0 (Below w.heap.size w w'))
   case atStart => exact ⟨(t154), (wrap64 (a1 + 1)), zB, zB, H', ⟨Nat.le_refl _⟩, ⟨zA HB.out⟩⟩
   case round =>
    clear H'; (try clear c1); (try clear p1); (try clear q1); (try clear hx1); (try clear p2); (try clear c3); (try clear c3b0); (try clear c4); (try clear c4b0); (try clear p6); (try clear hx153_0); (try clear p153); (try clear q153); obtain ⟨x5_1, x6_1, rfl, rfl, HA, HK1, HB⟩ := hrel
    cases gk with
    | zero => exact absurd HA.out (by simp [spec_l2Wide.l0])
    | succ k1 =>
     have H := HA.out; clear HA; simp only [spec_l2Wide.l0] at H; have HC7 := az H; clear H; go_upto_region 3 with (fail)
     go_cut [22] (fun v22 wc => ∃ (kq : Nat) (x22_6 : Bool), v22 = .bool x22_6 ∧ Aside0 (spec_l2Wide.j1 kq l0 x5_1 x6_1 x22_6 = some r) ∧ Aside0 (kq ≤ k1) ∧ Aside0 (Below w.heap.size w wc))
     case first =>
      have H := HC7.out; clear HC7; by_cases c8 : x6_1 < (l0.length : Int)
      ·
       rw [if_pos c8] at H; have c8b0 : decide (x6_1 < (l0.length : Int)) = true := decide_eq_true c8; clear c8; (first | rw [c8b0] | (simp only [i64_w, i32_w]; rw [c8b0]) | skip); replace H := Option.bind_eq_some_iff.mp H; obtain ⟨t155, A90, H⟩ := H; replace H : (spec_l2Wide.j1 k1 l0 x5_1 x6_1 t155) = some r := H; have A9 := az A90; clear A90; have H' := az H; clear H; go_wp2_with (first | (go_at_call 124; (with_reducible refine (spec_l2Joins.calls k1 _ _ l0 x6_1 t155 _ ?side1 ?side2 A9.out).mono ?_); (case side1 => exact (zO HR0.out HB.out)); (case side2 => exact HC0.out); rintro e w10 ⟨rfl, hb⟩; have n0_ := az (below_step (zA HB.out) hb); clear HB; have HB := n0_; clear n0_; (try clear hb); (try clear hb2); (try clear hk); (try clear hi))); go_meet
       case rel => exact ⟨_, (t155), zB, H', ⟨zK HK1.out⟩, ⟨zA HB.out⟩⟩
      ·
       rw [if_neg c8] at H; have c8b0 : decide (x6_1 < (l0.length : Int)) = false := decide_eq_false c8; clear c8; (first | rw [c8b0] | (simp only [i64_w, i32_w]; rw [c8b0]) | skip); have H' := az H; clear H; go_wp2; go_meet
       case rel => exact ⟨_, (false), zB, H', ⟨zK HK1.out⟩, ⟨zA HB.out⟩⟩
     case rest =>
      clear HC7; (try clear c1); (try clear p1); (try clear q1); (try clear hx1); (try clear p2); (try clear c3); (try clear c3b0); (try clear c4); (try clear c4b0); (try clear p6); (try clear c8); (try clear c8b0); (try clear hx153_0); (try clear p1); (try clear p153); (try clear p2); (try clear p6); (try clear q1); (try clear q153); obtain ⟨kq, x22_6, rfl, HA, HJ6, HB⟩ := hcut
      cases kq with
      | zero => exact absurd HA.out (by simp [spec_l2Wide.j1])
      | succ kj6 =>
       have H := HA.out; clear HA; simp only [spec_l2Wide.j1] at H; by_cases c11 : x22_6 = true
       ·
        subst c11; have H1 : (if 0 ≤ x6_1 then (if x6_1 < (l0.length : Int) then ((spec_RuneWide.f kj6 (rd l0 x6_1)).bind fun t157 => (if t157 > x5_1 then ((spec_RuneWide.f kj6 (rd l0 x6_1)).bind fun t159 => (spec_l2Wide.l0 kj6 l0 t159 (wrap64 (x6_1 + 1)))) else (spec_l2Wide.l0 kj6 l0 x5_1 (wrap64 (x6_1 + 1))))) else (none)) else (none)) = some r := by rw [if_pos rfl] at H; exact H
        clear H; have H := H1; clear H1; by_cases c12 : 0 ≤ x6_1
        ·
         rw [if_pos c12] at H; have c12b0 : decide (0 ≤ x6_1) = true := decide_eq_true c12; clear c12; by_cases c13 : x6_1 < (l0.length : Int)
         ·
          rw [if_pos c13] at H; have c13b0 : decide (x6_1 < (l0.length : Int)) = true := decide_eq_true c13; clear c13; replace H := Option.bind_eq_some_iff.mp H; obtain ⟨t157, A140, H⟩ := H; replace H : (if t157 > x5_1 then ((spec_RuneWide.f kj6 (rd l0 x6_1)).bind fun t159 => (spec_l2Wide.l0 kj6 l0 t159 (wrap64 (x6_1 + 1)))) else (spec_l2Wide.l0 kj6 l0 x5_1 (wrap64 (x6_1 + 1)))) = some r := H; have A14 := az A140; clear A140; by_cases c15 : t157 > x5_1
          ·
           rw [if_pos c15] at H; have c15b0 : decide (x5_1 < t157) = true := decide_eq_true c15; clear c15; replace H := Option.bind_eq_some_iff.mp H; obtain ⟨t159, A160, H⟩ := H; replace H : (spec_l2Wide.l0 kj6 l0 t159 (wrap64 (x6_1 + 1))) = some r := H; have A16 := az A160; clear A160; have H' := az H; clear H; have p156 : 0 ≤ (x6_1 : Int) := of_decide_eq_true (by assumption); have q156 : x6_1 < (l0.length : Int) := of_decide_eq_true (by assumption); obtain ⟨ad156, e156, hx156_0⟩ := Kd.at_int HR0.out x6_1 p156 q156; obtain rfl : ad153 = ad156 := (by injection e156); replace hx156_0 := (HB.out.cell (World.block_lt_of_cell? w _ hx156_0)).trans hx156_0; replace p156 := eq_true p156; replace q156 := eq_true q156; go_wp2_with (first | ((with_reducible refine gate_callee (f := 136) rfl ?_); refine goesL_ (some 29) rfl rfl Tryz.func136 (by kernel_rfl) rfl #[.int .i64 (rd l0 x6_1)] rfl zC ?_; (with_reducible refine (spec_RuneWide.calls kj6 (rd l0 x6_1) t157 _ A14.out).mono ?_); rintro e w17 ⟨rfl, hb⟩; refine ⟨_, rfl, ?_⟩; have n0_ := az (below_step (zA HB.out) hb); clear HB; have HB := n0_; clear n0_; (try clear hb); (try clear hb2); (try clear hk); (try clear hi); have p158 : 0 ≤ (x6_1 : Int) := of_decide_eq_true (by assumption); have q158 : x6_1 < (l0.length : Int) := of_decide_eq_true (by assumption); obtain ⟨ad158, e158, hx158_0⟩ := Kd.at_int HR0.out x6_1 p158 q158; obtain rfl : ad153 = ad158 := (by injection e158); replace hx158_0 := (HB.out.cell (World.block_lt_of_cell? w _ hx158_0)).trans hx158_0; replace p158 := eq_true p158; replace q158 := eq_true q158) | ((with_reducible refine gate_callee (f := 136) rfl ?_); refine goesL_ (some 36) rfl rfl Tryz.func136 (by kernel_rfl) rfl #[.int .i64 (rd l0 x6_1)] rfl zC ?_; (with_reducible refine (spec_RuneWide.calls kj6 (rd l0 x6_1) t159 _ A16.out).mono ?_); rintro e w18 ⟨rfl, hb⟩; refine ⟨_, rfl, ?_⟩; have n0_ := az (below_step (zA HB.out) hb); clear HB; have HB := n0_; clear n0_; (try clear hb); (try clear hb2); (try clear hk); (try clear hi))); go_roundg kj6
           case measure => have := HK1.out; have := HJ6.out; omega
           case rel => exact ⟨(t159), (wrap64 (x6_1 + 1)), zB, zB, H', ⟨zL HK1.out HJ6.out⟩, ⟨zA HB.out⟩⟩
          ·
           rw [if_neg c15] at H; have c15b0 : decide (x5_1 < t157) = false := decide_eq_false c15; clear c15; have H' := az H; clear H; have p156 : 0 ≤ (x6_1 : Int) := of_decide_eq_true (by assumption); have q156 : x6_1 < (l0.length : Int) := of_decide_eq_true (by assumption); obtain ⟨ad156, e156, hx156_0⟩ := Kd.at_int HR0.out x6_1 p156 q156; obtain rfl : ad153 = ad156 := (by injection e156); replace hx156_0 := (HB.out.cell (World.block_lt_of_cell? w _ hx156_0)).trans hx156_0; replace p156 := eq_true p156; replace q156 := eq_true q156; go_wp2_with (first | ((with_reducible refine gate_callee (f := 136) rfl ?_); refine goesL_ (some 29) rfl rfl Tryz.func136 (by kernel_rfl) rfl #[.int .i64 (rd l0 x6_1)] rfl zC ?_; (with_reducible refine (spec_RuneWide.calls kj6 (rd l0 x6_1) t157 _ A14.out).mono ?_); rintro e w19 ⟨rfl, hb⟩; refine ⟨_, rfl, ?_⟩; have n0_ := az (below_step (zA HB.out) hb); clear HB; have HB := n0_; clear n0_; (try clear hb); (try clear hb2); (try clear hk); (try clear hi))); go_roundg kj6
           case measure => have := HK1.out; have := HJ6.out; omega
           case rel => exact ⟨(x5_1), (wrap64 (x6_1 + 1)), zB, zB, H', ⟨zL HK1.out HJ6.out⟩, ⟨zA HB.out⟩⟩
         ·
          rw [if_neg c13] at H; exact absurd H (by simp)
        ·
         rw [if_neg c12] at H; exact absurd H (by simp)
       ·
        replace c11 := Bool.eq_false_iff.mpr c11; subst c11; have H1 : (some x5_1) = some r := by rw [if_neg (show ¬ (false = true) by decide)] at H; exact H
        clear H; have H := H1; clear H1; obtain rfl := Option.some.inj H; go_wp2; go_ret; exact ⟨zG, zA HB.out⟩
  ·
   rw [if_neg c4] at H; exact absurd H (by simp)
 ·
  rw [if_neg c3] at H; exact absurd H (by simp)
def spec_l6Wides.l0 : Nat → List Int → List (S50) → List Int → Int → Option (List Int)
 | 0, _, _, _, _ => none
 | k + 1, x0, x1, x5, x6 => if x6 < (x0.length : Int) then ((spec_l2At.f k x0 x6).bind fun t163 => (if t163 = x6 then ((spec_l6At.f x1 x6).bind fun bt164 => ((spec_l2Wide.f k x0 x6).bind fun t166 => (if x5.length < 17592186044416 then (spec_l6Wides.l0 k x0 x1 (x5 ++ [wrap64 (t166 * bt164.1)]) (wrap64 (x6 + 1))) else (none)))) else (if x5.length < 17592186044416 then (spec_l6Wides.l0 k x0 x1 (x5 ++ [0]) (wrap64 (x6 + 1))) else (none)))) else (some x5)
def spec_l6Wides.f (k : Nat) (l0 : List Int) (l1 : List (S50)) : Option (List Int) := spec_l6Wides.l0 k l0 l1 (([] : List Int)) 0
theorem spec_l6Wides.mono_l : ∀ k, (∀ y0 y1 y2 y3, LeO (spec_l6Wides.l0 k y0 y1 y2 y3) (spec_l6Wides.l0 (k + 1) y0 y1 y2 y3))
 | 0 => fun _ _ _ _ r h => by simp [spec_l6Wides.l0] at h
 | k + 1 => by
  have ih0 := spec_l6Wides.mono_l k
  ·
   intro y0 y1 y2 y3; unfold spec_l6Wides.l0
   repeat' first
   | (with_reducible exact ih0 _ _ _ _)
   | (with_reducible exact spec_l2At.mono _ _ _)
   | (with_reducible exact spec_l2Wide.mono _ _ _)
   | (with_reducible exact LeO.refl _)
   | (with_reducible exact LeO.none _)
   | (with_reducible refine LeO.ite ?_ ?_)
   | (with_reducible refine LeO.bind ?_ (fun _ => ?_))
   | exact ih0 _ _ _ _
   | exact spec_l2At.mono _ _ _
   | exact spec_l2Wide.mono _ _ _
   | exact LeO.none _
   | refine LeO.ite ?_ ?_
   | refine LeO.bind ?_ (fun _ => ?_)
theorem spec_l6Wides.mono : ∀ a0 a1 k, LeO (spec_l6Wides.f k a0 a1) (spec_l6Wides.f (k + 1) a0 a1) := by
 intro a0 a1 k; have ih0 := spec_l6Wides.mono_l k; unfold spec_l6Wides.f
 repeat' first
   | (with_reducible exact ih0 _ _ _ _)
   | (with_reducible exact spec_l2At.mono _ _ _)
   | (with_reducible exact spec_l2Wide.mono _ _ _)
   | (with_reducible exact LeO.refl _)
   | (with_reducible exact LeO.none _)
   | (with_reducible refine LeO.ite ?_ ?_)
   | (with_reducible refine LeO.bind ?_ (fun _ => ?_))
   | exact ih0 _ _ _ _
   | exact spec_l2At.mono _ _ _
   | exact spec_l2Wide.mono _ _ _
   | exact LeO.none _
   | refine LeO.ite ?_ ?_
   | refine LeO.bind ?_ (fun _ => ?_)
theorem spec_l6Wides.calls (k : Nat) (A0 : Option Addr) (c0 : Nat) (l0 : List Int) (A1 : Option Addr) (c1 : Nat) (l1 : List (S50)) (r : List Int) (w : World) (hr0 : Kd.C (Kd.int .i64) w A0 l0.length l0) (hc0 : l0.length ≤ c0) (hr1 : Kd.C k50 w A1 l1.length l1) (hc1 : l1.length ≤ c1) (h : spec_l6Wides.f k l0 l1 = some r) :
  Calls Tryz.prog 90 #[.slice A0 l0.length c0, .slice A1 l1.length c1] w fun e w' => ∃ v0_ : Value, e = .returned (v0_) ∧ Kd.R (Kd.int .i64) 3 w' w.heap.size (fun _ => True) v0_ r ∧ Below w.heap.size w w' := by
 have HR0 := az hr0; have HC0 := az hc0; clear hr0 hc0; have HR1 := az hr1; have HC1 := az hc1; clear hr1 hc1; have HB := az (Below.refl w.heap.size w); have H : (spec_l6Wides.l0 k l0 l1 (([] : List Int)) 0) = some r := h; clear h; obtain ⟨y160, hy160⟩ : ∃ y_ : List Int, y_ = (([] : List Int)) := ⟨_, rfl⟩; replace H : (spec_l6Wides.l0 k l0 l1 y160 0) = some r := by first | (rw [hy160]; with_reducible exact H) | (have H2_ := (Option.bind_some _ _).symm.trans H; rw [hy160]; with_reducible exact H2_) | (have H2_ := (Option.bind_some _ _).symm.trans H; with_reducible exact H2_) | with_reducible exact H | (rw [hy160]; exact H) | exact H
 have Ny160 := az hy160; clear hy160; have H' := az H; clear H; go_enter Tryz.func90, Tryz.ntmps90; go_wp2_with (first | ((with_reducible refine gate_dst (N := 10) rfl ?_); refine Kd.R_lit (Kd.int .i64) _ 3 ?hg (N := 10) ?hd (xs := ([] : List Int)) (inner := []) (ok := fun _ => True) (okp := fun _ => True) ?hr ?hp (fun _ hk => hk) trivial (Below.refl _ _) (Nat.le_refl _) (by simp) ?_; (case hd => rfl); (case hg => rfl); (case hr => first | (go_simp; done) | (go_simp; rfl)); (case hp => exact (Reps.none _ _)); intro v161 w3 ho4 hb hg_ hnew_; clear hg_ hnew_; (first | rw [← Ny160.out] at ho4 | (simp only [Int.reduceToNat] at ho4; rw [← Ny160.out] at ho4)); have n0_ := az (Kd.R_lower ho4 (below_size (zA HB.out))); have n1_ := az (below_step (zA HB.out) hb); clear HB; have HO162 := n0_; have HB := n1_; clear n0_ n1_; clear hb ho4)); go_loopg [5, 6] k (fun kq v5 v6 w' => ∃ (x5_1 : List Int) (x6_1 : Int), v6 = .int .i64 x6_1 ∧ Aside0 (spec_l6Wides.l0 kq l0 l1 x5_1 x6_1 = some r) ∧ Aside0 (kq ≤ k) ∧ Aside0 (Kd.R (Kd.int .i64) 3 w' w.heap.size (fun _ => True) v5 x5_1) ∧ Aside0 (Below w.heap.size w w'))
 case atStart => exact ⟨(y160), (0), zB, H', ⟨Nat.le_refl _⟩, ⟨zF HO162.out⟩, ⟨zA HB.out⟩⟩
 case round =>
  clear H'; (try clear c1); (try clear p2); obtain ⟨x5_1, x6_1, rfl, HA, HK1, HO_5, HB⟩ := hrel
  cases gk with
  | zero => exact absurd HA.out (by simp [spec_l6Wides.l0])
  | succ k1 =>
   have H := HA.out; clear HA; simp only [spec_l6Wides.l0] at H; by_cases c5 : x6_1 < (l0.length : Int)
   ·
    rw [if_pos c5] at H; have c5b0 : decide (x6_1 < (l0.length : Int)) = true := decide_eq_true c5; clear c5; replace H := Option.bind_eq_some_iff.mp H; obtain ⟨t163, A60, H⟩ := H; replace H : (if t163 = x6_1 then ((spec_l6At.f l1 x6_1).bind fun bt164 => ((spec_l2Wide.f k1 l0 x6_1).bind fun t166 => (if x5_1.length < 17592186044416 then (spec_l6Wides.l0 k1 l0 l1 (x5_1 ++ [wrap64 (t166 * bt164.1)]) (wrap64 (x6_1 + 1))) else (none)))) else (if x5_1.length < 17592186044416 then (spec_l6Wides.l0 k1 l0 l1 (x5_1 ++ [0]) (wrap64 (x6_1 + 1))) else (none))) = some r := H; have A6 := az A60; clear A60; by_cases c7 : t163 = x6_1
    ·
     rw [if_pos c7] at H; have c7b0 : (t163 == x6_1) = true := beq_iff_eq.mpr c7; have c7b1 : (t163 != x6_1) = false := bne_eq_false_iff_eq.mpr c7; clear c7; replace H := Option.bind_eq_some_iff.mp H; obtain ⟨⟨t164, t165⟩, A80, H⟩ := H; replace H : ((spec_l2Wide.f k1 l0 x6_1).bind fun t166 => (if x5_1.length < 17592186044416 then (spec_l6Wides.l0 k1 l0 l1 (x5_1 ++ [wrap64 (t166 * t164)]) (wrap64 (x6_1 + 1))) else (none))) = some r := H; have A8 := az A80; clear A80; replace H := Option.bind_eq_some_iff.mp H; obtain ⟨t166, A90, H⟩ := H; replace H : (if x5_1.length < 17592186044416 then (spec_l6Wides.l0 k1 l0 l1 (x5_1 ++ [wrap64 (t166 * t164)]) (wrap64 (x6_1 + 1))) else (none)) = some r := H; have A9 := az A90; clear A90; by_cases c10 : x5_1.length < 17592186044416
     ·
      rw [if_pos c10] at H; have LMc10 := az c10; clear c10; obtain ⟨y167, hy167⟩ : ∃ y_ : List Int, y_ = (x5_1 ++ [wrap64 (t166 * t164)]) := ⟨_, rfl⟩; replace H : (spec_l6Wides.l0 k1 l0 l1 y167 (wrap64 (x6_1 + 1))) = some r := by first | (rw [hy167]; with_reducible exact H) | (have H2_ := (Option.bind_some _ _).symm.trans H; rw [hy167]; with_reducible exact H2_) | (have H2_ := (Option.bind_some _ _).symm.trans H; with_reducible exact H2_) | with_reducible exact H | (rw [hy167]; exact H) | exact H
      have Ny167 := az hy167; clear hy167; have H' := az H; clear H; go_wp2_with (first | ((with_reducible refine gate_callee (f := 120) rfl ?_); refine goesL_ (some 19) rfl rfl Tryz.func120 (by kernel_rfl) rfl #[.slice A0 l0.length c0, .int .i64 x6_1] rfl zC ?_; (with_reducible refine (spec_l2At.calls k1 _ _ l0 x6_1 t163 _ ?side1 ?side2 A6.out).mono ?_); (case side1 => exact (zO HR0.out HB.out)); (case side2 => exact HC0.out); rintro e w11 ⟨rfl, hb⟩; refine ⟨_, rfl, ?_⟩; have n0_ := az (Kd.R_below (zF HO_5.out) hb); have n1_ := az (below_step (zA HB.out) hb); clear HO_5; clear HB; have HO_5 := n0_; have HB := n1_; clear n0_ n1_; (try clear hb); (try clear hb2); (try clear hk); (try clear hi)) | ((with_reducible refine gate_callee (f := 121) rfl ?_); refine goesL_ (some 25) rfl rfl Tryz.func121 (by kernel_rfl) rfl #[.slice A1 l1.length c1, .int .i64 x6_1] rfl zC ?_; (with_reducible refine (spec_l6At.calls _ _ l1 x6_1 t164 t165 _ ?side1 ?side2 A8.out).mono ?_); (case side1 => exact (zO HR1.out HB.out)); (case side2 => exact HC1.out); rintro e w' ⟨rfl, ⟨nd, rfl⟩⟩; refine ⟨_, rfl, ?_⟩) | ((with_reducible refine gate_callee (f := 122) rfl ?_); refine goesL_ (some 30) rfl rfl Tryz.func122 (by kernel_rfl) rfl #[.slice A0 l0.length c0, .int .i64 x6_1] rfl zC ?_; (with_reducible refine (spec_l2Wide.calls k1 _ _ l0 x6_1 t166 _ ?side1 ?side2 A9.out).mono ?_); (case side1 => repeat (first | exact (Kd.C_below HR0.out (zA HB.out)) | (with_reducible refine Kd.C_alloc ?_ _) | (with_reducible refine Kd.C_drewN ?_ _) | (with_reducible refine Kd.C_drew ?_))); (case side2 => exact HC0.out); rintro e w12 ⟨rfl, hb⟩; refine ⟨_, rfl, ?_⟩; have n0_ := az (Kd.R_below (zF HO_5.out) hb); have n1_ := az (below_step (zA HB.out) hb); clear HO_5; clear HB; have HO_5 := n0_; have HB := n1_; clear n0_ n1_; (try clear hb); (try clear hb2); (try clear hk); (try clear hi)) | ((with_reducible refine gate_builtin (b := .append) (xs := #[.tmp 33, .tmp 35]) rfl ?_); at_builtin; refine Kd.R_append (Kd.int .i64) (w0 := w) w.heap.size rfl (.tmp 33) (.tmp 35) 22 3 (.int .i64 0) 8 rfl Tryz.underlying22 info3 rfl (by decide) (by omega) u5 x5_1 (wrap64 (t166 * t164)) [.int .i64 (wrap64 (t166 * t164))] (fun _ => True) (fun _ => False) rfl rfl ?aP (fun _ hk => hk.elim) ?aF ?aO ?aB ?aS ?aL ?_; (case aP => exact rfl); (case aB => exact (zA HB.out)); (case aF => exact (fun _ _ => trivial)); (case aO => exact (zF HO_5.out)); (case aS => exact (below_size (zA HB.out))); (case aL => have := LMc10.out; omega); intro v168 w13 ho hb hg hat; rw [← Ny167.out] at ho; have n0_ := az (hb); have n1_ := az (ho); clear HB; clear HO_5; have HB := n0_; have HO169 := n1_; clear n0_ n1_; clear ho hb hg hat))
      go_roundg k1
      case measure => have := HK1.out; omega
      case rel => exact ⟨(y167), (wrap64 (x6_1 + 1)), zB, H', ⟨zE HK1.out⟩, ⟨zF HO169.out⟩, ⟨zA HB.out⟩⟩
     ·
      rw [if_neg c10] at H; exact absurd H (by simp)
    ·
     rw [if_neg c7] at H; have c7b0 : (t163 == x6_1) = false := beq_eq_false_iff_ne.mpr c7; have c7b1 : (t163 != x6_1) = true := bne_iff_ne.mpr c7; by_cases c14 : x5_1.length < 17592186044416
     ·
      rw [if_pos c14] at H; have LMc14 := az c14; clear c14; obtain ⟨y170, hy170⟩ : ∃ y_ : List Int, y_ = (x5_1 ++ [0]) := ⟨_, rfl⟩; replace H : (spec_l6Wides.l0 k1 l0 l1 y170 (wrap64 (x6_1 + 1))) = some r := by first | (rw [hy170]; with_reducible exact H) | (have H2_ := (Option.bind_some _ _).symm.trans H; rw [hy170]; with_reducible exact H2_) | (have H2_ := (Option.bind_some _ _).symm.trans H; with_reducible exact H2_) | with_reducible exact H | (rw [hy170]; exact H) | exact H
      have Ny170 := az hy170; clear hy170; have H' := az H; clear H; go_wp2_with (first | ((with_reducible refine gate_callee (f := 120) rfl ?_); refine goesL_ (some 19) rfl rfl Tryz.func120 (by kernel_rfl) rfl #[.slice A0 l0.length c0, .int .i64 x6_1] rfl zC ?_; (with_reducible refine (spec_l2At.calls k1 _ _ l0 x6_1 t163 _ ?side1 ?side2 A6.out).mono ?_); (case side1 => exact (zO HR0.out HB.out)); (case side2 => exact HC0.out); rintro e w15 ⟨rfl, hb⟩; refine ⟨_, rfl, ?_⟩; have n0_ := az (Kd.R_below (zF HO_5.out) hb); have n1_ := az (below_step (zA HB.out) hb); clear HO_5; clear HB; have HO_5 := n0_; have HB := n1_; clear n0_ n1_; (try clear hb); (try clear hb2); (try clear hk); (try clear hi)) | ((with_reducible refine gate_builtin (b := .append) (xs := #[.tmp 33, .tmp 35]) rfl ?_); at_builtin; refine Kd.R_append (Kd.int .i64) (w0 := w) w.heap.size rfl (.tmp 33) (.tmp 35) 22 3 (.int .i64 0) 8 rfl Tryz.underlying22 info3 rfl (by decide) (by omega) u5 x5_1 0 [.int .i64 0] (fun _ => True) (fun _ => False) rfl rfl ?aP (fun _ hk => hk.elim) ?aF ?aO ?aB ?aS ?aL ?_; (case aP => exact rfl); (case aB => exact (zA HB.out)); (case aF => exact (fun _ _ => trivial)); (case aO => exact (zF HO_5.out)); (case aS => exact (below_size (zA HB.out))); (case aL => have := LMc14.out; omega); intro v171 w16 ho hb hg hat; rw [← Ny170.out] at ho; have n0_ := az (hb); have n1_ := az (ho); clear HB; clear HO_5; have HB := n0_; have HO172 := n1_; clear n0_ n1_; clear ho hb hg hat)); go_roundg k1
      case measure => have := HK1.out; omega
      case rel => exact ⟨(y170), (wrap64 (x6_1 + 1)), zB, H', ⟨zE HK1.out⟩, ⟨zF HO172.out⟩, ⟨zA HB.out⟩⟩
     ·
      rw [if_neg c14] at H; exact absurd H (by simp)
   ·
    rw [if_neg c5] at H; have c5b0 : decide (x6_1 < (l0.length : Int)) = false := decide_eq_false c5; clear c5; obtain rfl := Option.some.inj H; go_wp2; go_ret; exact ⟨_, zG, zF HO_5.out, zA HB.out⟩
end Go.Proofs.YtmcdcogedcbndaaGreat.S
/- How wide letters of a text with spans are, by both texts. -/
namespace Go.Proofs.YtmcdcogedcbndaaGreat.Pure
open Go.RowKit Go.Proofs.YtmcdcogedcbndaaGreat.S Go.Proofs.YtmcdcogedcbndaaGreatW.PrintWords Go.Proofs.YtmcdcogedcbndaaGreatW.PrintLast
theorem rdOfB (l : List Bool) (i : Nat) : rdOf false l (i : Int) = l.getD i false := by simp [rdOf]
def clF (rs : List Int) : Nat → Nat → Int → Int
 | 0, _, m => m
 | g + 1, i, m => if jV rs i = true then clF rs g (i + 1) (if wideV (rs.getD i 0) > m then wideV (rs.getD i 0) else m) else m
def clV (rs : List Int) (i : Nat) : Int := clF rs (rs.length - (i + 1)) (i + 1) (wideV (rs.getD i 0))
theorem clF_le (rs : List Int) : ∀ (g i : Nat) (m : Int), 0 ≤ m → m ≤ 40 → 0 ≤ clF rs g i m ∧ clF rs g i m ≤ 40
 | 0, _, m, h0, h1 => ⟨h0, h1⟩
 | g + 1, i, m, h0, h1 => by
  have hw := wideV_le (rs.getD i 0)
  rw [clF]
  split
  · exact clF_le rs g (i + 1) _ (by split <;> omega) (by split <;> omega)
  · exact ⟨h0, h1⟩
theorem clV_le (rs : List Int) (i : Nat) : 0 ≤ clV rs i ∧ clV rs i ≤ 40 := clF_le rs _ _ _ (wideV_le _).1 (wideV_le _).2
theorem clusterI_l (rs : List Int) (hn : rs.length ≤ 1000) : ∀ (d k i : Nat) (m : Int), rs.length - i = d → 0 < i → i ≤ rs.length → d + 50 < k → impl_clusterWide.l0 k rs (jsV rs) m (i : Int) = some (clF rs d i m)
 | 0, k, i, m, hd, h0, hi, hk => by
  obtain ⟨k, rfl⟩ : ∃ m, k = m + 1 := ⟨k - 1, by omega⟩
  rw [impl_clusterWide.l0, if_neg (by omega), clF]
 | d + 1, k, i, m, hd, h0, hi, hk => by
  obtain ⟨k, rfl⟩ : ∃ m, k = m + 1 := ⟨k - 1, by omega⟩
  rw [impl_clusterWide.l0, if_pos (by omega), if_pos (by omega), if_pos (by rw [jsV_len]; omega), rdOfB, jsV_get (by omega), show jAt rs i = jV rs i from if_neg (by omega), clF]
  by_cases h : jV rs i = true
  ·
   rw [if_pos h, if_pos h, rd_nat, wide_i (by omega), Option.bind_some, w64 (by omega) (by omega), show ((i : Int) + 1) = ((i + 1 : Nat) : Int) by omega, clusterI_l rs hn d k (i + 1) _ (by omega) (by omega) (by omega) (by omega)]
   rfl
  · rw [if_neg h, if_neg h]
theorem clusterI_p {rs : List Int} {i k : Nat} (hn : rs.length ≤ 1000) (hi : i < rs.length) (hk : rs.length + 50 < k) : impl_clusterWide.f k rs (i : Int) = some (clV rs i) := by
 unfold impl_clusterWide.f clV
 rw [joined_p hn (by omega), Option.bind_some, if_pos (by omega), if_pos (by omega), rd_nat, wide_i (by omega), Option.bind_some, w64 (by omega) (by omega), show ((i : Int) + 1) = ((i + 1 : Nat) : Int) by omega]
 exact clusterI_l rs hn _ k (i + 1) _ rfl (by omega) (by omega) (by omega)
theorem clusterS_l (rs : List Int) (hn : rs.length ≤ 1000) : ∀ (d k i : Nat) (m : Int), rs.length - i = d → 0 < i → i ≤ rs.length → 2 * d + rs.length + 50 < k → spec_l2Wide.l0 k rs m (i : Int) = some (clF rs d i m)
 | 0, k, i, m, hd, h0, hi, hk => by
  obtain ⟨k, rfl⟩ : ∃ m, k = m + 2 := ⟨k - 2, by omega⟩
  rw [spec_l2Wide.l0, if_neg (by omega), clF, spec_l2Wide.j1, if_neg (by decide)]
 | d + 1, k, i, m, hd, h0, hi, hk => by
  obtain ⟨k, rfl⟩ : ∃ m, k = m + 2 := ⟨k - 2, by omega⟩
  rw [spec_l2Wide.l0, if_pos (by omega), join_s hn (by omega) (by omega) (by omega), Option.bind_some, clF, spec_l2Wide.j1]
  by_cases h : jV rs i = true
  ·
   rw [if_pos h, if_pos h, if_pos (by omega), if_pos (by omega), rd_nat, wide_s (by omega), Option.bind_some, w64 (by omega) (by omega), show ((i : Int) + 1) = ((i + 1 : Nat) : Int) by omega]
   by_cases hw : wideV (rs.getD i 0) > m
   · rw [if_pos hw, if_pos hw, Option.bind_some, clusterS_l rs hn d k (i + 1) _ (by omega) (by omega) (by omega) (by omega)]
   · rw [if_neg hw, if_neg hw, clusterS_l rs hn d k (i + 1) _ (by omega) (by omega) (by omega) (by omega)]
  · rw [if_neg h, if_neg h]
theorem clusterS_p {rs : List Int} {i k : Nat} (hn : rs.length ≤ 1000) (hi : i < rs.length) (hk : 3 * rs.length + 60 < k) : spec_l2Wide.f k rs (i : Int) = some (clV rs i) := by
 unfold spec_l2Wide.f clV
 rw [if_pos (by omega), if_pos (by omega), rd_nat, wide_s (by omega), Option.bind_some, w64 (by omega) (by omega), show ((i : Int) + 1) = ((i + 1 : Nat) : Int) by omega]
 exact clusterS_l rs hn _ k (i + 1) _ rfl (by omega) (by omega) (by omega)
theorem at_l (rs : List Int) (hn : rs.length ≤ 1000) : ∀ (i k : Nat), i < rs.length → i + rs.length + 50 < k → ∃ t : Int, spec_l2At.l0 k rs (i : Int) = some t ∧ t ≤ i ∧ (jAt rs i = false → t = i) ∧ (jAt rs i = true → t < i)
 | 0, k, hi, hk => by
  obtain ⟨k, rfl⟩ : ∃ m, k = m + 1 := ⟨k - 1, by omega⟩
  rw [spec_l2At.l0, if_neg (by omega)]
  exact ⟨_, rfl, Int.le_refl _, fun _ => rfl, fun h => by unfold jAt at h; simp at h⟩
 | i + 1, k, hi, hk => by
  obtain ⟨k, rfl⟩ : ∃ m, k = m + 1 := ⟨k - 1, by omega⟩
  rw [spec_l2At.l0, if_pos (by omega), join_s hn (by omega) (by omega) (by omega), Option.bind_some, show jAt rs (i + 1) = jV rs (i + 1) from if_neg (by omega)]
  by_cases h : jV rs (i + 1) = true
  ·
   rw [if_pos h, w64 (by omega) (by omega), show (((i + 1 : Nat) : Int) - 1) = (i : Int) by omega]
   obtain ⟨t, h1, h2, _, _⟩ := at_l rs hn i k (by omega) (by omega)
   exact ⟨t, h1, by omega, (fun e => absurd h (by rw [e]; decide)), fun _ => by omega⟩
  ·
   rw [if_neg h]
   exact ⟨_, rfl, Int.le_refl _, fun _ => rfl, fun e => absurd e h⟩
def wdV (rs : List Int) (sp : List Sp) (i : Nat) : Int := if jAt rs i = true then 0 else clV rs i * (atV (i : Int) sp).1
def wsV (rs : List Int) (sp : List Sp) : List Int := (List.range rs.length).map (wdV rs sp)
theorem wsV_len (rs : List Int) (sp : List Sp) : (wsV rs sp).length = rs.length := by simp [wsV]
theorem wsV_get {rs : List Int} {sp : List Sp} {i : Nat} (h : i < rs.length) : (wsV rs sp).getD i 0 = wdV rs sp i := by simp [wsV, List.getD_eq_getElem?_getD, h]
def SpB (sp : List Sp) : Prop := ∀ s ∈ sp, 0 ≤ s.f1 ∧ s.f1 ≤ 80 ∧ 1 ≤ s.f2 ∧ s.f2 ≤ 40
theorem spB_of {sp : List Sp} {n : Int} (h : spansV sp n = true) : SpB sp := by
 unfold spansV at h
 rw [Bool.and_eq_true, Bool.and_eq_true, allFrom_iff, decide_eq_true_eq, decide_eq_true_eq] at h
 intro s hs
 obtain ⟨i, hi, rfl⟩ := List.getElem_of_mem hs
 have := h.1 i (by omega) (by omega)
 unfold okAt at this
 rw [Bool.and_eq_true] at this
 have h2 := this.1
 unfold spanOkV at h2
 rw [decide_eq_true_eq] at h2
 have e : spAt sp i = sp[i] := by simp [spAt, List.getD_eq_getElem?_getD, hi]
 rw [e] at h2
 have := h.2.2
 omega
theorem atV_le {sp : List Sp} (h : SpB sp) (a : Int) : 1 ≤ (atV a sp).1 ∧ (atV a sp).1 ≤ 40 := by
 induction sp with
 | nil => rw [atV]; exact ⟨by decide, by decide⟩
 | cons s r ih =>
  have hs := h s (by simp)
  rw [atV]
  split
  · exact ⟨hs.2.2.1, hs.2.2.2⟩
  · exact ih (fun x hx => h x (List.mem_cons_of_mem _ hx))
theorem wdV_le {sp : List Sp} (h : SpB sp) (rs : List Int) (i : Nat) : 0 ≤ wdV rs sp i ∧ wdV rs sp i ≤ 1600 := by
 unfold wdV
 split
 · omega
 ·
  have h1 := clV_le rs i
  have h2 := atV_le h (i : Int)
  refine ⟨Int.mul_nonneg h1.1 (by omega), ?_⟩
  have := Int.mul_le_mul h1.2 h2.2 (by omega) (by omega : (0:Int) ≤ 40)
  omega
theorem widesS_l (rs : List Int) (sp : List Sp) (hn : rs.length ≤ 80) (hs : SpB sp) : ∀ (d k i : Nat), rs.length - i = d → i ≤ rs.length → d + 500 < k → spec_l6Wides.l0 k rs sp ((List.range i).map (wdV rs sp)) (i : Int) = some (wsV rs sp)
 | 0, k, i, hd, hi, hk => by
  obtain ⟨k, rfl⟩ : ∃ m, k = m + 1 := ⟨k - 1, by omega⟩
  obtain rfl : i = rs.length := by omega
  rw [spec_l6Wides.l0, if_neg (by omega)]
  rfl
 | d + 1, k, i, hd, hi, hk => by
  obtain ⟨k, rfl⟩ : ∃ m, k = m + 1 := ⟨k - 1, by omega⟩
  have ih := widesS_l rs sp hn hs d k (i + 1) (by omega) (by omega) (by omega)
  rw [List.range_succ, List.map_append, List.map_cons, List.map_nil] at ih
  have hl : ((List.range i).map (wdV rs sp)).length < 17592186044416 := by simp; omega
  have hb := wdV_le hs rs i
  obtain ⟨t, h1, h2, h3, h4⟩ := at_l rs (by omega) i k (by omega) (by omega)
  rw [spec_l6Wides.l0, if_pos (by omega)]
  unfold spec_l2At.f
  rw [h1, Option.bind_some, w64 (x := (i : Int) + 1) (by omega) (by omega), show ((i : Int) + 1) = ((i + 1 : Nat) : Int) by omega]
  unfold wdV at ih hb
  cases hj : jAt rs i
  ·
   rw [hj, if_neg (by decide)] at ih hb
   rw [if_pos (h3 hj)]
   unfold spec_l6At.f
   rw [Option.bind_some, clusterS_p (by omega) (by omega) (by omega), Option.bind_some, if_pos hl, w64 (by omega) (by omega)]
   exact ih
  ·
   rw [hj, if_pos rfl] at ih
   have := h4 hj
   rw [if_neg (by omega), if_pos hl]
   exact ih
theorem widesS_p {rs : List Int} {sp : List Sp} {k : Nat} (hn : rs.length ≤ 80) (hs : SpB sp) (hk : 1000 ≤ k) : spec_l6Wides.f k rs sp = some (wsV rs sp) := widesS_l rs sp hn hs rs.length k 0 (by omega) (by omega) (by omega)
end Go.Proofs.YtmcdcogedcbndaaGreat.Pure
/- How wide letters and lines are, by both texts. -/
namespace Go.Proofs.YtmcdcogedcbndaaGreat.Pure
open Go.RowKit Go.Proofs.YtmcdcogedcbndaaGreat.S Go.Proofs.YtmcdcogedcbndaaGreatW.PrintWords Go.Proofs.YtmcdcogedcbndaaGreatW.PrintLast
theorem look_l (sp : List Sp) (a : Int) (hs : SpB sp) (hl : sp.length ≤ 1000) : ∀ (d k i : Nat), sp.length - i = d → i ≤ sp.length → d < k → impl_lookAt.l0 k a sp (sp.length : Int) (i : Int) = some (atV a (sp.drop i))
 | 0, k, i, hd, hi, hk => by
  obtain ⟨k, rfl⟩ : ∃ m, k = m + 1 := ⟨k - 1, by omega⟩
  rw [impl_lookAt.l0, if_neg (by omega), List.drop_eq_nil_of_le (by omega)]
  rfl
 | d + 1, k, i, hd, hi, hk => by
  obtain ⟨k, rfl⟩ : ∃ m, k = m + 1 := ⟨k - 1, by omega⟩
  have hlt : i < sp.length := by omega
  have e : rd_T50 sp (i : Int) = sp[i] := by rw [rdSp]; simp [spAt, List.getD_eq_getElem?_getD, hlt]
  have hb := hs sp[i] (List.getElem_mem hlt)
  rw [impl_lookAt.l0, if_pos (by omega), if_pos (by omega), if_pos (by omega), e, w64 (by omega) (by omega), show ((i : Int) + 1) = ((i + 1 : Nat) : Int) by omega, look_l sp a hs hl d k (i + 1) (by omega) (by omega) (by omega), List.drop_eq_getElem_cons hlt, atV, w64 (x := sp[i].f1 - 1) (by omega) (by omega)]
  by_cases h0 : a ≥ sp[i].f0
  ·
   rw [if_pos h0]
   by_cases h1 : a < sp[i].f1
   · rw [if_pos h1, if_pos (by omega)]
   · rw [if_neg h1, if_neg (by omega)]
  · rw [if_neg h0, if_neg (by omega)]
theorem look_p {sp : List Sp} {a : Int} {k : Nat} (hs : SpB sp) (hl : sp.length ≤ 1000) (hk : sp.length < k) : impl_lookAt.f k sp a = some (atV a sp) := look_l sp a hs hl sp.length k 0 (by omega) (by omega) hk
def stsV (rs : List Int) : List Int := ((List.range rs.length).filter (fun i => !jAt rs i)).map Int.ofNat
theorem starts_l (rs : List Int) (hn : rs.length ≤ 1000) : ∀ (d k i : Nat), rs.length - i = d → i ≤ rs.length → d < k → impl_starts.l0 k (((List.range i).filter (fun i => !jAt rs i)).map Int.ofNat) (jsV rs) (rs.length : Int) (i : Int) = some (stsV rs)
 | 0, k, i, hd, hi, hk => by
  obtain ⟨k, rfl⟩ : ∃ m, k = m + 1 := ⟨k - 1, by omega⟩
  obtain rfl : i = rs.length := by omega
  rw [impl_starts.l0, if_neg (by omega)]
  rfl
 | d + 1, k, i, hd, hi, hk => by
  obtain ⟨k, rfl⟩ : ∃ m, k = m + 1 := ⟨k - 1, by omega⟩
  have ih := starts_l rs hn d k (i + 1) (by omega) (by omega) (by omega)
  have hf := List.length_filter_le (fun i => !jAt rs i) (List.range i)
  rw [List.length_range] at hf
  rw [List.range_succ, List.filter_append, List.map_append] at ih
  rw [impl_starts.l0, if_pos (by omega), if_pos (by omega), if_pos (by rw [jsV_len]; omega), rdOfB, jsV_get (by omega), w64 (by omega) (by omega), show ((i : Int) + 1) = ((i + 1 : Nat) : Int) by omega]
  cases hj : jAt rs i
  ·
   rw [if_neg (by decide), if_pos (by rw [List.length_map]; omega)]
   rw [List.filter_cons_of_pos (by rw [hj]; rfl)] at ih
   exact ih
  ·
   rw [if_pos rfl]
   rw [List.filter_cons_of_neg (by rw [hj]; decide), List.filter_nil, List.map_nil, List.append_nil] at ih
   exact ih
theorem starts_p {rs : List Int} {k : Nat} (hn : rs.length ≤ 1000) (hk : rs.length + 50 < k) : impl_starts.f k rs = some (stsV rs) := by
 unfold impl_starts.f
 rw [joined_p hn (by omega), Option.bind_some, jsV_len]
 exact starts_l rs hn rs.length k 0 (by omega) (by omega) (by omega)
def putS (rs : List Int) (sp : List Sp) : List Nat → List Int → List Int
 | [], o => o
 | i :: r, o => putS rs sp r (o.set i (clV rs i * (atV (i : Int) sp).1))
theorem putS_len (rs : List Int) (sp : List Sp) : ∀ (l : List Nat) (o : List Int), (putS rs sp l o).length = o.length
 | [], o => rfl
 | i :: r, o => by rw [putS, putS_len rs sp r, List.length_set]
theorem putS_get (rs : List Int) (sp : List Sp) : ∀ (l : List Nat) (o : List Int) (j : Nat), j < o.length → (putS rs sp l o).getD j 0 = if j ∈ l then clV rs j * (atV (j : Int) sp).1 else o.getD j 0
 | [], o, j, hj => by rw [putS, if_neg (by simp)]
 | i :: r, o, j, hj => by
  rw [putS, putS_get rs sp r _ j (by rw [List.length_set]; exact hj)]
  by_cases h : j ∈ r
  · rw [if_pos h, if_pos (List.mem_cons_of_mem _ h)]
  ·
   rw [if_neg h]
   by_cases e : j = i
   ·
    subst e
    rw [if_pos (by simp), List.getD_eq_getElem?_getD, List.getElem?_set_self hj, Option.getD_some]
   · rw [if_neg (by simp [e, h]), List.getD_eq_getElem?_getD, List.getElem?_set_ne (fun x => e x.symm), ← List.getD_eq_getElem?_getD]
theorem ext_getD {a b : List Int} (hl : a.length = b.length) (h : ∀ j, j < a.length → a.getD j 0 = b.getD j 0) : a = b := by
 refine List.ext_getElem hl fun j h1 h2 => ?_
 have := h j h1
 rwa [List.getD_eq_getElem?_getD, List.getElem?_eq_getElem h1, Option.getD_some, List.getD_eq_getElem?_getD, List.getElem?_eq_getElem h2, Option.getD_some] at this
theorem widesI_l (rs : List Int) (sp : List Sp) (hn : rs.length ≤ 80) (hs : SpB sp) (hsl : sp.length ≤ 100) (l : List Nat) (hl : ∀ i ∈ l, i < rs.length) (hl9 : l.length ≤ 100) : ∀ (d k i : Nat) (o : List Int), l.length - i = d → i ≤ l.length → o.length = rs.length → d + 500 < k → impl_widesOf.l0 k rs sp o (l.map Int.ofNat) (l.length : Int) (i : Int) = some (putS rs sp (l.drop i) o)
 | 0, k, i, o, hd, hi, ho, hk => by
  obtain ⟨k, rfl⟩ : ∃ m, k = m + 1 := ⟨k - 1, by omega⟩
  rw [impl_widesOf.l0, if_neg (by omega), List.drop_eq_nil_of_le (by omega), putS]
 | d + 1, k, i, o, hd, hi, ho, hk => by
  obtain ⟨k, rfl⟩ : ∃ m, k = m + 1 := ⟨k - 1, by omega⟩
  have hlt : i < l.length := by omega
  have hm := hl l[i] (List.getElem_mem hlt)
  have e : rd (l.map Int.ofNat) (i : Int) = ((l[i] : Nat) : Int) := by simp [rd, List.getD_eq_getElem?_getD, hlt]
  have h1 := clV_le rs l[i]
  have h2 := atV_le hs ((l[i] : Nat) : Int)
  have h3 := Int.mul_nonneg h1.1 (show 0 ≤ (atV ((l[i] : Nat) : Int) sp).1 by omega)
  have h4 := Int.mul_le_mul h1.2 h2.2 (by omega) (by omega : (0:Int) ≤ 40)
  rw [impl_widesOf.l0, if_pos (by omega), if_pos (by omega), if_pos (by rw [List.length_map]; omega), e, clusterI_p (by omega) hm (by omega), Option.bind_some, look_p hs (by omega) (by omega), Option.bind_some, if_pos (by omega), if_pos (by omega), Int.toNat_natCast, w64 (x := clV rs l[i] * _) (by omega) (by omega), w64 (by omega) (by omega), show ((i : Int) + 1) = ((i + 1 : Nat) : Int) by omega, List.drop_eq_getElem_cons hlt, putS]
  exact widesI_l rs sp hn hs hsl l hl hl9 d k (i + 1) _ (by omega) (by omega) (by rw [List.length_set]; exact ho) (by omega)
theorem widesI_p {rs : List Int} {sp : List Sp} {k : Nat} (hn : rs.length ≤ 80) (hs : SpB sp) (hsl : sp.length ≤ 100) (hk : 1000 ≤ k) : impl_widesOf.f k rs sp = some (wsV rs sp) := by
 have hf := List.length_filter_le (fun i => !jAt rs i) (List.range rs.length)
 rw [List.length_range] at hf
 have h := widesI_l rs sp hn hs hsl ((List.range rs.length).filter (fun i => !jAt rs i)) (fun i hi => by simpa using (List.mem_filter.mp hi).1) (by omega) _ k 0 (List.replicate rs.length 0) rfl (by omega) (by simp) (by omega)
 unfold impl_widesOf.f
 rw [if_pos (by omega), if_pos (by omega), starts_p (by omega) (by omega), Option.bind_some, Int.toNat_natCast]
 have e : (stsV rs).length = ((List.range rs.length).filter (fun i => !jAt rs i)).length := by simp [stsV]
 rw [e]
 unfold stsV
 rw [show ((0 : Nat) : Int) = 0 from rfl] at h
 rw [h, List.drop_zero]
 congr 1
 refine ext_getD (by rw [putS_len, wsV_len]; simp) fun j hj => ?_
 rw [putS_len, List.length_replicate] at hj
 rw [putS_get _ _ _ _ _ (by simpa using hj), wsV_get hj, wdV]
 cases hja : jAt rs j
 · rw [if_pos (List.mem_filter.mpr ⟨by simpa using hj, by rw [hja]; rfl⟩), if_neg (by decide)]
 ·
  rw [if_neg (fun h => by have := (List.mem_filter.mp h).2; rw [hja] at this; cases this), if_pos rfl]
  simp [List.getD_eq_getElem?_getD, hj]
def emptB (a : Int) : Bool := decide (a = 32 ∨ a = 10 ∨ wideV a = 0)
def bodV (rs : List Int) (fr : Nat) : Nat → Nat
 | 0 => 0
 | t + 1 => if fr < t + 1 then (if emptB (rs.getD t 0) = true then bodV rs fr t else t + 1) else t + 1
theorem bodV_le (rs : List Int) (fr : Nat) : ∀ t, fr ≤ t → fr ≤ bodV rs fr t ∧ bodV rs fr t ≤ t
 | 0, h => ⟨h, Nat.le_refl _⟩
 | t + 1, h => by
  rw [bodV]
  split
  ·
   split
   ·
    have := bodV_le rs fr t (by omega)
    omega
   · omega
  · omega
theorem body_i (rs : List Int) (fr : Nat) (hn : rs.length ≤ 1000) : ∀ (t k : Nat), t ≤ rs.length → fr ≤ t → t + 50 < k → impl_body.l0 k rs (fr : Int) (t : Int) = some ((bodV rs fr t : Nat) : Int)
 | 0, k, ht, hf, hk => by
  obtain ⟨k, rfl⟩ : ∃ m, k = m + 1 := ⟨k - 1, by omega⟩
  rw [impl_body.l0, if_neg (by omega), bodV]
 | t + 1, k, ht, hf, hk => by
  obtain ⟨k, rfl⟩ : ∃ m, k = m + 1 := ⟨k - 1, by omega⟩
  have w1 : wrap64 (((t + 1 : Nat) : Int) - 1) = (t : Int) := by rw [w64 (by omega) (by omega)]; omega
  rw [impl_body.l0, bodV]
  by_cases h : fr < t + 1
  ·
   have ih := body_i rs fr hn t k (by omega) (by omega) (by omega)
   rw [if_pos (by omega), if_pos h, w1, if_pos (by omega), if_pos (by omega), rd_nat]
   unfold emptB
   by_cases h1 : rs.getD t 0 = 32
   · rw [if_pos h1, decide_eq_true (.inl h1), if_pos rfl, ih]
   rw [if_neg h1]
   by_cases h2 : rs.getD t 0 = 10
   · rw [if_pos h2, decide_eq_true (.inr (.inl h2)), if_pos rfl, ih]
   rw [if_neg h2, wide_i (by omega), Option.bind_some]
   by_cases h3 : wideV (rs.getD t 0) = 0
   · rw [if_pos h3, decide_eq_true (.inr (.inr h3)), if_pos rfl, ih]
   · rw [if_neg h3, decide_eq_false (by rintro (h | h | h); exact h1 h; exact h2 h; exact h3 h), if_neg (by decide)]
  · rw [if_neg (by omega), if_neg h]
theorem empt_s {k : Nat} (hk : 30 ≤ k) (a : Int) : spec_l7Empty.f k a = some (emptB a) := by
 unfold spec_l7Empty.f emptB
 by_cases h1 : a = 32
 · rw [if_pos h1, decide_eq_true (.inl h1)]
 rw [if_neg h1]
 by_cases h2 : a = 10
 · rw [if_pos h2, decide_eq_true (.inr (.inl h2))]
 rw [if_neg h2, wide_s hk, Option.bind_some]
 by_cases h3 : wideV a = 0
 · rw [decide_eq_true (.inr (.inr h3)), beq_iff_eq.mpr h3]
 · rw [decide_eq_false (by rintro (h | h | h); exact h1 h; exact h2 h; exact h3 h), beq_eq_false_iff_ne.mpr h3]
theorem sum_s (ws : List Int) (hn : ws.length ≤ 1000) (b : Nat) (hb : b ≤ ws.length) : ∀ (d k i : Nat) (s : Int), b - i = d → i ≤ b → d < k → spec_l7Wide.l1 k ws (b : Int) s (i : Int) = some (sumW ((ws.take b).drop i) s)
 | 0, k, i, s, hd, hi, hk => by
  obtain ⟨k, rfl⟩ : ∃ m, k = m + 1 := ⟨k - 1, by omega⟩
  rw [spec_l7Wide.l1, if_neg (by omega), List.drop_eq_nil_of_le (by simp; omega), sumW]
 | d + 1, k, i, s, hd, hi, hk => by
  obtain ⟨k, rfl⟩ : ∃ m, k = m + 1 := ⟨k - 1, by omega⟩
  have hlt : i < (ws.take b).length := by simp; omega
  have e : (ws.take b)[i] = ws.getD i 0 := by
   rw [List.getElem_take, List.getD_eq_getElem?_getD, List.getElem?_eq_getElem (by omega), Option.getD_some]
  rw [spec_l7Wide.l1, if_pos (by omega), if_pos (by omega), if_pos (by omega), List.drop_eq_getElem_cons hlt, sumW, e, rd_nat, w64 (x := (i : Int) + 1) (by omega) (by omega), show ((i : Int) + 1) = ((i + 1 : Nat) : Int) by omega]
  exact sum_s ws hn b hb d k (i + 1) _ (by omega) (by omega) (by omega)
def lwV (rs ws : List Int) (fr to_ : Nat) : Int := sumW ((ws.take (bodV rs fr to_)).drop fr) 0
theorem lineI_p {rs ws : List Int} {fr to_ k : Nat} (hn : rs.length ≤ 1000) (hw : ws.length = rs.length) (h1 : fr ≤ to_) (h2 : to_ ≤ rs.length) (hk : rs.length + 50 < k) : impl_lineWide.f k rs ws (fr : Int) (to_ : Int) = some (lwV rs ws fr to_) := by
 have hb := bodV_le rs fr to_ h1
 unfold impl_lineWide.f impl_body.f lwV
 rw [body_i rs fr hn to_ k h2 h1 (by omega), Option.bind_some, if_pos ⟨by omega, by omega, by omega⟩, Int.toNat_natCast, Int.toNat_natCast]
theorem lineS_l (rs ws : List Int) (fr : Nat) (hn : rs.length ≤ 1000) (hw : ws.length = rs.length) : ∀ (t k : Nat), t ≤ rs.length → fr ≤ t → t + rs.length + 50 < k → spec_l7Wide.l0 k rs ws (fr : Int) (t : Int) = some (sumW ((ws.take (bodV rs fr t)).drop fr) 0)
 | 0, k, ht, hf, hk => by
  obtain ⟨k, rfl⟩ : ∃ m, k = m + 2 := ⟨k - 2, by omega⟩
  rw [spec_l7Wide.l0, if_neg (by omega), bodV, spec_l7Wide.j1, sum_s ws (by omega) 0 (by omega) 0 k fr 0 (by omega) (by omega) (by omega)]
 | t + 1, k, ht, hf, hk => by
  obtain ⟨k, rfl⟩ : ∃ m, k = m + 2 := ⟨k - 2, by omega⟩
  have w1 : wrap64 (((t + 1 : Nat) : Int) - 1) = (t : Int) := by rw [w64 (by omega) (by omega)]; omega
  have hend : spec_l7Wide.j1 (k + 1) ws (fr : Int) ((t + 1 : Nat) : Int) = some (sumW ((ws.take (t + 1)).drop fr) 0) := by
   rw [spec_l7Wide.j1]
   exact sum_s ws (by omega) (t + 1) (by omega) _ k fr 0 rfl (by omega) (by omega)
  rw [spec_l7Wide.l0, bodV]
  by_cases h : fr < t + 1
  ·
   rw [if_pos (by omega), if_pos h, w1, if_pos (by omega), if_pos (by omega), rd_nat, empt_s (by omega), Option.bind_some]
   by_cases he : emptB (rs.getD t 0) = true
   ·
    rw [if_pos he, if_pos he]
    exact lineS_l rs ws fr hn hw t (k + 1) (by omega) (by omega) (by omega)
   ·
    rw [if_neg he, if_neg he]
    exact hend
  ·
   rw [if_neg (by omega), if_neg h]
   exact hend
theorem lineS_p {rs ws : List Int} {fr to_ k : Nat} (hn : rs.length ≤ 1000) (hw : ws.length = rs.length) (h1 : fr ≤ to_) (h2 : to_ ≤ rs.length) (hk : 2 * rs.length + 50 < k) : spec_l7Wide.f k rs ws (fr : Int) (to_ : Int) = some (lwV rs ws fr to_) := lineS_l rs ws fr hn hw to_ k h2 h1 (by omega)
end Go.Proofs.YtmcdcogedcbndaaGreat.Pure
namespace Go.Proofs.YtmcdcogedcbndaaGreat.S
open Go.RowKit Go.Proofs.YtmcdcogedcbndaaGreatW.PrintWords Go.Proofs.YtmcdcogedcbndaaGreatW.PrintLast
set_option linter.unusedVariables false
set_option linter.unusedSimpArgs false
def laws_markIntS.l0 : Nat → List Int → Int → Int → Option (Int × List Int)
 | 0, _, _, _ => none
 | k + 1, x0, x1, x5 => if x5 < (x0.length : Int) then (if 0 ≤ x5 then (laws_markIntS.l0 k (x0.set (x5 : Int).toNat x1) (wrap64 (x1 + 1)) (wrap64 (x5 + 1))) else (none)) else (some (x1, x0))
def laws_markIntS.f (k : Nat) (l0 : List Int) (a1 : Int) : Option (Int × List Int) := laws_markIntS.l0 k l0 a1 0
theorem laws_markIntS.mono_l : ∀ k, (∀ y0 y1 y2, LeO (laws_markIntS.l0 k y0 y1 y2) (laws_markIntS.l0 (k + 1) y0 y1 y2))
 | 0 => fun _ _ _ r h => by simp [laws_markIntS.l0] at h
 | k + 1 => by
  have ih0 := laws_markIntS.mono_l k
  ·
   intro y0 y1 y2; unfold laws_markIntS.l0
   repeat' first
   | (with_reducible exact ih0 _ _ _)
   | (with_reducible exact LeO.refl _)
   | (with_reducible exact LeO.none _)
   | (with_reducible refine LeO.ite ?_ ?_)
   | (with_reducible refine LeO.bind ?_ (fun _ => ?_))
   | exact ih0 _ _ _
   | exact LeO.none _
   | refine LeO.ite ?_ ?_
   | refine LeO.bind ?_ (fun _ => ?_)
theorem laws_markIntS.mono : ∀ a0 a1 k, LeO (laws_markIntS.f k a0 a1) (laws_markIntS.f (k + 1) a0 a1) := by
 intro a0 a1 k; have ih0 := laws_markIntS.mono_l k; unfold laws_markIntS.f
 repeat' first
   | (with_reducible exact ih0 _ _ _)
   | (with_reducible exact LeO.refl _)
   | (with_reducible exact LeO.none _)
   | (with_reducible refine LeO.ite ?_ ?_)
   | (with_reducible refine LeO.bind ?_ (fun _ => ?_))
   | exact ih0 _ _ _
   | exact LeO.none _
   | refine LeO.ite ?_ ?_
   | refine LeO.bind ?_ (fun _ => ?_)
theorem laws_markIntS.calls (k : Nat) (P0_ : Nat → Prop) (u9000_ : Value) (l0 : List Int) (a1 : Int) (r1 : Int) (r2 : List Int) (w0 w : World) (hB : Below w0.heap.size w0 w) (ho0 : Kd.R (Kd.int .i64) 3 w w0.heap.size P0_ u9000_ l0) (h : laws_markIntS.f k l0 a1 = some (r1, r2)) :
  Calls Tryz.prog 18 #[u9000_, .int .i64 a1] w fun e w' => e = .returned (.int .i64 r1) ∧ Kd.R (Kd.int .i64) 3 w' w0.heap.size (fun k_ => (P0_ k_ ∨ w.heap.size ≤ k_)) u9000_ r2 ∧ Below w0.heap.size w0 w' ∧ Kept w w' (fun k_ => P0_ k_) := by
 have HO0 := az (show Kd.R (Kd.int .i64) 3 w w0.heap.size (fun k_ => (P0_ k_ ∨ w.heap.size ≤ k_)) u9000_ l0 from Kd.R_mono ho0 (fun k_ hk => (.inl hk))); have HK := az (Kept.refl w (fun k_ => P0_ k_)); have HW0 := az hB.size; have HB := az hB; clear hB; have H : (laws_markIntS.l0 k l0 a1 0) = some (r1, r2) := h; clear h; have H' := az H; clear H; go_enter Tryz.func18, Tryz.ntmps18; go_wp2; go_loopg [1, 5] k (fun kq v1 v5 w' => ∃ (x0_1 : List Int) (x1_1 : Int) (x5_1 : Int), v1 = .int .i64 x1_1 ∧ v5 = .int .i64 x5_1 ∧ Aside0 (laws_markIntS.l0 kq x0_1 x1_1 x5_1 = some (r1, r2)) ∧ Aside0 (kq ≤ k) ∧ Aside0 (Kd.R (Kd.int .i64) 3 w' w0.heap.size (fun k_ => (P0_ k_ ∨ w.heap.size ≤ k_)) u9000_ x0_1) ∧ Aside0 (Kept w w' (fun k_ => P0_ k_)) ∧ Aside0 (Below w0.heap.size w0 w'))
 case atStart => exact ⟨(l0), (a1), (0), zB, zB, H', ⟨Nat.le_refl _⟩, ⟨zF HO0.out⟩, ⟨zV HK.out⟩, ⟨zA HB.out⟩⟩
 case round =>
  clear H'; (try clear c1); (try clear p2); obtain ⟨x0_1, x1_1, x5_1, rfl, rfl, HA, HK1, HO_0, HK, HB⟩ := hrel
  cases gk with
  | zero => exact absurd HA.out (by simp [laws_markIntS.l0])
  | succ k1 =>
   have H := HA.out; clear HA; simp only [laws_markIntS.l0] at H; by_cases c3 : x5_1 < (x0_1.length : Int)
   ·
    rw [if_pos c3] at H; have c3b0 : decide (x5_1 < (x0_1.length : Int)) = true := decide_eq_true c3; clear c3; by_cases c4 : 0 ≤ x5_1
    ·
     rw [if_pos c4] at H; have c4b0 : decide (0 ≤ x5_1) = true := decide_eq_true c4; clear c4; obtain ⟨y374, hy374⟩ : ∃ y_ : List Int, y_ = (x0_1.set (x5_1 : Int).toNat x1_1) := ⟨_, rfl⟩; replace H : (laws_markIntS.l0 k1 y374 (wrap64 (x1_1 + 1)) (wrap64 (x5_1 + 1))) = some (r1, r2) := by first | (rw [hy374]; with_reducible exact H) | (have H2_ := (Option.bind_some _ _).symm.trans H; rw [hy374]; with_reducible exact H2_) | (have H2_ := (Option.bind_some _ _).symm.trans H; with_reducible exact H2_) | with_reducible exact H | (rw [hy374]; exact H) | exact H
     have Ny374 := az hy374; clear hy374; have H' := az H; clear H; obtain ⟨Ao6, co6, eo6⟩ := Kd.R_slice HO_0.out; subst eo6; have p5 : 0 ≤ (x5_1 : Int) := of_decide_eq_true (by assumption); have q5 : (x5_1 : Int) < ((x0_1.length : Int) : Int) := of_decide_eq_true (by assumption); obtain ⟨go5, co5, eo5, gb5, gl5, cl5, HG5⟩ := Kd.R_form HO_0.out (by omega); (first | cases eo5 | (injection eo5 with ea_ en_ ec_; (first | subst ea_ | (injection ea_ with ea_; subst ea_)); subst ec_; clear en_)); have GB5 := az gb5; have GG5 := az HG5; clear gb5 gl5 HG5; have HMgo5 := az (show (P0_ go5 ∨ w.heap.size ≤ go5) from (HO_0.out.1 _ rfl)); obtain ⟨hx5_0, hf5_0⟩ := Kd.R_celln 0 HO_0.out (x5_1 : Int) p5 q5; replace p5 := eq_true p5; replace q5 := eq_true q5; have HP7 := Kd.R_putg HO_0.out (x5_1 : Int) x1_1; go_wp2_with (first | ((with_reducible refine gate_store (t := 3) (p := 15) rfl ?_); refine store_event (t := 3) (p := 15) (v := ?vo_w8) (w1 := (wr.setCell ⟨go5, (x5_1 : Int).toNat, none⟩ (.int .i64 x1_1))) ?hg ?ho ?hn ?hr ?_; (case ho => rfl); (case hg => rfl); (case hn => rfl); (case hr => first | (go_simp; done) | (go_simp; rfl)); intro w8 hw; have hg : wr.grownBy w8 (some go5) := (by rw [hw]; exact HP7.2); have hp_ : Kd.R (Kd.int .i64) 3 w8 w0.heap.size (fun k_ => (P0_ k_ ∨ w.heap.size ≤ k_)) (.slice (some ⟨go5, 0, none⟩) x0_1.length co6) y374 := (by rw [hw, Ny374.out]; exact HP7.1); clear HP7; have n0_ := az (hp_); have n1_ := az ((by rw [hw]; exact below_set (HB.out) GB5.out : Below w0.heap.size w0 w8)); have n2_ := az (Kept.of_grown (S := (fun k_ => P0_ k_)) hg (zV HK.out) (fun k_ e_ => (HO_0.out.1 k_ e_))); clear HO_0; clear HB; clear HK; have HO_0 := n0_; have HB := n1_; have HK := n2_; clear n0_ n1_ n2_; clear hg hw hp_)); go_roundg k1
     case measure => have := HK1.out; omega
     case rel => exact ⟨(y374), (wrap64 (x1_1 + 1)), (wrap64 (x5_1 + 1)), zB, zB, H', ⟨zE HK1.out⟩, ⟨zF HO_0.out⟩, ⟨zV HK.out⟩, ⟨zA HB.out⟩⟩
    ·
     rw [if_neg c4] at H; exact absurd H (by simp)
   ·
    rw [if_neg c3] at H; have c3b0 : decide (x5_1 < (x0_1.length : Int)) = false := decide_eq_false c3; clear c3; simp only [Option.some.injEq, Prod.mk.injEq] at H; obtain ⟨rfl, rfl⟩ := H; obtain ⟨Ao9, co9, eo9⟩ := Kd.R_slice HO_0.out; subst eo9; go_wp2; go_ret; exact ⟨zG, zF HO_0.out, zA HB.out, zV HK.out⟩
def laws_heldIntS.l0 : Nat → List Int → Int → Int → Option (Int)
 | 0, _, _, _ => none
 | k + 1, x0, x1, x5 => if x5 < (x0.length : Int) then (if 0 ≤ x5 then (if (rd x0 x5) = x1 then (laws_heldIntS.l0 k x0 (wrap64 (x1 + 1)) (wrap64 (x5 + 1))) else (some (-1))) else (none)) else (some x1)
def laws_heldIntS.f (k : Nat) (l0 : List Int) (a1 : Int) : Option (Int) := laws_heldIntS.l0 k l0 a1 0
theorem laws_heldIntS.mono_l : ∀ k, (∀ y0 y1 y2, LeO (laws_heldIntS.l0 k y0 y1 y2) (laws_heldIntS.l0 (k + 1) y0 y1 y2))
 | 0 => fun _ _ _ r h => by simp [laws_heldIntS.l0] at h
 | k + 1 => by
  have ih0 := laws_heldIntS.mono_l k
  ·
   intro y0 y1 y2; unfold laws_heldIntS.l0
   repeat' first
   | (with_reducible exact ih0 _ _ _)
   | (with_reducible exact LeO.refl _)
   | (with_reducible exact LeO.none _)
   | (with_reducible refine LeO.ite ?_ ?_)
   | (with_reducible refine LeO.bind ?_ (fun _ => ?_))
   | exact ih0 _ _ _
   | exact LeO.none _
   | refine LeO.ite ?_ ?_
   | refine LeO.bind ?_ (fun _ => ?_)
theorem laws_heldIntS.mono : ∀ a0 a1 k, LeO (laws_heldIntS.f k a0 a1) (laws_heldIntS.f (k + 1) a0 a1) := by
 intro a0 a1 k; have ih0 := laws_heldIntS.mono_l k; unfold laws_heldIntS.f
 repeat' first
   | (with_reducible exact ih0 _ _ _)
   | (with_reducible exact LeO.refl _)
   | (with_reducible exact LeO.none _)
   | (with_reducible refine LeO.ite ?_ ?_)
   | (with_reducible refine LeO.bind ?_ (fun _ => ?_))
   | exact ih0 _ _ _
   | exact LeO.none _
   | refine LeO.ite ?_ ?_
   | refine LeO.bind ?_ (fun _ => ?_)
theorem laws_heldIntS.calls (k : Nat) (A0 : Option Addr) (c0 : Nat) (l0 : List Int) (a1 : Int) (r : Int) (w : World) (hr0 : Kd.C (Kd.int .i64) w A0 l0.length l0) (hc0 : l0.length ≤ c0) (h : laws_heldIntS.f k l0 a1 = some r) :
  Calls Tryz.prog 20 #[.slice A0 l0.length c0, .int .i64 a1] w fun e w' => e = .returned (.int .i64 r) ∧ Drawn0 w w' := by
 have HR0 := az hr0; have HC0 := az hc0; clear hr0 hc0; have H : (laws_heldIntS.l0 k l0 a1 0) = some r := h; clear h; have H' := az H; clear H; go_enter Tryz.func20, Tryz.ntmps20; go_wp2; go_loopg [1, 5] k (fun kq v1 v5 w' => ∃ (x1_1 : Int) (x5_1 : Int), v1 = .int .i64 x1_1 ∧ v5 = .int .i64 x5_1 ∧ Aside0 (laws_heldIntS.l0 kq l0 x1_1 x5_1 = some r) ∧ Aside0 (kq ≤ k) ∧ Drawn0 w w')
 case atStart => exact ⟨(a1), (0), zB, zB, H', ⟨Nat.le_refl _⟩, zD⟩
 case round =>
  clear H'; (try clear c2); (try clear p2); obtain ⟨x1_1, x5_1, rfl, rfl, HA, HK1, ⟨m1, rfl⟩⟩ := hrel
  cases gk with
  | zero => exact absurd HA.out (by simp [laws_heldIntS.l0])
  | succ k1 =>
   have H := HA.out; clear HA; simp only [laws_heldIntS.l0] at H; by_cases c3 : x5_1 < (l0.length : Int)
   ·
    rw [if_pos c3] at H; have c3b0 : decide (x5_1 < (l0.length : Int)) = true := decide_eq_true c3; clear c3; by_cases c4 : 0 ≤ x5_1
    ·
     rw [if_pos c4] at H; have c4b0 : decide (0 ≤ x5_1) = true := decide_eq_true c4; clear c4; by_cases c5 : (rd l0 x5_1) = x1_1
     ·
      rw [if_pos c5] at H; have c5b0 : ((rd l0 x5_1) == x1_1) = true := beq_iff_eq.mpr c5; have c5b1 : ((rd l0 x5_1) != x1_1) = false := bne_eq_false_iff_eq.mpr c5; clear c5; have H' := az H; clear H; have p379 : 0 ≤ (x5_1 : Int) := of_decide_eq_true (by assumption); have q379 : x5_1 < (l0.length : Int) := of_decide_eq_true (by assumption); obtain ⟨ad379, e379, hx379_0⟩ := Kd.at_int HR0.out x5_1 p379 q379
      cases e379
      replace p379 := eq_true p379; replace q379 := eq_true q379; go_wp2; go_roundg k1
      case measure => have := HK1.out; omega
      case rel => exact ⟨(wrap64 (x1_1 + 1)), (wrap64 (x5_1 + 1)), zB, zB, H', ⟨zE HK1.out⟩, zD⟩
     ·
      rw [if_neg c5] at H; have c5b0 : ((rd l0 x5_1) == x1_1) = false := beq_eq_false_iff_ne.mpr c5; have c5b1 : ((rd l0 x5_1) != x1_1) = true := bne_iff_ne.mpr c5; obtain rfl := Option.some.inj H; have p379 : 0 ≤ (x5_1 : Int) := of_decide_eq_true (by assumption); have q379 : x5_1 < (l0.length : Int) := of_decide_eq_true (by assumption); obtain ⟨ad379, e379, hx379_0⟩ := Kd.at_int HR0.out x5_1 p379 q379
      cases e379
      replace p379 := eq_true p379; replace q379 := eq_true q379; go_wp2; go_ret; exact ⟨zB, zD⟩
    ·
     rw [if_neg c4] at H; exact absurd H (by simp)
   ·
    rw [if_neg c3] at H; have c3b0 : decide (x5_1 < (l0.length : Int)) = false := decide_eq_false c3; clear c3; obtain rfl := Option.some.inj H; go_wp2; go_ret; exact ⟨zB, zD⟩
end Go.Proofs.YtmcdcogedcbndaaGreat.S
/- What the laws' own helpers answer: a copy, equality, a row written with 1, 2, 3 .., and whether it still holds that. -/
namespace Go.Proofs.YtmcdcogedcbndaaGreat.Pure
open Go.RowKit Go.Proofs.YtmcdcogedcbndaaGreat.S Go.Proofs.YtmcdcogedcbndaaGreatW.PrintWords Go.Proofs.YtmcdcogedcbndaaGreatW.PrintLast
end Go.Proofs.YtmcdcogedcbndaaGreat.Pure
/- Letters that are ok, by both texts. -/
namespace Go.Proofs.YtmcdcogedcbndaaGreat.Pure
open Go.RowKit Go.Proofs.YtmcdcogedcbndaaGreat.S Go.Proofs.YtmcdcogedcbndaaGreatW.PrintWords Go.Proofs.YtmcdcogedcbndaaGreatW.PrintLast
theorem l1In_p (a b c : Int) : spec_l1In.f a b c = some (decide (b ≤ a) && decide (a ≤ c)) := by
 unfold spec_l1In.f
 by_cases h : b ≤ a <;> simp [h]
def sizeV (a : Int) : Int := if 0 ≤ a ∧ a ≤ 127 then 1 else if 128 ≤ a ∧ a ≤ 2047 then 2 else if 55296 ≤ a ∧ a ≤ 57343 then 0 else if 2048 ≤ a ∧ a ≤ 65535 then 3 else if 65536 ≤ a ∧ a ≤ 1114111 then 4 else 0
theorem size_f (a : Int) : spec_l1Size.f a = some (sizeV a) := by
 simp only [spec_l1Size.f, l1In_p, Option.bind_some, sizeV]
 grind
theorem size_let (a : Int) : sizeV a = 0 ↔ isLetV a = false := by
 simp only [isLetV, sizeV]
 grind
theorem size_p (a : Int) : ∃ s, spec_l1Size.f a = some s ∧ (s = 0 ↔ isLetV a = false) := ⟨_, size_f a, size_let a⟩
theorem ok_l (l : List Int) (hn : l.length ≤ 1099511627776) : ∀ (d k i : Nat), l.length - i = d → i ≤ l.length → d < k →
  spec_l1Ok.l0 k l (i : Int) = some ((l.drop i).all isLetV && decide (l.length ≤ 80))
 | 0, k, i, hd, hi, hk => by
  obtain ⟨k, rfl⟩ : ∃ m, k = m + 1 := ⟨k - 1, by omega⟩
  have e : i = l.length := by omega
  subst e
  rw [spec_l1Ok.l0, if_neg (by omega), List.drop_length]
  simp only [List.all_nil, Bool.true_and, Option.some.injEq, decide_eq_decide]
  omega
 | d + 1, k, i, hd, hi, hk => by
  obtain ⟨k, rfl⟩ : ∃ m, k = m + 1 := ⟨k - 1, by omega⟩
  have hlt : i < l.length := by omega
  obtain ⟨s, hs, hz⟩ := size_p l[i]
  rw [spec_l1Ok.l0, if_pos (by omega), if_pos (by omega), w64 (by omega) (by omega), rd_get hlt, hs, Option.bind_some, List.drop_eq_getElem_cons hlt, List.all_cons]
  have := ok_l l hn d k (i + 1) (by omega) (by omega) (by omega)
  rw [show ((i : Int) + 1) = ((i + 1 : Nat) : Int) by omega, this]
  by_cases h : s = 0
  · rw [if_pos h, hz.1 h]; simp
  ·
   have : isLetV l[i] = true := by
    cases e : isLetV l[i]
    · exact absurd (hz.2 e) h
    · rfl
   rw [if_neg h, this, Bool.true_and]
theorem ok_p {l : List Int} {k : Nat} (hn : l.length ≤ 1099511627776) (hk : l.length < k) : spec_l1Ok.f k l = some (okV l) := by
 unfold spec_l1Ok.f
 have := ok_l l hn l.length k 0 (by omega) (by omega) hk
 rw [show ((0 : Nat) : Int) = 0 from rfl] at this
 rw [this, List.drop_zero, okV, Bool.and_comm]
theorem ok_len {l : List Int} (h : okV l = true) : l.length ≤ 80 := by
 simp [okV] at h; exact h.1
end Go.Proofs.YtmcdcogedcbndaaGreat.Pure
/- What both texts ask ahead of filling; where a line must end. -/
namespace Go.Proofs.YtmcdcogedcbndaaGreat.Pure
open Go.RowKit Go.Proofs.YtmcdcogedcbndaaGreat.S Go.Proofs.YtmcdcogedcbndaaGreatW.PrintWords Go.Proofs.YtmcdcogedcbndaaGreatW.PrintLast
theorem idx_l (bs : List Int) (fr n : Nat) (hb : bs.length ≤ 1000) : ∀ (d k i : Nat), bs.length - fr - i = d → fr + i ≤ bs.length → d < k → (∃ p, fr + i ≤ p ∧ p < bs.length ∧ bs.getD p 0 = 2) →
  ∃ x : Nat, slices_Index_int_int.l0 k (bs.drop fr) 2 ((bs.drop fr).length : Int) (i : Int) = some (x : Int) ∧ x < bs.length ∧ mustN bs n (bs.length - (fr + i)) (fr + i) = fr + x + 1
 | 0, k, i, hd, hi, hk, hp => by
  obtain ⟨p, h1, h2, _⟩ := hp
  omega
 | d + 1, k, i, hd, hi, hk, hp => by
  obtain ⟨k, rfl⟩ : ∃ m, k = m + 1 := ⟨k - 1, by omega⟩
  have hlt : fr + i < bs.length := by omega
  have e : rd (bs.drop fr) (i : Int) = bs.getD (fr + i) 0 := by rw [rd_nat]; simp [List.getD_eq_getElem?_getD]
  have hl : (bs.drop fr).length = bs.length - fr := by simp
  rw [slices_Index_int_int.l0, if_pos (by omega), if_pos (by omega), if_pos (by omega), e, show bs.length - (fr + i) = (bs.length - (fr + (i + 1))) + 1 by omega, mustN]
  by_cases h : bs.getD (fr + i) 0 = 2
  ·
   rw [if_pos h.symm, if_pos h]
   exact ⟨i, rfl, by omega, rfl⟩
  ·
   rw [if_neg (fun x => h x.symm), if_neg h, w64 (by omega) (by omega), show ((i : Int) + 1) = ((i + 1 : Nat) : Int) by omega]
   obtain ⟨p, h1, h2, h3⟩ := hp
   exact idx_l bs fr n hb d k (i + 1) (by omega) (by omega) (by omega) ⟨p, by (by_cases q : p = fr + i; (subst q; exact absurd h3 h); omega), h2, h3⟩
theorem idx_p {bs : List Int} {fr n k : Nat} (hb : bs.length ≤ 1000) (hk : bs.length < k) (hp : ∃ p, fr ≤ p ∧ p < bs.length ∧ bs.getD p 0 = 2) : ∃ x : Nat, slices_Index_int_int.f k (bs.drop fr) 2 = some (x : Int) ∧ x < bs.length ∧ mustV bs n fr = fr + x + 1 := by
 obtain ⟨p, h1, h2, h3⟩ := hp
 exact idx_l bs fr n hb _ k 0 rfl (by omega) (by omega) ⟨p, by omega, h2, h3⟩
theorem bs_last {rs : List Int} (h : 0 < rs.length) : (bsV rs).getD (rs.length - 1) 0 = 2 := by
 rw [bsV_get (by omega), brV, if_pos (by omega)]
def fillV (rs : List Int) (sp : List Sp) (wide : Int) : Bool := okV rs && (spansV sp (rs.length : Int) && decide (0 ≤ wide ∧ wide ≤ 20000))
theorem allS_p {rs : List Int} {sp : List Sp} {wide : Int} {k : Nat} (hn : rs.length ≤ 1099511627776) (hs : sp.length ≤ 1099511627776) (hk : rs.length < k) (hk2 : sp.length < k) : spec_l7All.f k rs sp wide = some (fillV rs sp wide) := by
 unfold spec_l7All.f fillV
 rw [ok_p hn hk, Option.bind_some]
 cases ho : okV rs
 · rw [if_neg (by decide), Bool.false_and]
 ·
  have := ok_len ho
  rw [if_pos rfl, spansS_p hs (by omega) (by omega) hk2, Option.bind_some, Bool.true_and]
  cases spansV sp (rs.length : Int)
  · rw [if_neg (by decide), Bool.false_and]
  · rw [if_pos rfl, l1In_f, Option.bind_some, Bool.true_and]
theorem allI_p {rs : List Int} {sp : List Sp} {wide : Int} {k : Nat} (hs : sp.length ≤ 1099511627776) (hk2 : sp.length < k) : impl_fillable.f k rs sp wide = some (fillV rs sp wide) := by
 unfold impl_fillable.f fillV
 rw [show impl_lettersOk.f rs = some (okV rs) from rfl, Option.bind_some]
 cases ho : okV rs
 · rw [if_neg (by decide), Bool.false_and]
 ·
  rw [if_pos rfl, spansI_p hs hk2, Option.bind_some, Bool.true_and]
  cases spansV sp (rs.length : Int)
  · rw [if_neg (by decide), Bool.false_and]
  ·
   rw [if_pos rfl, Bool.true_and]
   unfold impl_isWide.f
   by_cases h0 : wide ≥ 0
   ·
    rw [if_pos h0, Option.bind_some]
    congr 1
    rw [decide_eq_decide]
    omega
   · rw [if_neg h0, Option.bind_some, decide_eq_false (by omega)]
theorem fill_ok {rs : List Int} {sp : List Sp} {wide : Int} (h : fillV rs sp wide = true) : rs.length ≤ 80 ∧ SpB sp ∧ sp.length ≤ 12 ∧ okV rs = true := by
 unfold fillV at h
 rw [Bool.and_eq_true, Bool.and_eq_true] at h
 refine ⟨ok_len h.1, spB_of h.2.1, ?_, h.1⟩
 have := h.2.1
 unfold spansV at this
 rw [Bool.and_eq_true, Bool.and_eq_true, decide_eq_true_eq] at this
 exact this.2.1
end Go.Proofs.YtmcdcogedcbndaaGreat.Pure
/- The best lines by both texts: one table for the other. -/
namespace Go.Proofs.YtmcdcogedcbndaaGreat.Pure
open Go.RowKit Go.Proofs.YtmcdcogedcbndaaGreat.S Go.Proofs.YtmcdcogedcbndaaGreatW.PrintWords Go.Proofs.YtmcdcogedcbndaaGreatW.PrintLast
def RB (n a : Nat) (b p : Int × Int) : Prop := p.1 = b.1 ∧ p.2 = (if b.2 < 0 then 0 else b.2) ∧ b.2 ≠ 0 ∧ 0 ≤ b.1 ∧ b.1 ≤ ((n - a : Nat) : Int) * 100000000000 ∧ (b.2 < 0 ∨ ((a : Int) < b.2 ∧ b.2 ≤ (n : Int)))
def HEq (n : Nat) (T P : Nat → Int × Int) (e : Nat) : Prop := (P e).1 = (T e).1 ∧ ((P e).2 = 0 ↔ (e < n ∧ (T e).2 < 0)) ∧ 0 ≤ (T e).1 ∧ (T e).1 ≤ ((n - e : Nat) : Int) * 100000000000
theorem step_rel (bs : List Int) (F : Nat → Nat → Bool) (C : Nat → Nat → Int) (n : Nat) (T P : Nat → Int × Int) (a e : Nat) (cur cup : Int × Int) (hae : a < e) (hen : e ≤ n) (hC : 0 ≤ C a e ∧ C a e ≤ 100000000000) (h : HEq n T P e) (hr : RB n a cur cup) : RB n a (stepB bs F C n T a e cur) (stepP bs F C P a e cup) := by
 obtain ⟨h1, h2, h3, h4⟩ := h
 unfold stepB stepP
 by_cases hs : bs.getD (e - 1) 0 = 0 ∨ F a e = false ∨ (e < n ∧ (T e).2 < 0)
 ·
  have hs2 : bs.getD (e - 1) 0 = 0 ∨ F a e = false ∨ (P e).2 = 0 := hs.imp_right (Or.imp_right h2.mpr)
  rw [if_pos hs, if_pos hs2]
  exact hr
 ·
  have hs2 : ¬ (bs.getD (e - 1) 0 = 0 ∨ F a e = false ∨ (P e).2 = 0) := fun h => hs (h.imp_right (Or.imp_right h2.mp))
  rw [if_neg hs, if_neg hs2]
  obtain ⟨r1, r2, r3, r4, r5, r6⟩ := hr
  have hz : cup.2 = 0 ↔ cur.2 < 0 := by
   rw [r2]
   split <;> omega
  by_cases hc : cur.2 < 0 ∨ C a e + (T e).1 < cur.1
  ·
   have hc2 : cup.2 = 0 ∨ (P e).1 + C a e < cup.1 := hc.imp hz.mpr (fun h => by rw [h1, r1]; omega)
   rw [if_pos hc, if_pos hc2]
   have e1 : ¬ (e : Int) < 0 := by omega
   refine ⟨by show (P e).1 + C a e = C a e + (T e).1; omega, by show (e : Int) = if (e : Int) < 0 then 0 else (e : Int); rw [if_neg e1], by show (e : Int) ≠ 0; omega, by show 0 ≤ C a e + (T e).1; omega, by show C a e + (T e).1 ≤ _; omega, .inr ⟨by show (a : Int) < (e : Int); omega, by show (e : Int) ≤ (n : Int); omega⟩⟩
  ·
   have hc2 : ¬ (cup.2 = 0 ∨ (P e).1 + C a e < cup.1) := fun h => hc (h.imp hz.mp (fun h => by rw [h1, r1] at h; omega))
   rw [if_neg hc, if_neg hc2]
   exact ⟨r1, r2, r3, r4, r5, r6⟩
theorem row_rel (bs : List Int) (F : Nat → Nat → Bool) (C : Nat → Nat → Int) (n : Nat) (T P : Nat → Int × Int) (a : Nat) (hC : ∀ e, a < e → e ≤ n → 0 ≤ C a e ∧ C a e ≤ 100000000000) : ∀ (g e : Nat) (cur cup : Int × Int), a < e → e + g ≤ n + 1 → (∀ j, e ≤ j → j < e + g → HEq n T P j) → RB n a cur cup → RB n a (rowB bs F C n T a g e cur) (rowP bs F C P a g e cup)
 | 0, _, _, _, _, _, _, hr => hr
 | g + 1, e, cur, cup, hae, hen, h, hr => by
  rw [rowB, rowP]
  exact row_rel bs F C n T P a hC g (e + 1) _ _ (by omega) (by omega) (fun j h1 h2 => h j (by omega) (by omega)) (step_rel bs F C n T P a e cur cup hae (by omega) (hC e hae (by omega)) (h e (Nat.le_refl _) (by omega)) hr)
theorem tabB_hi (bs : List Int) (F : Nat → Nat → Bool) (C : Nat → Nat → Int) (n : Nat) : ∀ d, d ≤ n → tabB bs F C n d n = (0, 0)
 | 0, _ => rfl
 | d + 1, h => by
  rw [tabB, updV_ne _ _ (by omega)]
  exact tabB_hi bs F C n d (by omega)
theorem tabP_hi (bs : List Int) (F : Nat → Nat → Bool) (C : Nat → Nat → Int) (M : Nat → Nat) (n : Nat) : ∀ d, d ≤ n → tabP bs F C M n d n = (0, (n : Int))
 | 0, _ => rfl
 | d + 1, h => by
  rw [tabP, updV_ne _ _ (by omega)]
  exact tabP_hi bs F C M n d (by omega)
theorem tab_rel (bs : List Int) (F : Nat → Nat → Bool) (C : Nat → Nat → Int) (M : Nat → Nat) (n : Nat) (hM : ∀ i, i < n → M i = mustV bs n i ∧ i < M i ∧ M i ≤ n) (hC : ∀ a e, a < e → e ≤ n → 0 ≤ C a e ∧ C a e ≤ 100000000000) : ∀ d, d ≤ n → ∀ j, n - d ≤ j → j < n → RB n j (tabB bs F C n d j) (tabP bs F C M n d j)
 | 0, _, j, h1, h2 => by omega
 | d + 1, h, j, h1, h2 => by
  have ih := tab_rel bs F C M n hM hC d (by omega)
  rw [tabB, tabP]
  by_cases hj : j = n - 1 - d
  ·
   rw [hj, updV_at, updV_at]
   obtain ⟨a, ha⟩ : ∃ a, n - 1 - d = a := ⟨_, rfl⟩
   rw [ha]
   obtain ⟨m1, m2, m3⟩ := hM a (by omega)
   rw [← m1]
   refine row_rel bs F C n _ _ a (fun e h1 h2 => hC a e h1 h2) (M a - a) (a + 1) _ _ (by omega) (by omega) (fun i hi1 hi2 => ?_) ⟨rfl, rfl, by decide, Int.le_refl _, by show (0 : Int) ≤ _; omega, .inl (by decide)⟩
   by_cases hin : i < n
   ·
    obtain ⟨r1, r2, r3, r4, r5, r6⟩ := ih i (by omega) hin
    refine ⟨r1, ?_, r4, r5⟩
    rw [r2]
    constructor
    ·
     intro q
     refine ⟨hin, ?_⟩
     split at q
     · assumption
     · exact absurd q r3
    ·
     intro q
     rw [if_pos q.2]
   ·
    obtain rfl : i = n := by omega
    rw [HEq, tabB_hi bs F C i d (by omega), tabP_hi bs F C M i d (by omega)]
    refine ⟨rfl, ⟨fun q => ?_, fun q => ?_⟩, Int.le_refl _, by show (0 : Int) ≤ _; omega⟩
    ·
     have q2 : (i : Int) = 0 := q
     omega
    · omega
  ·
   rw [updV_ne _ _ hj, updV_ne _ _ hj]
   exact ih j (by omega) h2
theorem out_rel (n : Nat) (T P : Nat → Int × Int) (h : ∀ j, j < n → RB n j (T j) (P j)) : ∀ (g a : Nat), n - a ≤ g → outP P n g a = outB T n g a ∧ (outB T n g a).isSome = true
 | 0, a, hg => by
  rw [outP, outB, if_neg (show ¬ a < n by omega)]
  exact ⟨rfl, rfl⟩
 | g + 1, a, hg => by
  rw [outP, outB]
  by_cases hlt : a < n
  ·
   rw [if_pos hlt, if_pos hlt]
   obtain ⟨r1, r2, r3, r4, r5, r6⟩ := h a hlt
   by_cases hb : (T a).2 < 0
   ·
    rw [if_pos hb] at r2
    rw [if_pos r2, if_pos hb]
    exact ⟨rfl, rfl⟩
   ·
    rw [if_neg hb] at r2
    have r7 := r6.resolve_left hb
    have hc : 0 ≤ (T a).2 ∧ (T a).2 ≤ (n : Int) := ⟨by omega, r7.2⟩
    rw [r2, if_neg r3, if_neg hb, if_pos hc, if_pos r7.2]
    obtain ⟨i1, i2⟩ := out_rel n T P h g (T a).2.toNat (by omega)
    rw [i1]
    obtain ⟨x, hx⟩ := Option.isSome_iff_exists.mp i2
    rw [hx]
    exact ⟨rfl, rfl⟩
  ·
   rw [if_neg hlt, if_neg hlt]
   exact ⟨rfl, rfl⟩
theorem greedy_rel (n : Nat) (N N' : Nat → Int) (h : ∀ j, j < n → N j = N' j ∧ (j : Int) < N' j ∧ N' j ≤ (n : Int)) : ∀ (g a : Nat), n - a ≤ g → greedyN N n g a = greedyN N' n g a ∧ (greedyN N' n g a).isSome = true
 | 0, a, hg => by
  rw [greedyN, greedyN, if_neg (show ¬ a < n by omega)]
  exact ⟨rfl, rfl⟩
 | g + 1, a, hg => by
  rw [greedyN, greedyN]
  by_cases hlt : a < n
  ·
   obtain ⟨h1, h2, h3⟩ := h a hlt
   have hc : 0 ≤ N' a ∧ N' a ≤ (n : Int) := ⟨by omega, h3⟩
   rw [if_pos hlt, if_pos hlt, h1, if_pos hc, if_pos hc]
   obtain ⟨i1, i2⟩ := greedy_rel n N N' h g (N' a).toNat (by omega)
   rw [i1]
   obtain ⟨x, hx⟩ := Option.isSome_iff_exists.mp i2
   rw [hx]
   exact ⟨rfl, rfl⟩
  ·
   rw [if_neg hlt, if_neg hlt]
   exact ⟨rfl, rfl⟩
theorem greedyN_len (N : Nat → Int) (n : Nat) : ∀ (g a : Nat) (l : List Int), greedyN N n g a = some l → l.length ≤ g
 | 0, a, l, h => by
  rw [greedyN] at h
  split at h
  · cases h
  · cases h; exact Nat.le_refl _
 | g + 1, a, l, h => by
  rw [greedyN] at h
  split at h
  ·
   split at h
   ·
    obtain ⟨l2, h2, h3⟩ := Option.bind_eq_some_iff.mp h
    cases h3
    have := greedyN_len N n g _ _ h2
    rw [List.length_cons]
    omega
   · cases h
  · cases h; exact Nat.zero_le _
theorem outB_len (T : Nat → Int × Int) (n : Nat) : ∀ (g a : Nat) (l : List Int), outB T n g a = some (some l) → l.length ≤ g
 | 0, a, l, h => by
  rw [outB] at h
  split at h
  · cases h
  · cases h; exact Nat.le_refl _
 | g + 1, a, l, h => by
  rw [outB] at h
  split at h
  ·
   split at h
   · cases h
   ·
    split at h
    ·
     obtain ⟨o, h2, h3⟩ := Option.bind_eq_some_iff.mp h
     cases o with
     | none => cases h3
     | some l2 =>
      cases h3
      have := outB_len T n g _ _ h2
      rw [List.length_cons]
      omega
    · cases h
  · cases h; exact Nat.zero_le _
def Ch (M : Nat → Nat) (n : Nat) : Nat → List Int → Prop
 | a, [] => ¬ a < n
 | a, e :: l => a < n ∧ (a : Int) < e ∧ e ≤ (M a : Int) ∧ Ch M n e.toNat l
theorem greedy_ch (M : Nat → Nat) (n : Nat) (N : Nat → Int) (h : ∀ j, j < n → (j : Int) < N j ∧ N j ≤ (M j : Int)) : ∀ (g a : Nat) (l : List Int), greedyN N n g a = some l → Ch M n a l
 | 0, a, l, hl => by
  rw [greedyN] at hl
  split at hl
  · cases hl
  · cases hl; assumption
 | g + 1, a, l, hl => by
  rw [greedyN] at hl
  split at hl
  ·
   rename_i ha
   split at hl
   ·
    obtain ⟨l2, h2, h3⟩ := Option.bind_eq_some_iff.mp hl
    cases h3
    exact ⟨ha, (h a ha).1, (h a ha).2, greedy_ch M n N h g _ _ h2⟩
   · cases hl
  · cases hl; assumption
theorem out_ch (M : Nat → Nat) (n : Nat) (T : Nat → Int × Int) (h : ∀ j, j < n → (T j).2 < 0 ∨ ((j : Int) < (T j).2 ∧ (T j).2 ≤ (M j : Int))) : ∀ (g a : Nat) (l : List Int), outB T n g a = some (some l) → Ch M n a l
 | 0, a, l, hl => by
  rw [outB] at hl
  split at hl
  · cases hl
  · cases hl; assumption
 | g + 1, a, l, hl => by
  rw [outB] at hl
  split at hl
  ·
   rename_i ha
   split at hl
   · cases hl
   ·
    rename_i hb
    split at hl
    ·
     obtain ⟨o, h2, h3⟩ := Option.bind_eq_some_iff.mp hl
     cases o with
     | none => cases h3
     | some l2 =>
      cases h3
      have := (h a ha).resolve_left hb
      exact ⟨ha, this.1, this.2, out_ch M n T h g _ _ h2⟩
    · cases hl
  · cases hl; assumption
theorem rowB_le (bs : List Int) (F : Nat → Nat → Bool) (C : Nat → Nat → Int) (n : Nat) (T : Nat → Int × Int) (a : Nat) (m : Int) : ∀ (g e : Nat) (cur : Int × Int), ((e + g : Nat) : Int) ≤ m + 1 → cur.2 ≤ m → (rowB bs F C n T a g e cur).2 ≤ m
 | 0, _, _, _, h => h
 | g + 1, e, cur, h1, h => by
  rw [rowB]
  refine rowB_le bs F C n T a m g (e + 1) _ (by omega) ?_
  unfold stepB
  split
  · exact h
  ·
   split
   ·
    show (e : Int) ≤ m
    omega
   · exact h
theorem tabB_le (bs : List Int) (F : Nat → Nat → Bool) (C : Nat → Nat → Int) (n : Nat) (hm : ∀ i, i < n → i < mustV bs n i) : ∀ d, d ≤ n → ∀ j, n - d ≤ j → j < n → (tabB bs F C n d j).2 ≤ (mustV bs n j : Int)
 | 0, _, j, h1, h2 => by omega
 | d + 1, h, j, h1, h2 => by
  rw [tabB]
  by_cases hj : j = n - 1 - d
  ·
   subst hj
   rw [updV_at]
   have := hm (n - 1 - d) (by omega)
   exact rowB_le bs F C n _ _ _ _ _ _ (by omega) (by show (-1 : Int) ≤ _; omega)
  ·
   rw [updV_ne _ _ hj]
   exact tabB_le bs F C n hm d (by omega) j (by omega) h2
theorem next_le (bs : List Int) (F : Nat → Nat → Bool) (J : Nat → Bool) (n fr : Nat) (hm : fr < mustV bs n fr) : nextV bs F J n fr ≤ (mustV bs n fr : Int) := by
 unfold nextV
 rw [next_down]
 cases hd : downN bs F fr (mustV bs n fr - fr) with
 | some t =>
  have := down_pos bs F fr _ t hd
  dsimp only
  split
  · omega
  · split <;> omega
 | none =>
  dsimp only
  split
  · omega
  · split <;> omega
theorem sumW_eq : ∀ (l : List Int) (a : Int), (∀ x ∈ l, 0 ≤ x ∧ x ≤ 1600) → 0 ≤ a → a + 1600 * (l.length : Int) ≤ 1000000000 → sumW l a = a + l.sum
 | [], a, _, _, _ => by simp [sumW]
 | x :: r, a, h, h0, h1 => by
  have hx := h x List.mem_cons_self
  rw [List.length_cons] at h1
  rw [sumW, w64 (by omega) (by omega), sumW_eq r (a + x) (fun y hy => h y (List.mem_cons_of_mem _ hy)) (by omega) (by omega), List.sum_cons]
  omega
theorem sum_le (l : List Int) : (∀ x ∈ l, (0 : Int) ≤ x ∧ x ≤ 1600) → 0 ≤ l.sum ∧ l.sum ≤ 1600 * (l.length : Int) := by
 induction l with
 | nil => intro _; simp
 | cons x r ih =>
  intro h
  have hx := h x List.mem_cons_self
  have := ih (fun y hy => h y (List.mem_cons_of_mem _ hy))
  rw [List.sum_cons, List.length_cons]
  omega
theorem bod_mono (rs : List Int) (fr : Nat) : ∀ (d t : Nat), fr ≤ t → bodV rs fr t ≤ bodV rs fr (t + d)
 | 0, t, _ => Nat.le_refl _
 | d + 1, t, h => by
  refine Nat.le_trans (bod_mono rs fr d t h) ?_
  show bodV rs fr (t + d) ≤ bodV rs fr (t + d + 1)
  have := bodV_le rs fr (t + d) (by omega)
  rw [bodV.eq_2]
  rw [if_pos (by omega)]
  split <;> omega
theorem take_mono (ws : List Int) (fr : Nat) (h : ∀ x ∈ ws, (0 : Int) ≤ x ∧ x ≤ 1600) : ∀ (d b : Nat), fr ≤ b → ((ws.take b).drop fr).sum ≤ ((ws.take (b + d)).drop fr).sum
 | 0, b, _ => Int.le_refl _
 | d + 1, b, hb => by
  refine Int.le_trans (take_mono ws fr h d b hb) ?_
  rw [show b + (d + 1) = (b + d) + 1 from rfl]
  by_cases hl : b + d < ws.length
  ·
   rw [List.take_add_one, List.getElem?_eq_getElem hl, List.drop_append_of_le_length (by rw [List.length_take]; omega), List.sum_append]
   have := h ws[b + d] (List.getElem_mem hl)
   simp
   omega
  ·
   rw [List.take_of_length_le (by omega), List.take_of_length_le (by omega)]
   exact Int.le_refl _
end Go.Proofs.YtmcdcogedcbndaaGreat.Pure
/- FillLines by the program. -/
namespace Go.Proofs.YtmcdcogedcbndaaGreat.Pure
open Go.RowKit Go.Proofs.YtmcdcogedcbndaaGreat.S Go.Proofs.YtmcdcogedcbndaaGreatW.PrintWords Go.Proofs.YtmcdcogedcbndaaGreatW.PrintLast
def WV (rs ws : List Int) : Nat → Nat → Int := fun i j => if i ≤ j ∧ j ≤ rs.length then lwV rs ws i j else 0
def JV (rs : List Int) : Nat → Bool := fun i => if 0 < i ∧ i < rs.length then jV rs i else false
def MV (bs : List Int) : Nat → Nat := fun i => if i < bs.length then mustV bs bs.length i else 0
theorem ws_small {rs : List Int} {sp : List Sp} (h : SpB sp) : ∀ x ∈ wsV rs sp, 0 ≤ x ∧ x ≤ 1600 := by
 intro x hx
 unfold wsV at hx
 obtain ⟨i, _, rfl⟩ := List.mem_map.mp hx
 exact wdV_le h rs i
theorem lw_sum {rs ws : List Int} (hw : ∀ x ∈ ws, 0 ≤ x ∧ x ≤ 1600) (hl : ws.length = rs.length) (hn : rs.length ≤ 80) {i j : Nat} (hij : i ≤ j) (hj : j ≤ rs.length) : lwV rs ws i j = ((ws.take (bodV rs i j)).drop i).sum ∧ 0 ≤ lwV rs ws i j ∧ lwV rs ws i j ≤ 128000 := by
 have hm : ∀ x ∈ (ws.take (bodV rs i j)).drop i, 0 ≤ x ∧ x ≤ 1600 := fun x hx => hw x (List.mem_of_mem_take (List.mem_of_mem_drop hx))
 have hb := bodV_le rs i j hij
 have hle : ((ws.take (bodV rs i j)).drop i).length ≤ 80 := by
  rw [List.length_drop, List.length_take]
  omega
 have e : lwV rs ws i j = ((ws.take (bodV rs i j)).drop i).sum := by
  unfold lwV
  rw [sumW_eq _ 0 hm (Int.le_refl _) (by omega), Int.zero_add]
 have := sum_le _ hm
 rw [e]
 exact ⟨rfl, this.1, by omega⟩
theorem lw_mono {rs ws : List Int} (hw : ∀ x ∈ ws, 0 ≤ x ∧ x ≤ 1600) (hl : ws.length = rs.length) (hn : rs.length ≤ 80) {i j t : Nat} (hij : i ≤ j) (hjt : j ≤ t) (ht : t ≤ rs.length) : lwV rs ws i j ≤ lwV rs ws i t := by
 rw [(lw_sum hw hl hn hij (by omega)).1, (lw_sum hw hl hn (Nat.le_trans hij hjt) ht).1]
 have h1 := bod_mono rs i (t - j) j hij
 rw [show j + (t - j) = t by omega] at h1
 have h2 := take_mono ws i hw (bodV rs i t - bodV rs i j) (bodV rs i j) (bodV_le rs i j hij).1
 rwa [show bodV rs i j + (bodV rs i t - bodV rs i j) = bodV rs i t by omega] at h2
theorem WV_is (rs ws : List Int) {i j : Nat} (h1 : i ≤ j) (h2 : j ≤ rs.length) : WV rs ws i j = lwV rs ws i j := if_pos ⟨h1, h2⟩
theorem fit_mono {rs ws : List Int} {wide : Int} (hw : ∀ x ∈ ws, 0 ≤ x ∧ x ≤ 1600) (hl : ws.length = rs.length) (hn : rs.length ≤ 80) (fr i j : Nat) (h1 : fr < i) (h2 : i ≤ j) (h3 : j ≤ rs.length) (h : fitV (WV rs ws) wide fr j = true) : fitV (WV rs ws) wide fr i = true := by
 unfold fitV at h ⊢
 rw [decide_eq_true_eq, WV_is rs ws (by omega) (by omega)] at h ⊢
 exact Int.le_trans (lw_mono hw hl hn (by omega) h2 h3) h
theorem wide_near {rs ws : List Int} {wide : Int} (hw : ∀ x ∈ ws, 0 ≤ x ∧ x ≤ 1600) (hl : ws.length = rs.length) (hn : rs.length ≤ 80) (h0 : 0 ≤ wide ∧ wide ≤ 20000) {i j : Nat} (h1 : i ≤ j) (h2 : j ≤ rs.length) : (wide - WV rs ws i j).natAbs ≤ 148000 := by
 rw [WV_is rs ws h1 h2]
 have := lw_sum hw hl hn h1 h2
 omega
theorem cost_near {rs ws bs : List Int} {wide : Int} (hw : ∀ x ∈ ws, 0 ≤ x ∧ x ≤ 1600) (hl : ws.length = rs.length) (hn : rs.length ≤ 80) (h0 : 0 ≤ wide ∧ wide ≤ 20000) {i j : Nat} (h1 : i ≤ j) (h2 : j ≤ rs.length) : 0 ≤ costV bs (WV rs ws) wide i j ∧ costV bs (WV rs ws) wide i j ≤ 100000000000 := by
 have h := wide_near hw hl hn h0 h1 h2
 unfold costV
 split
 · omega
 ·
  obtain ⟨d, hd⟩ : ∃ d, wide - WV rs ws i j = d := ⟨_, rfl⟩
  rw [hd] at h ⊢
  have e := Int.natAbs_mul_self (a := d)
  have h3 := Nat.mul_le_mul h h
  omega
theorem must_ok {rs : List Int} {i : Nat} (hi : i < rs.length) : i < mustV (bsV rs) rs.length i ∧ mustV (bsV rs) rs.length i ≤ rs.length ∧ (bsV rs).getD (mustV (bsV rs) rs.length i - 1) 0 = 2 := by
 have h := must_is (bsV rs) rs.length ((bsV rs).length - i) i ⟨rs.length - 1, by omega, by rw [bsV_len]; omega, bs_last (by omega)⟩
 rw [bsV_len, show i + (rs.length - i) = rs.length by omega] at h
 unfold mustV
 rw [bsV_len]
 exact h
theorem MV_is {rs : List Int} {i : Nat} (hi : i < rs.length) : MV (bsV rs) i = mustV (bsV rs) rs.length i := by
 unfold MV
 rw [bsV_len, if_pos hi]
def eB (rs : List Int) (i : Nat) : Bool := decide (i = rs.length) || !jAt rs i
theorem ends_is (rs : List Int) : endsL (eB rs) rs.length = stsV rs ++ [(rs.length : Int)] := by
 unfold endsL stsV
 rw [List.range_succ, List.filter_append, List.map_append]
 congr 1
 ·
  congr 1
  refine List.filter_congr (fun x hx => ?_)
  have := List.mem_range.mp hx
  unfold eB
  rw [decide_eq_false (show ¬ x = rs.length by omega), Bool.false_or]
 ·
  rw [List.filter_cons_of_pos (by unfold eB; rw [decide_eq_true rfl, Bool.true_or])]
  rfl
theorem next_eq {rs ws : List Int} {wide : Int} (hw : ∀ x ∈ ws, 0 ≤ x ∧ x ≤ 1600) (hl : ws.length = rs.length) (hn : rs.length ≤ 80) {i : Nat} (hi : i < rs.length) :
  nextI (bsV rs) (fitV (WV rs ws) wide) (stsV rs ++ [(rs.length : Int)]) i (mustV (bsV rs) rs.length i) = some (nextV (bsV rs) (fitV (WV rs ws) wide) (JV rs) rs.length i) ∧ (i : Int) < nextV (bsV rs) (fitV (WV rs ws) wide) (JV rs) rs.length i ∧ nextV (bsV rs) (fitV (WV rs ws) wide) (JV rs) rs.length i ≤ (rs.length : Int) := by
 obtain ⟨m1, m2, m3⟩ := must_ok hi
 rw [← ends_is]
 refine next_is (bsV rs) (fitV (WV rs ws) wide) (JV rs) (eB rs) rs.length i hi (fun j h1 h2 => ?_) (fun a b h1 h2 h3 h4 => fit_mono hw hl hn i a b h1 h2 h3 h4) m1 m2 (by rw [m3]; decide) ?_
 ·
  unfold eB JV jAt
  by_cases hj : j = rs.length
  ·
   rw [decide_eq_true hj, Bool.true_or]
   exact ⟨fun _ h => (by omega), fun _ => rfl⟩
  ·
   rw [decide_eq_false hj, Bool.false_or, if_neg (by omega), if_pos ⟨by omega, by omega⟩]
   cases jV rs j
   · exact ⟨fun _ h => (by cases h.2), fun _ => rfl⟩
   · exact ⟨fun h => (by cases h), fun h => absurd ⟨by omega, rfl⟩ h⟩
 ·
  unfold eB
  by_cases hm : mustV (bsV rs) rs.length i = rs.length
  · rw [decide_eq_true hm, Bool.true_or]
  ·
   rw [bsV_get (by omega), brV] at m3
   rw [if_neg (by omega), show mustV (bsV rs) rs.length i - 1 + 1 = mustV (bsV rs) rs.length i by omega] at m3
   cases hjv : jV rs (mustV (bsV rs) rs.length i)
   ·
    unfold jAt
    rw [if_neg (by omega), hjv]
    simp
   ·
    rw [hjv, if_pos rfl] at m3
    cases m3
theorem tabs_i {rs ws : List Int} {k : Nat} (hn : rs.length ≤ 80) (hl : ws.length = rs.length) (hk : 2000 ≤ k) : okWI k rs ws ∧ tabWI k rs ws = WV rs ws ∧ okMI k (bsV rs) ∧ tabMI k (bsV rs) = MV (bsV rs) := by
 have e : ∀ i j : Nat, i ≤ j → j ≤ rs.length → impl_lineWide.f k rs ws (i : Int) (j : Int) = some (lwV rs ws i j) := fun i j h1 h2 => lineI_p (by omega) hl h1 h2 (by omega)
 have e2 : ∀ i : Nat, i < rs.length → ∃ x : Nat, slices_Index_int_int.f k ((bsV rs).drop i) 2 = some (x : Int) ∧ mustV (bsV rs) rs.length i = i + x + 1 := fun i h2 => by
  obtain ⟨x, h3, _, h4⟩ := idx_p (bs := bsV rs) (fr := i) (n := rs.length) (k := k) (by rw [bsV_len]; omega) (by rw [bsV_len]; omega) ⟨rs.length - 1, by omega, by rw [bsV_len]; omega, bs_last (by omega)⟩
  exact ⟨x, h3, h4⟩
 have e3 : tabMI k (bsV rs) = MV (bsV rs) := by
  funext i
  unfold tabMI MV
  split
  ·
   rename_i h
   rw [bsV_len] at h
   obtain ⟨x, h3, h4⟩ := e2 i h
   rw [h3, bsV_len, h4]
   simp only [Option.getD_some]
   omega
  · rfl
 refine ⟨fun j hj i hi => by rw [e i j hi hj]; rfl, ?_, fun i hi => ?_, e3⟩
 ·
  funext i j
  unfold tabWI WV
  split
  ·
   rename_i h
   rw [e i j h.1 h.2]
   rfl
  · rfl
 ·
  rw [bsV_len] at hi
  obtain ⟨x, h3, h4⟩ := e2 i hi
  rw [e3, MV_is hi, h3, bsV_len]
  exact ⟨rfl, by simp only [Option.getD_some]; omega, (must_ok hi).2.1⟩
theorem ch_ends (M : Nat → Nat) (n : Nat) (hM : ∀ i, i < n → M i ≤ n) : ∀ (l : List Int) (a : Nat), a ≤ n → Ch M n a l → endsV l (a : Int) (n : Int) = true
 | [], a, ha, h => by
  rw [endsV]
  have h2 : ¬ a < n := h
  exact beq_iff_eq.mpr (by omega)
 | e :: l, a, ha, ⟨h0, h3, h4, h5⟩ => by
  have := hM a h0
  rw [endsV, if_neg (by omega)]
  have ih := ch_ends M n hM l e.toNat (by omega) h5
  rwa [show ((e.toNat : Nat) : Int) = e by omega] at ih
def LineR (rs : List Int) (sp : List Sp) (wide mode : Int) (r : List Int) : Prop :=
 (0 ≤ mode ∧ mode ≤ 1) ∧ ((greedyN (nextV (bsV rs) (fitV (WV rs (wsV rs sp)) wide) (JV rs) rs.length) rs.length rs.length 0 = some r ∧ (mode = 0 ∨ outB (tabB (bsV rs) (fitV (WV rs (wsV rs sp)) wide) (costV (bsV rs) (WV rs (wsV rs sp)) wide) rs.length rs.length) rs.length rs.length 0 = some none)) ∨ (mode = 1 ∧ outB (tabB (bsV rs) (fitV (WV rs (wsV rs sp)) wide) (costV (bsV rs) (WV rs (wsV rs sp)) wide) rs.length rs.length) rs.length rs.length 0 = some (some r)))
theorem core {rs ws : List Int} {wide : Int} (h1 : rs.length ≤ 80) (hl : ws.length = rs.length) (hw : ∀ x ∈ ws, 0 ≤ x ∧ x ≤ 1600) (h0 : 0 ≤ wide ∧ wide ≤ 20000) : okI (bsV rs) (WV rs ws) (MV (bsV rs)) (stsV rs) wide rs.length ∧ okB (bsV rs) (WV rs ws) wide rs.length ∧ ∃ gr ob, greedyN (fun i => (nextI (bsV rs) (fitV (WV rs ws) wide) (stsV rs ++ [(rs.length : Int)]) i (MV (bsV rs) i)).getD 0) rs.length rs.length 0 = some gr ∧ greedyN (nextV (bsV rs) (fitV (WV rs ws) wide) (JV rs) rs.length) rs.length rs.length 0 = some gr ∧ outP (tabP (bsV rs) (fitV (WV rs ws) wide) (costV (bsV rs) (WV rs ws) wide) (MV (bsV rs)) rs.length rs.length) rs.length rs.length 0 = some ob ∧ outB (tabB (bsV rs) (fitV (WV rs ws) wide) (costV (bsV rs) (WV rs ws) wide) rs.length rs.length) rs.length rs.length 0 = some ob ∧ (gr.length ≤ 1000 ∧ Ch (mustV (bsV rs) rs.length) rs.length 0 gr) ∧ ∀ l, ob = some l → l.length ≤ 1000 ∧ Ch (mustV (bsV rs) rs.length) rs.length 0 l := by
 have hM : ∀ i, i < rs.length → MV (bsV rs) i = mustV (bsV rs) rs.length i ∧ i < MV (bsV rs) i ∧ MV (bsV rs) i ≤ rs.length := fun i hi => by
  rw [MV_is hi]
  exact ⟨rfl, (must_ok hi).1, (must_ok hi).2.1⟩
 have hT := tab_rel (bsV rs) (fitV (WV rs ws) wide) (costV (bsV rs) (WV rs ws) wide) (MV (bsV rs)) rs.length hM (fun a e ha he => cost_near hw hl h1 h0 (by omega) he)
 have hNx : ∀ i, i < rs.length → nextI (bsV rs) (fitV (WV rs ws) wide) (stsV rs ++ [(rs.length : Int)]) i (MV (bsV rs) i) = some (nextV (bsV rs) (fitV (WV rs ws) wide) (JV rs) rs.length i) := fun i hi => by
  rw [MV_is hi]
  exact (next_eq hw hl h1 hi).1
 have hss : (stsV rs).length ≤ rs.length := by
  unfold stsV
  rw [List.length_map]
  exact Nat.le_trans (List.length_filter_le _ _) (by simp)
 have hokI : okI (bsV rs) (WV rs ws) (MV (bsV rs)) (stsV rs) wide rs.length := by
  refine ⟨by omega, bsV_len rs, by omega, fun t ht => ?_, fun j hj i hi => Nat.le_trans (wide_near hw hl h1 h0 hi hj) (by decide), fun j hj => ?_, fun i hi => by rw [hNx i hi]; rfl⟩
  ·
   unfold stsV at ht
   obtain ⟨i, hi, rfl⟩ := List.mem_map.mp ht
   have := List.mem_range.mp (List.mem_filter.mp hi).1
   have e : Int.ofNat i = (i : Int) := rfl
   omega
  ·
   by_cases hjn : j < rs.length
   ·
    obtain ⟨r1, r2, r3, r4, r5, r6⟩ := hT rs.length (Nat.le_refl _) j (by omega) hjn
    rw [r1]
    omega
   ·
    obtain rfl : j = rs.length := by omega
    rw [tabP_hi _ _ _ _ _ _ (Nat.le_refl _)]
    exact ⟨Int.le_refl _, by show (0 : Int) ≤ _; decide⟩
 have hokB : okB (bsV rs) (WV rs ws) wide rs.length := by
  refine ⟨fun j hj i hi => Nat.le_trans (wide_near hw hl h1 h0 hi hj) (by decide), fun d hd j hj => ?_⟩
  by_cases hjn : j < rs.length
  ·
   by_cases hjd : rs.length - d ≤ j
   ·
    obtain ⟨r1, r2, r3, r4, r5, r6⟩ := hT d hd j hjd hjn
    omega
   ·
    rw [tabB_lo _ _ _ _ d j (by omega)]
    exact ⟨Int.le_refl _, by show (0 : Int) ≤ _; decide⟩
  ·
   obtain rfl : j = rs.length := by omega
   rw [tabB_hi _ _ _ _ _ hd]
   exact ⟨Int.le_refl _, by show (0 : Int) ≤ _; decide⟩
 obtain ⟨g1, g2⟩ := greedy_rel rs.length (fun i => (nextI (bsV rs) (fitV (WV rs ws) wide) (stsV rs ++ [(rs.length : Int)]) i (MV (bsV rs) i)).getD 0) (nextV (bsV rs) (fitV (WV rs ws) wide) (JV rs) rs.length) (fun j hj => by rw [hNx j hj]; exact ⟨rfl, (next_eq hw hl h1 hj).2⟩) rs.length 0 (by omega)
 obtain ⟨o1, o2⟩ := out_rel rs.length _ _ (fun j hj => hT rs.length (Nat.le_refl _) j (by omega) hj) rs.length 0 (by omega)
 obtain ⟨gr, hgr⟩ := Option.isSome_iff_exists.mp g2
 obtain ⟨ob, hob⟩ := Option.isSome_iff_exists.mp o2
 refine ⟨hokI, hokB, gr, ob, g1.trans hgr, hgr, o1.trans hob, hob, ⟨Nat.le_trans (greedyN_len _ _ _ _ _ hgr) (by omega), greedy_ch (mustV (bsV rs) rs.length) rs.length _ (fun j hj => ⟨(next_eq (wide := wide) hw hl h1 hj).2.1, next_le _ _ _ _ _ (must_ok hj).1⟩) _ _ _ hgr⟩, fun l hl9 => ?_⟩
 rw [hl9] at hob
 refine ⟨Nat.le_trans (outB_len _ _ _ _ _ hob) (by omega), out_ch _ _ _ (fun j hj => ?_) _ _ _ hob⟩
 obtain ⟨_, _, _, _, _, r6⟩ := hT rs.length (Nat.le_refl _) j (by omega) hj
 exact r6.imp_right (fun h => ⟨h.1, tabB_le _ _ _ _ (fun i hi => (must_ok hi).1) _ (Nat.le_refl _) j (by omega) hj⟩)
theorem fill_wide {rs : List Int} {sp : List Sp} {wide : Int} (hf : fillV rs sp wide = true) : 0 ≤ wide ∧ wide ≤ 20000 := by
 unfold fillV at hf
 rw [Bool.and_eq_true, Bool.and_eq_true, decide_eq_true_eq] at hf
 exact hf.2.2
theorem linesImpl {rs : List Int} {sp : List Sp} {wide mode : Int} {k : Nat} (hs : sp.length ≤ 1099511627776) (hk : rs.length + sp.length + 3000 ≤ k) : ∃ r, impl_FillLines.f k rs sp wide mode = some r ∧ r.length ≤ 1000 ∧ ((r = [] ∧ ¬ (fillV rs sp wide = true ∧ 0 ≤ mode ∧ mode ≤ 1)) ∨ (fillV rs sp wide = true ∧ Ch (mustV (bsV rs) rs.length) rs.length 0 r ∧ LineR rs sp wide mode r)) := by
 unfold impl_FillLines.f
 rw [allI_p hs (by omega), Option.bind_some]
 cases hf : fillV rs sp wide
 ·
  rw [if_neg (by decide)]
  exact ⟨[], rfl, by decide, .inl ⟨rfl, fun h => by cases h.1⟩⟩
 obtain ⟨h1, h2, h3, h4⟩ := fill_ok hf
 have h0 := fill_wide hf
 have hw := ws_small (rs := rs) h2
 have hl := wsV_len rs sp
 unfold LineR
 obtain ⟨ws, hws⟩ : ∃ ws, wsV rs sp = ws := ⟨_, rfl⟩
 rw [if_pos rfl, widesI_p h1 h2 (by omega) (by omega), breaksI_p h1 (by omega), starts_p (by omega) (by omega), Option.bind_some, Option.bind_some, Option.bind_some]
 rw [hws] at hw hl ⊢
 obtain ⟨i1, i2, i3, i4⟩ := tabs_i (rs := rs) (ws := ws) (k := k) h1 hl (by omega)
 obtain ⟨hokI, _, gr, ob, g1, g2, o1, o2, ⟨lg, cg⟩, hob⟩ := core (rs := rs) h1 hl hw h0
 rw [if_pos i1, if_pos i3, i2, i4]
 unfold linesI
 rw [if_pos hokI, g1, o1, g2, o2]
 by_cases m0 : mode = 0
 ·
  rw [if_pos m0]
  exact ⟨gr, rfl, lg, .inr ⟨rfl, cg, by omega, .inl ⟨rfl, .inl m0⟩⟩⟩
 ·
  by_cases m1 : mode = 1
  ·
   rw [if_neg m0, if_pos m1]
   cases ob with
   | none => exact ⟨gr, rfl, lg, .inr ⟨rfl, cg, by omega, .inl ⟨rfl, .inr rfl⟩⟩⟩
   | some l => exact ⟨l, rfl, (hob l rfl).1, .inr ⟨rfl, (hob l rfl).2, by omega, .inr ⟨m1, rfl⟩⟩⟩
  ·
   rw [if_neg m0, if_neg m1]
   exact ⟨[], rfl, by decide, .inl ⟨rfl, fun h => by omega⟩⟩
end Go.Proofs.YtmcdcogedcbndaaGreat.Pure
/- Ends of lines in order; what lines cost, by the program. -/
namespace Go.Proofs.YtmcdcogedcbndaaGreat.Pure
open Go.RowKit Go.Proofs.YtmcdcogedcbndaaGreat.S Go.Proofs.YtmcdcogedcbndaaGreatW.PrintWords Go.Proofs.YtmcdcogedcbndaaGreatW.PrintLast
theorem ends_in : ∀ (l : List Int) (p n : Int), endsV l p n = true → ∀ i, i < l.length → p < l.getD i 0 ∧ l.getD i 0 ≤ n ∧ (0 < i → l.getD (i - 1) 0 < l.getD i 0)
 | [], p, n, _, i, hi => absurd hi (Nat.not_lt_zero _)
 | e :: l, p, n, h, i, hi => by
  rw [endsV] at h
  by_cases h0 : e ≤ p
  · rw [if_pos h0] at h; cases h
  rw [if_neg h0] at h
  cases i with
  | zero =>
   refine ⟨by show p < e; omega, ?_, fun h => by omega⟩
   show e ≤ n
   by_cases c : e ≤ n
   · exact c
   · rw [endsV_big l e _ (by omega)] at h; cases h
  | succ i =>
   have ih := ends_in l e n h i (by simpa using hi)
   refine ⟨by show p < l.getD i 0; omega, ih.2.1, fun _ => ?_⟩
   show (e :: l).getD i 0 < l.getD i 0
   cases i with
   | zero => exact ih.1
   | succ i => exact ih.2.2 (by omega)
theorem ends_last : ∀ (l : List Int) (p n : Int), endsV l p n = true → l ≠ [] → l.getD (l.length - 1) 0 = n
 | [], _, _, _, h => absurd rfl h
 | [e], p, n, h, _ => by
  rw [endsV] at h
  by_cases h0 : e ≤ p
  · rw [if_pos h0] at h; cases h
  rw [if_neg h0, endsV] at h
  exact beq_iff_eq.mp h
 | e :: f :: l, p, n, h, _ => by
  rw [endsV] at h
  by_cases h0 : e ≤ p
  · rw [if_pos h0] at h; cases h
  rw [if_neg h0] at h
  exact ends_last (f :: l) e n h (by simp)
def costB (rs ws : List Int) (wide : Int) : Nat → List Int → Int
 | _, [] => 0
 | a, e :: l => costV (bsV rs) (WV rs ws) wide a e.toNat + costB rs ws wide e.toNat l
theorem costI_l {rs ws : List Int} {wide : Int} {k : Nat} (hn : rs.length ≤ 80) (hl : ws.length = rs.length) (hw : ∀ x ∈ ws, 0 ≤ x ∧ x ≤ 1600) (h0 : 0 ≤ wide ∧ wide ≤ 20000) (hk : 2000 ≤ k) : ∀ (l : List Int) (fr : Nat) (s : Int), endsV l (fr : Int) (rs.length : Int) = true → 0 ≤ s → s + ((rs.length - fr : Nat) : Int) * 100000000000 ≤ 8000000000000 → costIL k rs ws (bsV rs) wide l (fr : Int) s = some (s + costB rs ws wide fr l) ∧ 0 ≤ costB rs ws wide fr l
 | [], fr, s, _, _, _ => ⟨by rw [costIL, costB, Int.add_zero], Int.le_refl _⟩
 | e :: r, fr, s, h, hs, hb => by
  rw [endsV] at h
  by_cases h1 : e ≤ (fr : Int)
  · rw [if_pos h1] at h; cases h
  rw [if_neg h1] at h
  have he : e ≤ (rs.length : Int) := by
   by_cases c : e ≤ (rs.length : Int)
   · exact c
   · rw [endsV_big r e _ (by omega)] at h; cases h
  obtain ⟨m, rfl⟩ : ∃ m : Nat, e = m := ⟨e.toNat, by omega⟩
  have hbl := bsV_len rs
  have hc := cost_near (bs := bsV rs) hw hl hn h0 (i := fr) (j := m) (by omega) (by omega)
  have hd := wide_near hw hl hn h0 (i := fr) (j := m) (by omega) (by omega)
  have hx : (if (bsV rs).getD ((m : Int) - 1).toNat 0 = 2 then 0 else (wide - lwV rs ws fr m) * (wide - lwV rs ws fr m)) = costV (bsV rs) (WV rs ws) wide fr m := by
   unfold costV
   rw [WV_is rs ws (by omega) (by omega), show ((m : Int) - 1).toNat = m - 1 by omega]
  rw [WV_is rs ws (by omega) (by omega)] at hd
  obtain ⟨i1, i2⟩ := costI_l hn hl hw h0 hk r m (s + costV (bsV rs) (WV rs ws) wide fr m) h (by omega) (by omega)
  rw [costIL, costB, if_pos (by omega), lineI_p (by omega) hl (by omega) (by omega) (by omega), Option.bind_some, if_pos (by omega), hx, i1, Int.toNat_natCast, Int.add_assoc]
  exact ⟨rfl, by omega⟩
theorem costIs {rs : List Int} {sp : List Sp} {wide : Int} {es : List Int} {k : Nat} (hs : sp.length ≤ 1099511627776) (he : es.length ≤ 1099511627776) (hk : rs.length + sp.length + es.length + 3000 ≤ k) : impl_FillCost.f k rs sp wide es = some (if fillV rs sp wide = true ∧ endsV es 0 (rs.length : Int) = true then (costB rs (wsV rs sp) wide 0 es, true) else (0, false)) ∧ (fillV rs sp wide = true → endsV es 0 (rs.length : Int) = true → 0 ≤ costB rs (wsV rs sp) wide 0 es) := by
 unfold impl_FillCost.f
 rw [allI_p hs (by omega), Option.bind_some]
 cases hf : fillV rs sp wide
 ·
  rw [if_neg (by decide), if_neg (fun h => by cases h.1)]
  exact ⟨rfl, fun h => by cases h⟩
 rw [if_pos rfl, endsI_p he (by omega), Option.bind_some]
 cases hE : endsV es 0 (rs.length : Int)
 ·
  rw [if_neg (by decide), if_neg (fun h => by cases h.2)]
  exact ⟨rfl, fun _ h => by cases h⟩
 obtain ⟨h1, h2, h3, _⟩ := fill_ok hf
 have h0 : 0 ≤ wide ∧ wide ≤ 20000 := by
  unfold fillV at hf
  rw [Bool.and_eq_true, Bool.and_eq_true, decide_eq_true_eq] at hf
  exact hf.2.2
 obtain ⟨c1, c2⟩ := costI_l (rs := rs) (ws := wsV rs sp) (wide := wide) (k := k) h1 (wsV_len rs sp) (ws_small h2) h0 (by omega) es 0 0 hE (Int.le_refl _) (by omega)
 rw [Int.zero_add, show ((0 : Nat) : Int) = 0 from rfl] at c1
 rw [if_pos rfl, if_pos ⟨rfl, rfl⟩, widesI_p h1 h2 (by omega) (by omega), breaksI_p h1 (by omega), Option.bind_some, Option.bind_some, c1]
 exact ⟨rfl, fun _ _ => c2⟩
end Go.Proofs.YtmcdcogedcbndaaGreat.Pure
namespace Go.Proofs.YtmcdcogedcbndaaGreat.S
open Go.RowKit Go.Proofs.YtmcdcogedcbndaaGreatW.PrintWords Go.Proofs.YtmcdcogedcbndaaGreatW.PrintLast
set_option linter.unusedVariables false
set_option linter.unusedSimpArgs false
theorem l7Made_calls (k : Nat) (A0 : Option Addr) (c0 : Nat) (rs : List Int) (A1 : Option Addr) (c1 : Nat) (sp : List S50) (wide : Int) (ws bs : List Int) (w : World) (hr0 : Kd.C (Kd.int .i64) w A0 rs.length rs) (hc0 : rs.length ≤ c0) (hr1 : Kd.C k50 w A1 sp.length sp) (hc1 : sp.length ≤ c1) (hw : spec_l6Wides.f k rs sp = some ws) (hb : spec_l5Breaks.f k rs = some bs) :
  Calls Tryz.prog 63 #[.slice A0 rs.length c0, .slice A1 sp.length c1, .int .i64 wide] w fun e w' => ∃ (gb : Nat) (A2 : Option Addr) (c2 : Nat) (A3 : Option Addr) (c3 : Nat), e = .returned (.pointer (some ⟨gb, 0, none⟩)) ∧ FlO 77 gb A0 c0 rs A2 c2 ws A3 c3 bs wide w' ∧ Below w.heap.size w w' := by
 have HR := az hr0
 have HC := az hc0
 have HR1 := az hr1
 have HC1 := az hc1
 have HW := az hw
 have HB := az hb
 clear hr0 hc0 hr1 hc1 hw hb
 go_enter Tryz.func63, Tryz.ntmps63
 go_wp2_with (first
  | (go_at_call 90; go_must (refine (spec_l6Wides.calls k A0 c0 rs A1 c1 sp ws _ HR.out HC.out HR1.out HC1.out HW.out).mono ?_); rintro e w1 ⟨v1, rfl, ho1, hb1⟩; obtain ⟨A2, c2, e2⟩ := Kd.R_slice ho1; subst e2; have HO1 := az ho1; have HB1 := az hb1; clear ho1 hb1)
  | (go_at_call 91; go_must (refine (spec_l5Breaks.calls k A0 c0 rs bs _ (Kd.C_below HR.out HB1.out) HC.out HB.out).mono ?_); rintro e w2 ⟨v2, rfl, ho2, hb2⟩; obtain ⟨A3, c3, e3⟩ := Kd.R_slice ho2; subst e3; have HO2 := az ho2; have HW2 := az (Kd.C_below (Kd.R_reads' HO1.out).2.2 hb2); have HB2 := az (below_then HB1.out HB1.out.size hb2); clear ho2 hb2))
 go_ret
 have hn := blk_new w2 (.cells #[.slice A0 rs.length c0, .slice A2 ws.length c2, .slice A3 bs.length c3, .int .i64 wide] 77)
 have ha : Below w2.heap.size w2 (w2.alloc (.cells #[.slice A0 rs.length c0, .slice A2 ws.length c2, .slice A3 bs.length c3, .int .i64 wide] 77)) := below_alloc (Below.refl _ _) _
 exact ⟨w2.heap.size, A2, c2, A3, c3, rfl, ⟨hn, Kd.C_below (Kd.C_below HR.out HB2.out) ha, HC.out, Kd.C_below HW2.out ha, (Kd.R_reads' HO1.out).2.1, Kd.C_below (Kd.R_reads' HO2.out).2.2 ha, (Kd.R_reads' HO2.out).2.1⟩, below_alloc HB2.out _⟩
theorem fitsS_calls (k : Nat) (gb : Nat) (A0 : Option Addr) (c0 : Nat) (rs : List Int) (A1 : Option Addr) (c1 : Nat) (ws : List Int) (A2 : Option Addr) (c2 : Nat) (bs : List Int) (wide from_ to_ x : Int) (w : World) (hf : FlO 77 gb A0 c0 rs A1 c1 ws A2 c2 bs wide w) (hx : spec_l7Wide.f k rs ws from_ to_ = some x) :
  Calls Tryz.prog 64 #[.pointer (some ⟨gb, 0, none⟩), .int .i64 from_, .int .i64 to_] w fun e w' => e = .returned (.bool (decide (x ≤ wide))) ∧ Below w.heap.size w w' := by
 have hS := FlI.of (w0 := w) hf (Below.refl _ _)
 have HX := az hx
 unfold FlI at hS
 clear hf hx
 go_enter Tryz.func64, Tryz.ntmps64
 go_upto_region 1 with fail
 go_region_held3 (fun W => W.cell? ⟨gb, 0, none⟩ = some (.slice A0 rs.length c0) ∧ W.cell? ⟨gb, 1, none⟩ = some (.slice A1 ws.length c1) ∧ W.cell? ⟨gb, 2, none⟩ = some (.slice A2 bs.length c2) ∧ W.cell? ⟨gb, 3, none⟩ = some (.int .i64 wide) ∧ Aside0 (FlO 77 gb A0 c0 rs A1 c1 ws A2 c2 bs wide W ∧ Below w.heap.size w W)) (first | (with_reducible assumption) | (with_reducible refine FlI.below ?_ zH; with_reducible assumption) | (with_reducible exact FlI.drew zH)) (first
  | (go_at_call 92; refine (spec_l7Wide.calls k A0 c0 rs A1 c1 ws from_ to_ x _ ?s1 ?s2 ?s3 ?s4 HX.out).mono ?_; (case s1 => exact (show FlI 77 gb A0 c0 rs A1 c1 ws A2 c2 bs wide w _ from zH).2.2.2.2.out.1.2.1); (case s2 => exact (show FlI 77 gb A0 c0 rs A1 c1 ws A2 c2 bs wide w _ from zH).2.2.2.2.out.1.2.2.1); (case s3 => exact (show FlI 77 gb A0 c0 rs A1 c1 ws A2 c2 bs wide w _ from zH).2.2.2.2.out.1.2.2.2.1); (case s4 => exact (show FlI 77 gb A0 c0 rs A1 c1 ws A2 c2 bs wide w _ from zH).2.2.2.2.out.1.2.2.2.2.1); rintro e w3 ⟨rfl, p⟩))
 all_goals
  go_wp2
  go_ret
  exact ⟨rfl, (show FlI 77 gb A0 c0 rs A1 c1 ws A2 c2 bs wide w _ from zH).2.2.2.2.out.2⟩
theorem mustS_calls (gb : Nat) (A0 : Option Addr) (c0 : Nat) (rs : List Int) (A1 : Option Addr) (c1 : Nat) (ws : List Int) (A2 : Option Addr) (c2 : Nat) (bs : List Int) (wide : Int) (m : Nat) (w : World) (hf : FlO 77 gb A0 c0 rs A1 c1 ws A2 c2 bs wide w) (hm : m ≤ bs.length) (hn : bs.length ≤ 1000) :
  Calls Tryz.prog 65 #[.pointer (some ⟨gb, 0, none⟩), .int .i64 m] w fun e w' => e = .returned (.int .i64 (mustV bs rs.length m)) ∧ Drawn0 w w' := by
 have HS := az hf
 have HM := az hm
 clear hf hm
 go_enter Tryz.func65, Tryz.ntmps65
 go_wp2
 go_loopg [5] bs.length (fun gg s5 wr => ∃ i : Nat, s5 = .int .i64 i ∧ i ≤ bs.length ∧ bs.length - i ≤ gg ∧ Aside0 (mustN bs rs.length (bs.length - i) i = mustV bs rs.length m) ∧ Aside0 (Drawn0 w wr))
 case atStart => exact ⟨m, rfl, HM.out, by omega, ⟨rfl⟩, ⟨Drawn0.refl _⟩⟩
 case round =>
  obtain ⟨i, rfl, hi, hg, HF, HD⟩ := hrel
  have HQ := az (HS.out.below HD.out.below)
  have q0 := (blk_cell HQ.out.1 0).trans (show _ = some (Value.slice A0 rs.length c0) from rfl)
  have q2 := (blk_cell HQ.out.1 2).trans (show _ = some (Value.slice A2 bs.length c2) from rfl)
  by_cases hlt : i < bs.length
  ·
   have hltz : (i : Int) < (bs.length : Int) := by omega
   have hi0 : (0 : Int) ≤ (i : Int) := by omega
   obtain ⟨ad, hA, hx⟩ := Kd.at_int HQ.out.2.2.2.2.2.1 (i : Int) hi0 hltz
   subst hA
   have hxx : rd bs (i : Int) = bs.getD i 0 := by simp [rd]
   rw [hxx, Int.toNat_natCast] at hx
   have hq := HF.out
   rw [show bs.length - i = (bs.length - (i + 1)) + 1 by omega, mustN] at hq
   obtain ⟨y, hy⟩ : ∃ y, bs.getD i 0 = y := ⟨_, rfl⟩
   rw [hy] at hx hq
   have HLT := az hlt
   clear hxx hy HF
   by_cases h2 : y = 2
   ·
    rw [if_pos h2] at hq
    have HR := az hq
    have b2 : (y == 2) = true := beq_iff_eq.mpr h2
    clear h2 hq
    go_wp2
    go_ret
    exact ⟨by rw [← HR.out]; first | rfl | (congr 2; unfold wrap64; omega), HD.out⟩
   ·
    rw [if_neg h2] at hq
    have HR := az hq
    have b2 : (y == 2) = false := beq_eq_false_iff_ne.mpr h2
    clear h2 hq
    go_wp2
    go_roundg (bs.length - (i + 1))
    case measure => have := HLT.out; omega
    case rel => exact ⟨i + 1, by go_num, HLT.out, Nat.le_refl _, HR, HD⟩
  ·
   have hltz : ¬ (i : Int) < (bs.length : Int) := by omega
   obtain rfl : i = bs.length := by omega
   have hq := HF.out
   rw [Nat.sub_self, mustN] at hq
   have HR := az hq
   clear hq HF
   go_wp2
   go_ret
   exact ⟨by rw [← HR.out]; first | done | rfl, HD.out⟩
theorem costS_calls (k : Nat) (gb : Nat) (A0 : Option Addr) (c0 : Nat) (rs : List Int) (A1 : Option Addr) (c1 : Nat) (ws : List Int) (A2 : Option Addr) (c2 : Nat) (bs : List Int) (wide from_ to_ x : Int) (m : Nat) (w : World) (hf : FlO 77 gb A0 c0 rs A1 c1 ws A2 c2 bs wide w) (hm : to_ - 1 = (m : Int)) (hmb : m < bs.length) (hx : spec_l7Wide.f k rs ws from_ to_ = some x) (hb : (wide - x).natAbs ≤ 1000000000) :
  Calls Tryz.prog 67 #[.pointer (some ⟨gb, 0, none⟩), .int .i64 from_, .int .i64 to_] w fun e w' => e = .returned (.int .i64 (if bs.getD m 0 = 2 then 0 else (wide - x) * (wide - x))) ∧ Below w.heap.size w w' := by
 have hm0 : (0 : Int) ≤ (m : Int) := by omega
 have hmz : (m : Int) < (bs.length : Int) := by omega
 have hl := hf.2.2.2.2.2.1.2.1
 obtain ⟨ad5, hA5, hx5⟩ := Kd.at_int hf.2.2.2.2.2.1 (m : Int) hm0 hmz
 subst hA5
 have hxx : rd bs (m : Int) = bs.getD m 0 := by simp [rd]
 rw [hxx, Int.toNat_natCast] at hx5
 obtain ⟨y, hy⟩ : ∃ y, bs.getD m 0 = y := ⟨_, rfl⟩
 rw [hy] at hx5 ⊢
 have hw1 : IntKind.i64.wrap (to_ - 1) = (m : Int) := by rw [i64_w]; unfold wrap64; omega
 have hw2 : wrap64 (to_ - 1) = (m : Int) := by unfold wrap64; omega
 obtain ⟨d, hd⟩ : ∃ d, wide - x = d := ⟨_, rfl⟩
 rw [hd] at hb ⊢
 have hs := sq_fit d hb
 have hw3 : wrap64 (wide - x) = d := by unfold wrap64; omega
 have hw4 : IntKind.i64.wrap (wide - x) = d := by rw [i64_w]; exact hw3
 have hw5 : wrap64 (d * d) = d * d := by unfold wrap64; omega
 have hw6 : IntKind.i64.wrap (d * d) = d * d := by rw [i64_w]; exact hw5
 clear hxx hy hm hs hb hd hmb
 have HX := az hx
 clear hx
 by_cases h2 : y = 2
 ·
  rw [if_pos h2]
  have b2 : (y == 2) = true := beq_iff_eq.mpr h2
  have q2 := (blk_cell hf.1 2).trans (show _ = some (Value.slice (some ad5) bs.length c2) from rfl)
  clear h2 hf
  go_enter Tryz.func67, Tryz.ntmps67
  go_wp2
  go_ret
  exact ⟨rfl, by repeat (first | exact Below.refl _ _ | apply pw_below_drewN | apply below_drew1)⟩
 ·
  rw [if_neg h2]
  have b2 : (y == 2) = false := beq_eq_false_iff_ne.mpr h2
  have hS := FlI.of (w0 := w) hf (Below.refl _ _)
  unfold FlI at hS
  clear h2 hf
  go_enter Tryz.func67, Tryz.ntmps67
  obtain ⟨q0, q1, q2, q3, q4⟩ := hS
  go_upto_region 3 with fail
  have hS : FlI 77 gb A0 c0 rs A1 c1 ws (some ad5) c2 bs wide w w := ⟨q0, q1, q2, q3, q4⟩
  unfold FlI at hS
  clear q0 q1 q2 q3 q4 hx5
  go_region_held3 (fun W => W.cell? ⟨gb, 0, none⟩ = some (.slice A0 rs.length c0) ∧ W.cell? ⟨gb, 1, none⟩ = some (.slice A1 ws.length c1) ∧ W.cell? ⟨gb, 2, none⟩ = some (.slice (some ad5) bs.length c2) ∧ W.cell? ⟨gb, 3, none⟩ = some (.int .i64 wide) ∧ Aside0 (FlO 77 gb A0 c0 rs A1 c1 ws (some ad5) c2 bs wide W ∧ Below w.heap.size w W)) (first | (with_reducible assumption) | (with_reducible refine FlI.below ?_ zH; with_reducible assumption) | (with_reducible exact FlI.drew zH)) (first
   | (go_at_call 92; refine (spec_l7Wide.calls k A0 c0 rs A1 c1 ws from_ to_ x _ ?s1 ?s2 ?s3 ?s4 HX.out).mono ?_; (case s1 => exact (show FlI 77 gb A0 c0 rs A1 c1 ws (some ad5) c2 bs wide w _ from zH).2.2.2.2.out.1.2.1); (case s2 => exact (show FlI 77 gb A0 c0 rs A1 c1 ws (some ad5) c2 bs wide w _ from zH).2.2.2.2.out.1.2.2.1); (case s3 => exact (show FlI 77 gb A0 c0 rs A1 c1 ws (some ad5) c2 bs wide w _ from zH).2.2.2.2.out.1.2.2.2.1); (case s4 => exact (show FlI 77 gb A0 c0 rs A1 c1 ws (some ad5) c2 bs wide w _ from zH).2.2.2.2.out.1.2.2.2.2.1); rintro e w3 ⟨rfl, p⟩))
  all_goals
   go_wp2
   go_ret
   exact ⟨rfl, (show FlI 77 gb A0 c0 rs A1 c1 ws (some ad5) c2 bs wide w _ from zH).2.2.2.2.out.2⟩
theorem bestS_calls (k : Nat) (gb : Nat) (A0 : Option Addr) (c0 : Nat) (rs : List Int) (A1 : Option Addr) (c1 : Nat) (ws : List Int) (A2 : Option Addr) (c2 : Nat) (bs : List Int) (wide : Int) (W : Nat → Nat → Int) (w : World) (r : List Int) (ok : Bool) (hf : FlO 77 gb A0 c0 rs A1 c1 ws A2 c2 bs wide w) (hn : rs.length ≤ 1000) (hbl : bs.length = rs.length) (hW : ∀ i j : Nat, i ≤ j → j ≤ rs.length → spec_l7Wide.f k rs ws (i : Int) (j : Int) = some (W i j)) (hWb : ∀ i j : Nat, i ≤ j → j ≤ rs.length → (wide - W i j).natAbs ≤ 1000000000) (hTb : ∀ d, d ≤ rs.length → ∀ j, j ≤ rs.length → 0 ≤ ((tabB bs (fitV W wide) (costV bs W wide) rs.length) d j).1 ∧ ((tabB bs (fitV W wide) (costV bs W wide) rs.length) d j).1 ≤ 1000000000000000) (hr : outB ((tabB bs (fitV W wide) (costV bs W wide) rs.length) rs.length) rs.length rs.length 0 = some (if ok = true then some r else none)) (hr0 : ok = false → r = []) :
  Calls Tryz.prog 70 #[.pointer (some ⟨gb, 0, none⟩)] w fun e w' => ∃ v0_ : Value, e = .returned (.tuple #[v0_, .bool ok]) ∧ Kd.R (Kd.int .i64) 3 w' w.heap.size (fun _ => True) v0_ r ∧ Below w.heap.size w w' := by
 have HS := az hf
 have HW := az hW
 have HWB := az hWb
 have HTB := az hTb
 have HBL := az hbl
 have HN := az hn
 have HRR := az hr
 have HR0 := az hr0
 have q0 := (blk_cell hf.1 0).trans (show _ = some (Value.slice A0 rs.length c0) from rfl)
 have h0 : (0 : Int) ≤ (rs.length : Int) := by omega
 clear hf hW hWb hTb hbl hr hr0
 go_enter Tryz.func70, Tryz.ntmps70
 go_upto_region 2 with fail
 have hw1 : wrap64 ((rs.length : Int) + 1) = ((rs.length + 1 : Nat) : Int) := by unfold wrap64; omega
 have hu := Tryz.underlying103
 go_wp2_with ((with_reducible refine gate_dst (N := 19) rfl ?_); refine make_tab 105 rfl 103 (.tmp 18) (.tmp 18) rfl (rs.length + 1) (by go_simp) (by go_simp) hu (by kernel_rfl) (by omega) ?_)
 obtain ⟨g0, hg0⟩ : ∃ g0, w.heap.size = g0 := ⟨_, rfl⟩
 have HT0 := az (TB.made 105 (rs.length + 1) w)
 have HB0 := az (below_alloc (Below.refl w.heap.size w) (.cells (madeCells #[.int .i64 0, .int .i64 0] ((rs.length + 1) * 2)) 105))
 rw [hg0] at HT0 ⊢
 generalize w.alloc (.cells (madeCells #[.int .i64 0, .int .i64 0] ((rs.length + 1) * 2)) 105) = w1 at HT0 HB0 ⊢
 have HG0 := az (show w.heap.size ≤ g0 by omega)
 have HGE := az hg0
 clear q0 hw1 h0
 go_loopg [6] rs.length (fun gg s6 wr => ∃ d : Nat, s6 = .int .i64 ((rs.length : Int) - 1 - (d : Int)) ∧ d ≤ rs.length ∧ rs.length - d ≤ gg ∧ Aside0 (TB 105 g0 (rs.length + 1) ((tabB bs (fitV W wide) (costV bs W wide) rs.length) d) wr) ∧ Aside0 (Below w.heap.size w wr))
 case atStart => exact ⟨0, by go_num, Nat.zero_le _, by omega, HT0, HB0⟩
 case round =>
  clear HT0 HB0
  obtain ⟨d, rfl, hd, hg, HT, HB⟩ := hrel
  by_cases hlt : d < rs.length
  ·
   obtain ⟨a, ha⟩ : ∃ a : Nat, rs.length - 1 - d = a := ⟨_, rfl⟩
   have hai : (rs.length : Int) - 1 - (d : Int) = (a : Int) := by omega
   rw [hai]
   have ha0 : (0 : Int) ≤ (a : Int) := by omega
   have han : (a : Int) < ((rs.length + 1 : Nat) : Int) := by omega
   have halt : a < rs.length + 1 := by omega
   obtain ⟨T, hT⟩ : ∃ T, (tabB bs (fitV W wide) (costV bs W wide) rs.length) d = T := ⟨_, rfl⟩
   have HTE := az hT
   have HTP : Aside0 (∀ j : Nat, j ≤ rs.length → 0 ≤ (T j).1 ∧ (T j).1 ≤ 1000000000000000) := ⟨fun j hj => hT ▸ HTB.out d hd j hj⟩
   have HTA : Aside0 ((T a).1 = 0) := ⟨by rw [← hT, tabB_lo bs (fitV W wide) (costV bs W wide) rs.length d a (by omega)]⟩
   rw [hT] at HT
   obtain ⟨x0, x1, x2, x3⟩ := HT.out.cells halt
   have HT1 : Aside0 (TB 105 g0 (rs.length + 1) (updV T a (0, -1)) (wr.setCell ⟨g0, a * 2 + 1, none⟩ (.int .i64 (-1)))) := ⟨by rw [← HTA.out]; exact HT.out.set1 halt (-1)⟩
   have HB1 : Aside0 (Below w.heap.size w (wr.setCell ⟨g0, a * 2 + 1, none⟩ (.int .i64 (-1)))) := ⟨HB.out.setCell (p := ⟨g0, a * 2 + 1, none⟩) HG0.out _⟩
   have HAL := az halt
   have HAE := az ha
   have HDL := az hlt
   have HML := az (mustN_le bs rs.length (bs.length - a) a (zE HBL.out))
   have HAN := az (show a ≤ bs.length from (zE HBL.out))
   have HNN := az (show bs.length ≤ 1000 from (zE HBL.out))
   clear hT hd hlt ha hai HT HB
   go_upto_region 8 with (go_at_call 65; go_must (refine (mustS_calls gb A0 c0 rs A1 c1 ws A2 c2 bs wide a _ (HS.out.below HB1.out) HAN.out HNN.out).mono ?_); rintro e w4 ⟨rfl, hd4⟩; have HB4 := az (below_then HB1.out HB1.out.size hd4.below); have HT4 := az (HT1.out.below hd4.below); clear hd4)
   have HME : Aside0 (mustV bs rs.length a = mustN bs rs.length (bs.length - a) a) := ⟨rfl⟩
   obtain ⟨en, hen⟩ : ∃ en, mustV bs rs.length a = en := ⟨_, rfl⟩
   have HEN := az (show en ≤ rs.length from hen ▸ HML.out)
   have HEE := az hen
   rw [hen]
   clear HML HME hen x0 x1 x2 x3 HT1 HB1
   go_wp2
   go_loopg [8] rs.length (fun gq s8 wq => ∃ (e : Nat) (u v : Int), s8 = .int .i64 e ∧ a < e ∧ en + 1 - e ≤ gq ∧ Aside0 (rowB bs (fitV W wide) (costV bs W wide) rs.length T a (en + 1 - e) e (u, v) = rowB bs (fitV W wide) (costV bs W wide) rs.length T a (en - a) (a + 1) (0, -1)) ∧ Aside0 (TB 105 g0 (rs.length + 1) (updV T a (u, v)) wq) ∧ Aside0 (Below w.heap.size w wq))
   case atStart => exact ⟨a + 1, 0, -1, by have h9 := HAN.out; have h8 := HNN.out; first | go_num | (congr 1; unfold wrap64; omega), by omega, zE HEN.out, ⟨by rw [show en + 1 - (a + 1) = en - a by omega]⟩, HT4, HB4⟩
   case round =>
    clear HT4 HB4
    obtain ⟨e, u, v, rfl, hi0, hgq, HF, HT, HB⟩ := hrel
    have HQ := az (HS.out.below HB.out)
    by_cases hle : e ≤ en
    ·
     have hlez : (e : Int) ≤ (en : Int) := by omega
     have hq := HF.out
     rw [show en + 1 - e = (en + 1 - (e + 1)) + 1 by omega, rowB] at hq
     obtain ⟨m, hm⟩ : ∃ m : Nat, e = m + 1 := ⟨e - 1, by omega⟩
     have hm0 : (0 : Int) ≤ (m : Int) := by omega
     have hmz : (m : Int) < (bs.length : Int) := by have := HEN.out; have := HBL.out; omega
     have hen9 := HEN.out
     have he0 : (0 : Int) ≤ (e : Int) := by omega
     have hez : (e : Int) < ((rs.length + 1 : Nat) : Int) := by omega
     have hez2 : (e : Int) < (rs.length : Int) + 1 := by omega
     have hez3 : e < rs.length + 1 := by omega
     have q2 := (blk_cell HQ.out.1 2).trans (show _ = some (Value.slice A2 bs.length c2) from rfl)
     obtain ⟨ad5, hA5, hx5⟩ := Kd.at_int HQ.out.2.2.2.2.2.1 (m : Int) hm0 hmz
     have hxx : rd bs (m : Int) = bs.getD m 0 := by simp [rd]
     rw [hxx, Int.toNat_natCast] at hx5
     obtain ⟨y, hy⟩ : ∃ y, bs.getD m 0 = y := ⟨_, rfl⟩
     rw [hy] at hx5
     subst hA5
     have hw1 : IntKind.i64.wrap ((e : Int) - 1) = (m : Int) := by rw [i64_w]; unfold wrap64; omega
     have hw2 : wrap64 ((e : Int) - 1) = (m : Int) := by unfold wrap64; omega
     have HYE : Aside0 (bs.getD (e - 1) 0 = y) := ⟨by rw [show e - 1 = m by omega]; exact hy⟩
     have HYM := az hy
     have HMB := az (show m < bs.length by omega)
     have HEM := az (show (e : Int) - 1 = (m : Int) by omega)
     have HLE := az (show e ≤ rs.length by omega)
     have HLN := az hle
     have HAE2 := az hi0
     obtain ⟨y0, y1, _, _⟩ := HT.out.cells (i := e) (by omega)
     rw [updV_ne T (u, v) (show e ≠ a by omega)] at y0 y1
     obtain ⟨p1, hp1⟩ : ∃ p1, (T e).1 = p1 := ⟨_, rfl⟩
     obtain ⟨p2, hp2⟩ : ∃ p2, (T e).2 = p2 := ⟨_, rfl⟩
     have hpb := HTP.out e (by omega)
     rw [hp1] at y0 hpb
     rw [hp2] at y1
     have HP1 := az hp1
     have HP2 := az hp2
     have HPB := az hpb
     have HQQ := az hq
     clear hxx hy hm hle HF hq hp1 hp2 hpb hen9
     by_cases hy0 : y = 0
     ·
      have b0 : (y == 0) = true := beq_iff_eq.mpr hy0
      have HST : Aside0 ((u, v) = stepB bs (fitV W wide) (costV bs W wide) rs.length T a e (u, v)) := ⟨by unfold stepB; rw [HYE.out, if_pos (Or.inl hy0)]⟩
      clear hy0
      go_wp2
      go_roundg (en + 1 - (e + 1))
      case measure => have := HLN.out; omega
      case rel => exact ⟨e + 1, u, v, by have h9 := HLE.out; have h8 := HN.out; first | go_num | (congr 1; unfold wrap64; omega), zE HAE2.out, Nat.le_refl _, ⟨by rw [← HQQ.out]; congr 1; exact HST.out⟩, HT, HB⟩
     ·
      have b0 : (y == 0) = false := beq_eq_false_iff_ne.mpr hy0
      cases hfi : fitV W wide a e
      case false =>
       have HFI := az hfi
       have HST : Aside0 ((u, v) = stepB bs (fitV W wide) (costV bs W wide) rs.length T a e (u, v)) := ⟨by unfold stepB; rw [if_pos (Or.inr (Or.inl hfi))]⟩
       clear hy0 hfi
       go_wp2_with (go_at_call 64; go_must (refine (fitsS_calls k gb A0 c0 rs A1 c1 ws (some ad5) c2 bs wide (a : Int) (e : Int) (W a e) _ HQ.out (HW.out a e (zE HAE2.out) HLE.out)).mono ?_); rw [show decide (W a e ≤ wide) = false from HFI.out]; rintro e1 w2 ⟨rfl, hb2⟩; have HB2 := az (below_then HB.out HB.out.size hb2); have HT2 := az (HT.out.below hb2); have HL2 := az hb2; have y0 := hb2.cell (World.block_lt_of_cell? _ _ y0) |>.trans y0; have y1 := hb2.cell (World.block_lt_of_cell? _ _ y1) |>.trans y1; clear hb2)
       go_roundg (en + 1 - (e + 1))
       case measure => have := HLN.out; omega
       case rel => exact ⟨e + 1, u, v, by have h9 := HLE.out; have h8 := HN.out; first | go_num | (congr 1; unfold wrap64; omega), zE HAE2.out, Nat.le_refl _, ⟨by rw [← HQQ.out]; congr 1; exact HST.out⟩, HT2, HB2⟩
      case true =>
       have HFI := az hfi
       by_cases hen1 : e < rs.length
       ·
        have henz : (e : Int) < (rs.length : Int) := by omega
        by_cases hp0 : p2 < 0
        ·
         have HST : Aside0 ((u, v) = stepB bs (fitV W wide) (costV bs W wide) rs.length T a e (u, v)) := ⟨by unfold stepB; rw [if_pos (Or.inr (Or.inr ⟨hen1, by rw [HP2.out]; exact hp0⟩))]⟩
         clear hy0 hfi hen1
         go_wp2_with (go_at_call 64; go_must (refine (fitsS_calls k gb A0 c0 rs A1 c1 ws (some ad5) c2 bs wide (a : Int) (e : Int) (W a e) _ HQ.out (HW.out a e (zE HAE2.out) HLE.out)).mono ?_); rw [show decide (W a e ≤ wide) = true from HFI.out]; rintro e1 w2 ⟨rfl, hb2⟩; have HB2 := az (below_then HB.out HB.out.size hb2); have HT2 := az (HT.out.below hb2); have HL2 := az hb2; have y0 := hb2.cell (World.block_lt_of_cell? _ _ y0) |>.trans y0; have y1 := hb2.cell (World.block_lt_of_cell? _ _ y1) |>.trans y1; clear hb2)
         go_roundg (en + 1 - (e + 1))
         case measure => have := HLN.out; omega
         case rel => exact ⟨e + 1, u, v, by have h9 := HLE.out; have h8 := HN.out; first | go_num | (congr 1; unfold wrap64; omega), zE HAE2.out, Nat.le_refl _, ⟨by rw [← HQQ.out]; congr 1; exact HST.out⟩, HT2, HB2⟩
        ·
         have HNG : Aside0 (¬ (bs.getD (e - 1) 0 = 0 ∨ fitV W wide a e = false ∨ (e < rs.length ∧ (T e).2 < 0))) := ⟨by rw [HYE.out, hfi, HP2.out]; intro h; rcases h with h | h | h; exact hy0 h; cases h; exact hp0 h.2⟩
         clear hy0 hfi hen1
         obtain ⟨x, hx⟩ : ∃ x, costV bs W wide a e = x := ⟨_, rfl⟩
         have HCX : Aside0 ((if bs.getD m 0 = 2 then 0 else (wide - W a e) * (wide - W a e)) = x) := ⟨by rw [← hx]; unfold costV; rw [HYE.out, HYM.out]⟩
         have hxb : 0 ≤ x ∧ x ≤ 1000000000000000000 := by rw [← HCX.out]; split; omega; exact sq_fit _ (HWB.out a e (zE HAE2.out) HLE.out)
         have hpb := HPB.out
         obtain ⟨c, hc⟩ : ∃ c, x + p1 = c := ⟨_, rfl⟩
         have hw3 : wrap64 (x + p1) = c := by unfold wrap64; omega
         have hw4 : IntKind.i64.wrap (x + p1) = c := by rw [i64_w]; exact hw3
         have HXC := az (show costV bs W wide a e + (T e).1 = c by rw [hx, HP1.out]; exact hc)
         clear hx hxb hpb hc
         go_upto_region 12 with (go_at_call 64; go_must (refine (fitsS_calls k gb A0 c0 rs A1 c1 ws (some ad5) c2 bs wide (a : Int) (e : Int) (W a e) _ HQ.out (HW.out a e (zE HAE2.out) HLE.out)).mono ?_); rw [show decide (W a e ≤ wide) = true from HFI.out]; rintro e1 w2 ⟨rfl, hb2⟩; have HB2 := az (below_then HB.out HB.out.size hb2); have HT2 := az (HT.out.below hb2); have HL2 := az hb2; have y0 := hb2.cell (World.block_lt_of_cell? _ _ y0) |>.trans y0; have y1 := hb2.cell (World.block_lt_of_cell? _ _ y1) |>.trans y1; clear hb2)
         have hJ := FlJ.of (p := ⟨g0, e * 2, none⟩) (q := ⟨g0, e * 2, none⟩) ⟨HQ.out.below HL2.out, Below.refl _ _, y0, y0⟩
         clear y0 y1 q2 hx5
         unfold FlJ at hJ
         go_region_held3 (fun W' => W'.cell? ⟨gb, 0, none⟩ = some (.slice A0 rs.length c0) ∧ W'.cell? ⟨gb, 1, none⟩ = some (.slice A1 ws.length c1) ∧ W'.cell? ⟨gb, 2, none⟩ = some (.slice (some ad5) bs.length c2) ∧ W'.cell? ⟨gb, 3, none⟩ = some (.int .i64 wide) ∧ W'.cell? ⟨g0, e * 2, none⟩ = some (.int .i64 p1) ∧ W'.cell? ⟨g0, e * 2, none⟩ = some (.int .i64 p1) ∧ Aside0 (FlK 77 gb A0 c0 rs A1 c1 ws (some ad5) c2 bs wide ⟨g0, e * 2, none⟩ p1 ⟨g0, e * 2, none⟩ p1 w2 W')) (first | (with_reducible assumption) | (with_reducible refine FlJ.below ?_ zH; with_reducible assumption) | (with_reducible exact FlJ.drew zH)) (first | (go_at_call 67; (with_reducible refine (costS_calls k gb A0 c0 rs A1 c1 ws (some ad5) c2 bs wide (a : Int) (e : Int) (W a e) m _ ?s1 HEM.out HMB.out (HW.out a e (zE HAE2.out) HLE.out) (HWB.out a e (zE HAE2.out) HLE.out)).mono ?_); (case s1 => exact (show FlJ 77 gb A0 c0 rs A1 c1 ws (some ad5) c2 bs wide ⟨g0, e * 2, none⟩ p1 ⟨g0, e * 2, none⟩ p1 w2 _ from zH).2.2.2.2.2.2.out.1); rw [HCX.out]; rintro e3 w3 ⟨rfl, p⟩))
         all_goals
          have HB6 := az (show FlJ 77 gb A0 c0 rs A1 c1 ws (some ad5) c2 bs wide ⟨g0, e * 2, none⟩ p1 ⟨g0, e * 2, none⟩ p1 w2 _ from zH).2.2.2.2.2.2.out.2.1
          have HB7 := az (below_then HB2.out HB2.out.size HB6.out)
          have HT7 := az (HT2.out.below HB6.out)
          obtain ⟨z0, z1, z2, z3⟩ := HT7.out.cells HAL.out
          rw [updV_at] at z0 z1
          by_cases hv0 : v < 0
          ·
           have HST : Aside0 ((c, (e : Int)) = stepB bs (fitV W wide) (costV bs W wide) rs.length T a e (u, v)) := ⟨by unfold stepB; rw [if_neg HNG.out, HXC.out, if_pos (Or.inl hv0)]⟩
           go_wp2
           go_roundg (en + 1 - (e + 1))
           case measure => have := HLN.out; omega
           case rel => exact ⟨e + 1, c, (e : Int), by have h9 := HLE.out; have h8 := HN.out; first | go_num | (congr 1; unfold wrap64; omega), zE HAE2.out, Nat.le_refl _, ⟨by rw [← HQQ.out]; congr 1; exact HST.out⟩, ⟨by have h := HT7.out.set HAL.out c (e : Int); rw [updV_updV] at h; exact h⟩, ⟨(HB7.out.setCell (p := ⟨g0, a * 2, none⟩) HG0.out _).setCell (p := ⟨g0, a * 2 + 1, none⟩) HG0.out _⟩⟩
          ·
           by_cases hcu : c < u
           ·
            have HST : Aside0 ((c, (e : Int)) = stepB bs (fitV W wide) (costV bs W wide) rs.length T a e (u, v)) := ⟨by unfold stepB; rw [if_neg HNG.out, HXC.out, if_pos (Or.inr hcu)]⟩
            go_wp2
            go_roundg (en + 1 - (e + 1))
            case measure => have := HLN.out; omega
            case rel => exact ⟨e + 1, c, (e : Int), by have h9 := HLE.out; have h8 := HN.out; first | go_num | (congr 1; unfold wrap64; omega), zE HAE2.out, Nat.le_refl _, ⟨by rw [← HQQ.out]; congr 1; exact HST.out⟩, ⟨by have h := HT7.out.set HAL.out c (e : Int); rw [updV_updV] at h; exact h⟩, ⟨(HB7.out.setCell (p := ⟨g0, a * 2, none⟩) HG0.out _).setCell (p := ⟨g0, a * 2 + 1, none⟩) HG0.out _⟩⟩
           ·
            have HST : Aside0 ((u, v) = stepB bs (fitV W wide) (costV bs W wide) rs.length T a e (u, v)) := ⟨by unfold stepB; rw [if_neg HNG.out, HXC.out, if_neg (show ¬ (v < 0 ∨ c < u) by omega)]⟩
            go_wp2
            go_roundg (en + 1 - (e + 1))
            case measure => have := HLN.out; omega
            case rel => exact ⟨e + 1, u, v, by have h9 := HLE.out; have h8 := HN.out; first | go_num | (congr 1; unfold wrap64; omega), zE HAE2.out, Nat.le_refl _, ⟨by rw [← HQQ.out]; congr 1; exact HST.out⟩, HT7, HB7⟩
       ·
        have henz : ¬ (e : Int) < (rs.length : Int) := by omega
        have HNG : Aside0 (¬ (bs.getD (e - 1) 0 = 0 ∨ fitV W wide a e = false ∨ (e < rs.length ∧ (T e).2 < 0))) := ⟨by rw [HYE.out, hfi, HP2.out]; intro h; rcases h with h | h | h; exact hy0 h; cases h; exact hen1 h.1⟩
        clear hy0 hfi hen1
        obtain ⟨x, hx⟩ : ∃ x, costV bs W wide a e = x := ⟨_, rfl⟩
        have HCX : Aside0 ((if bs.getD m 0 = 2 then 0 else (wide - W a e) * (wide - W a e)) = x) := ⟨by rw [← hx]; unfold costV; rw [HYE.out, HYM.out]⟩
        have hxb : 0 ≤ x ∧ x ≤ 1000000000000000000 := by rw [← HCX.out]; split; omega; exact sq_fit _ (HWB.out a e (zE HAE2.out) HLE.out)
        have hpb := HPB.out
        obtain ⟨c, hc⟩ : ∃ c, x + p1 = c := ⟨_, rfl⟩
        have hw3 : wrap64 (x + p1) = c := by unfold wrap64; omega
        have hw4 : IntKind.i64.wrap (x + p1) = c := by rw [i64_w]; exact hw3
        have HXC := az (show costV bs W wide a e + (T e).1 = c by rw [hx, HP1.out]; exact hc)
        clear hx hxb hpb hc
        go_upto_region 12 with (go_at_call 64; go_must (refine (fitsS_calls k gb A0 c0 rs A1 c1 ws (some ad5) c2 bs wide (a : Int) (e : Int) (W a e) _ HQ.out (HW.out a e (zE HAE2.out) HLE.out)).mono ?_); rw [show decide (W a e ≤ wide) = true from HFI.out]; rintro e1 w2 ⟨rfl, hb2⟩; have HB2 := az (below_then HB.out HB.out.size hb2); have HT2 := az (HT.out.below hb2); have HL2 := az hb2; have y0 := hb2.cell (World.block_lt_of_cell? _ _ y0) |>.trans y0; have y1 := hb2.cell (World.block_lt_of_cell? _ _ y1) |>.trans y1; clear hb2)
        have hJ := FlJ.of (p := ⟨g0, e * 2, none⟩) (q := ⟨g0, e * 2, none⟩) ⟨HQ.out.below HL2.out, Below.refl _ _, y0, y0⟩
        clear y0 y1 q2 hx5
        unfold FlJ at hJ
        go_region_held3 (fun W' => W'.cell? ⟨gb, 0, none⟩ = some (.slice A0 rs.length c0) ∧ W'.cell? ⟨gb, 1, none⟩ = some (.slice A1 ws.length c1) ∧ W'.cell? ⟨gb, 2, none⟩ = some (.slice (some ad5) bs.length c2) ∧ W'.cell? ⟨gb, 3, none⟩ = some (.int .i64 wide) ∧ W'.cell? ⟨g0, e * 2, none⟩ = some (.int .i64 p1) ∧ W'.cell? ⟨g0, e * 2, none⟩ = some (.int .i64 p1) ∧ Aside0 (FlK 77 gb A0 c0 rs A1 c1 ws (some ad5) c2 bs wide ⟨g0, e * 2, none⟩ p1 ⟨g0, e * 2, none⟩ p1 w2 W')) (first | (with_reducible assumption) | (with_reducible refine FlJ.below ?_ zH; with_reducible assumption) | (with_reducible exact FlJ.drew zH)) (first | (go_at_call 67; (with_reducible refine (costS_calls k gb A0 c0 rs A1 c1 ws (some ad5) c2 bs wide (a : Int) (e : Int) (W a e) m _ ?s1 HEM.out HMB.out (HW.out a e (zE HAE2.out) HLE.out) (HWB.out a e (zE HAE2.out) HLE.out)).mono ?_); (case s1 => exact (show FlJ 77 gb A0 c0 rs A1 c1 ws (some ad5) c2 bs wide ⟨g0, e * 2, none⟩ p1 ⟨g0, e * 2, none⟩ p1 w2 _ from zH).2.2.2.2.2.2.out.1); rw [HCX.out]; rintro e3 w3 ⟨rfl, p⟩))
        all_goals
         have HB6 := az (show FlJ 77 gb A0 c0 rs A1 c1 ws (some ad5) c2 bs wide ⟨g0, e * 2, none⟩ p1 ⟨g0, e * 2, none⟩ p1 w2 _ from zH).2.2.2.2.2.2.out.2.1
         have HB7 := az (below_then HB2.out HB2.out.size HB6.out)
         have HT7 := az (HT2.out.below HB6.out)
         obtain ⟨z0, z1, z2, z3⟩ := HT7.out.cells HAL.out
         rw [updV_at] at z0 z1
         by_cases hv0 : v < 0
         ·
          have HST : Aside0 ((c, (e : Int)) = stepB bs (fitV W wide) (costV bs W wide) rs.length T a e (u, v)) := ⟨by unfold stepB; rw [if_neg HNG.out, HXC.out, if_pos (Or.inl hv0)]⟩
          go_wp2
          go_roundg (en + 1 - (e + 1))
          case measure => have := HLN.out; omega
          case rel => exact ⟨e + 1, c, (e : Int), by have h9 := HLE.out; have h8 := HN.out; first | go_num | (congr 1; unfold wrap64; omega), zE HAE2.out, Nat.le_refl _, ⟨by rw [← HQQ.out]; congr 1; exact HST.out⟩, ⟨by have h := HT7.out.set HAL.out c (e : Int); rw [updV_updV] at h; exact h⟩, ⟨(HB7.out.setCell (p := ⟨g0, a * 2, none⟩) HG0.out _).setCell (p := ⟨g0, a * 2 + 1, none⟩) HG0.out _⟩⟩
         ·
          by_cases hcu : c < u
          ·
           have HST : Aside0 ((c, (e : Int)) = stepB bs (fitV W wide) (costV bs W wide) rs.length T a e (u, v)) := ⟨by unfold stepB; rw [if_neg HNG.out, HXC.out, if_pos (Or.inr hcu)]⟩
           go_wp2
           go_roundg (en + 1 - (e + 1))
           case measure => have := HLN.out; omega
           case rel => exact ⟨e + 1, c, (e : Int), by have h9 := HLE.out; have h8 := HN.out; first | go_num | (congr 1; unfold wrap64; omega), zE HAE2.out, Nat.le_refl _, ⟨by rw [← HQQ.out]; congr 1; exact HST.out⟩, ⟨by have h := HT7.out.set HAL.out c (e : Int); rw [updV_updV] at h; exact h⟩, ⟨(HB7.out.setCell (p := ⟨g0, a * 2, none⟩) HG0.out _).setCell (p := ⟨g0, a * 2 + 1, none⟩) HG0.out _⟩⟩
          ·
           have HST : Aside0 ((u, v) = stepB bs (fitV W wide) (costV bs W wide) rs.length T a e (u, v)) := ⟨by unfold stepB; rw [if_neg HNG.out, HXC.out, if_neg (show ¬ (v < 0 ∨ c < u) by omega)]⟩
           go_wp2
           go_roundg (en + 1 - (e + 1))
           case measure => have := HLN.out; omega
           case rel => exact ⟨e + 1, u, v, by have h9 := HLE.out; have h8 := HN.out; first | go_num | (congr 1; unfold wrap64; omega), zE HAE2.out, Nat.le_refl _, ⟨by rw [← HQQ.out]; congr 1; exact HST.out⟩, HT7, HB7⟩
    ·
     have hlez : ¬ (e : Int) ≤ (en : Int) := by omega
     have hq := HF.out
     rw [show en + 1 - e = 0 by omega, rowB] at hq
     have HQQ := az hq
     clear hq HF hle
     go_wp2
     go_roundg (rs.length - (d + 1))
     case measure => have := HDL.out; omega
     case rel => exact ⟨d + 1, by have h9 := HAE.out; have h8 := HDL.out; have h7 := HN.out; first | go_num | (congr 1; unfold wrap64; omega), HDL.out, Nat.le_refl _, ⟨by rw [tabB, HAE.out, HTE.out, HEE.out, ← HQQ.out]; exact HT.out⟩, HB⟩
  ·
   obtain rfl : d = rs.length := by omega
   have hzz : (rs.length : Int) - 1 - (rs.length : Int) = -1 := by omega
   rw [hzz]
   obtain ⟨wo, hwo⟩ : ∃ wo, wo = wr := ⟨_, rfl⟩
   subst hwo
   have HTB2 : Aside0 (∀ j : Nat, True) := ⟨fun _ => trivial⟩
   obtain ⟨T, hT⟩ : ∃ T, (tabB bs (fitV W wide) (costV bs W wide) rs.length) rs.length = T := ⟨_, rfl⟩
   rw [hT] at HT HRR
   clear hlt hzz hT HTB HTB2 hd hg
   go_wp2_with ((with_reducible refine gate_dst (N := 100) rfl ?_); refine Kd.R_lit (Kd.int .i64) wo.heap.size 3 ?hg (N := 100) ?hd (xs := ([] : List Int)) (inner := []) (ok := fun _ => True) (okp := fun _ => True) ?hr ?hp (fun _ hk => hk) trivial (Below.refl _ _) (Nat.le_refl _) (by simp) ?_; (case hd => rfl); (case hg => rfl); (case hr => first | (go_simp; done) | (go_simp; rfl)); (case hp => exact (Reps.none _ _)); intro v1 w2 ho1 hb1 hg_ hnew_; clear hg_ hnew_; have HO1 := az ho1; have HB1 := az hb1; clear ho1 hb1)
   go_loopg [10, 11] rs.length (fun gg s10 s11 wr => ∃ (i g : Nat) (out : List Int), s11 = .int .i64 i ∧ i ≤ rs.length ∧ g ≤ gg ∧ Aside0 (∃ res, outB T rs.length g i = some res ∧ (if ok = true then some r else none) = res.map (fun l => out ++ l)) ∧ Aside0 (out.length + g ≤ rs.length) ∧ Aside0 (Kd.R (Kd.int .i64) 3 wr wo.heap.size (fun _ => True) s10 out) ∧ Aside0 (Below wo.heap.size wo wr))
   case atStart => exact ⟨0, rs.length, [], rfl, Nat.zero_le _, Nat.le_refl _, ⟨_, HRR.out, by cases ok <;> rfl⟩, ⟨by simp⟩, HO1, HB1⟩
   case round =>
    clear HRR HO1 HB1
    obtain ⟨i, g, out, rfl, hi, hg, HF, HLO, HO, HBX⟩ := hrel
    obtain ⟨res, hq, hres⟩ := HF.out
    have HTX := az (HT.out.below HBX.out)
    by_cases hlt : i < rs.length
    ·
     have hltz : (i : Int) < (rs.length : Int) := by omega
     have hi0 : (0 : Int) ≤ (i : Int) := by omega
     have hiz : (i : Int) < ((rs.length + 1 : Nat) : Int) := by omega
     obtain ⟨y0, y1, _, _⟩ := HTX.out.cells (i := i) (by omega)
     cases g with
     | zero => rw [outB, if_pos hlt] at hq; cases hq
     | succ g =>
     rw [outB, if_pos hlt] at hq
     obtain ⟨x, hx⟩ : ∃ x, (T i).2 = x := ⟨_, rfl⟩
     rw [hx] at hq y1
     by_cases hx0 : x < 0
     ·
      rw [if_pos hx0] at hq
      obtain rfl := Option.some.inj hq
      have HOK : Aside0 (ok = false ∧ r = []) := ⟨by
       cases ok
       · exact ⟨rfl, HR0.out rfl⟩
       · rw [if_pos rfl] at hres; cases hres⟩
      clear hq hres HF hx hlt
      go_wp2_with ((with_reducible refine gate_dst (N := 110) rfl ?_); refine Kd.R_lit (Kd.int .i64) wo.heap.size 3 ?hg (N := 110) ?hd (xs := ([] : List Int)) (inner := []) (ok := fun _ => True) (okp := fun _ => True) ?hr ?hp (fun _ hk => hk) trivial HBX.out HBX.out.size (by simp) ?_; (case hd => rfl); (case hg => rfl); (case hr => first | (go_simp; done) | (go_simp; rfl)); (case hp => exact (Reps.none _ _)); intro v2 w5 ho2 hb2 hg_ hnew_; clear hg_ hnew_; have HO2 := az ho2; have HB2 := az hb2; clear ho2 hb2)
      go_ret2
      exact ⟨_, by rw [HOK.out.1]; first | done | rfl, by rw [HOK.out.2, ← HGE.out]; exact Kd.R_lower HO2.out HB.out.size, by first | exact below_then HB.out HB.out.size HB2.out | (rw [← HGE.out]; exact below_then HB.out HB.out.size HB2.out)⟩
     ·
      rw [if_neg hx0] at hq
      by_cases hxn : x ≤ (rs.length : Int)
      case neg => rw [if_neg hxn] at hq; cases hq
      case pos =>
      rw [if_pos hxn] at hq
      replace hq := Option.bind_eq_some_iff.mp hq
      obtain ⟨l, hl, hq⟩ := hq
      obtain rfl := Option.some.inj hq
      obtain ⟨z, rfl⟩ : ∃ z : Nat, x = (z : Int) := ⟨x.toNat, by omega⟩
      rw [Int.toNat_natCast] at hl
      have HLL := az hl
      have HRE := az hres
      have HXB := az (show z ≤ rs.length by omega)
      have HGG := az hg
      clear hl hres hx hlt HF hg hxn
      go_wp2_with ((with_reducible refine gate_builtin (b := .append) (xs := #[.tmp 116, .tmp 118]) rfl ?_); at_builtin; go_must (refine appI (w0 := wo) (base := wo.heap.size) Tryz.underlying22 info3 rfl (.tmp 116) (.tmp 118) rfl _ out (z : Int) rfl rfl HO.out HBX.out HBX.out.size ?aL ?_); (case aL => have := HLO.out; have := HN.out; omega); intro v9 w9 ho9 hb9 hg9 hat9; have HO9 := az ho9; have HB9 := az hb9; clear ho9 hb9 hg9 hat9)
      go_roundg g
      case measure => have := HGG.out; omega
      case rel => exact ⟨z, g, _, rfl, HXB.out, Nat.le_refl _, ⟨l, HLL.out, by have h := HRE.out; rw [h]; cases l <;> simp⟩, ⟨by have := HLO.out; rw [List.length_append]; simp; omega⟩, HO9, HB9⟩
    ·
     have hltz : ¬ (i : Int) < (rs.length : Int) := by omega
     have HRE : Aside0 (ok = true ∧ out = r) := by
      have : res = some [] := by
       cases g with
       | zero => rw [outB, if_neg hlt] at hq; exact (Option.some.inj hq).symm
       | succ g => rw [outB, if_neg hlt] at hq; exact (Option.some.inj hq).symm
      subst this
      cases ok
      · rw [if_neg (by decide)] at hres; cases hres
      · rw [if_pos rfl] at hres; exact ⟨rfl, by have h := Option.some.inj hres; simpa using h.symm⟩
     clear hq hres HF hlt
     go_wp2
     go_ret2
     exact ⟨_, by rw [HRE.out.1]; first | done | rfl, by rw [← HRE.out.2, ← HGE.out]; exact Kd.R_lower HO.out HB.out.size, by first | exact below_then HB.out HB.out.size HBX.out | (rw [← HGE.out]; exact below_then HB.out HB.out.size HBX.out)⟩
def spec_l7Least.f (a0 : Int) (a1 : Int) : Option (Int) := if a0 < a1 then (some a0) else (some a1)
theorem spec_l7Least.calls (a0 : Int) (a1 : Int) (r : Int) (w : World) (h : spec_l7Least.f a0 a1 = some r) :
  Calls Tryz.prog 129 #[.int .i64 a0, .int .i64 a1] w fun e w' => e = .returned (.int .i64 r) ∧ Drawn0 w w' := by
 have H : (if a0 < a1 then (some a0) else (some a1)) = some r := h
 clear h
 by_cases c3 : a0 < a1
 ·
  rw [if_pos c3] at H
  have c3b0 : decide (a0 < a1) = true := decide_eq_true c3
  clear c3
  obtain rfl := Option.some.inj H
  go_enter Tryz.func129, Tryz.ntmps129
  go_wp2
  go_ret
  exact ⟨zB, zD⟩
 ·
  rw [if_neg c3] at H
  have c3b0 : decide (a0 < a1) = false := decide_eq_false c3
  clear c3
  obtain rfl := Option.some.inj H
  go_enter Tryz.func129, Tryz.ntmps129
  go_wp2
  go_ret
  exact ⟨zB, zD⟩
theorem forcedS_calls (k : Nat) (gb : Nat) (A0 : Option Addr) (c0 : Nat) (rs : List Int) (A1 : Option Addr) (c1 : Nat) (ws : List Int) (A2 : Option Addr) (c2 : Nat) (bs : List Int) (wide : Int) (W : Nat → Nat → Int) (J : Nat → Bool) (fr : Nat) (w : World) (hf : FlO 77 gb A0 c0 rs A1 c1 ws A2 c2 bs wide w) (hfr : fr ≤ rs.length) (hn : rs.length ≤ 1000) (hW : ∀ j : Nat, fr ≤ j → j ≤ rs.length → spec_l7Wide.f k rs ws (fr : Int) (j : Int) = some (W fr j)) (hJ : ∀ i : Nat, 0 < i → i < rs.length → spec_l2Joins.f k rs (i : Int) = some (J i)) :
  Calls Tryz.prog 130 #[.pointer (some ⟨gb, 0, none⟩), .int .i64 fr] w fun e w' => e = .returned (.int .i64 (forcedN (fitV W wide) J rs.length fr (rs.length - fr) (fr + 1) fr : Nat)) ∧ Below w.heap.size w w' := by
 have HS := az hf
 have HW := az hW
 have HJ := az hJ
 have HFR := az hfr
 clear hf hW hJ
 go_enter Tryz.func130, Tryz.ntmps130
 go_wp2
 go_loopg [5, 6] rs.length (fun gg s5 s6 wr => ∃ i tq : Nat, s5 = .int .i64 tq ∧ s6 = .int .i64 i ∧ i ≤ rs.length + 1 ∧ fr < i ∧ tq ≤ rs.length ∧ rs.length + 1 - i ≤ gg ∧ Aside0 (forcedN (fitV W wide) J rs.length fr (rs.length + 1 - i) i tq = forcedN (fitV W wide) J rs.length fr (rs.length - fr) (fr + 1) fr) ∧ Aside0 (Below w.heap.size w wr))
 case atStart => exact ⟨fr + 1, fr, rfl, by go_num, by omega, by omega, hfr, by omega, ⟨by rw [show rs.length + 1 - (fr + 1) = rs.length - fr by omega]⟩, ⟨Below.refl _ _⟩⟩
 case round =>
  obtain ⟨i, tq, rfl, rfl, hi, hi0, hto, hg, HF, HB⟩ := hrel
  have HQ := az (HS.out.below HB.out)
  have q0 := (blk_cell HQ.out.1 0).trans (show _ = some (Value.slice A0 rs.length c0) from rfl)
  have HFRI := az hi0
  by_cases hle : i ≤ rs.length
  ·
   have hlez : (i : Int) ≤ (rs.length : Int) := by omega
   have hq := HF.out
   rw [show rs.length + 1 - i = (rs.length + 1 - (i + 1)) + 1 by omega, forcedN] at hq
   clear HF
   have HLE := az hle
   have HTO := az hto
   clear hi hto hle
   by_cases hlt : i < rs.length
   ·
    have hltz : (i : Int) < (rs.length : Int) := by omega
    cases hj : J i
    case true =>
     rw [if_pos ⟨hlt, hj⟩] at hq
     have HJI := az (HJ.out i (by omega) hlt)
     rw [hj] at HJI
     have HQQ := az hq
     clear hq hlt hj
     go_wp2_with (go_at_call 124; go_must (refine (spec_l2Joins.calls k A0 c0 rs (i : Int) true _ HQ.out.2.1 HQ.out.2.2.1 HJI.out).mono ?_); rintro e w1 ⟨rfl, hb1⟩; have HB1 := az (below_then HB.out HB.out.size hb1); clear hb1)
     go_roundg (rs.length + 1 - (i + 1))
     case measure => have := HLE.out; omega
     case rel => exact ⟨i + 1, tq, rfl, by go_num, zE HLE.out, zE HFRI.out, HTO.out, Nat.le_refl _, HQQ, HB1⟩
    case false =>
     rw [if_neg (show ¬ (i < rs.length ∧ J i = true) from fun h => by rw [hj] at h; exact absurd h.2 (by decide))] at hq
     have HJI := az (HJ.out i (by omega) hlt)
     rw [hj] at HJI
     clear hlt hj
     by_cases hft : fr < tq
     ·
      have hftz : (fr : Int) < (tq : Int) := by omega
      cases hfi : fitV W wide fr i
      case true =>
       rw [if_neg (show ¬ (fr < tq ∧ fitV W wide fr i = false) from fun h => by rw [hfi] at h; exact absurd h.2 (by decide))] at hq
       have HFI := az hfi
       have HQQ := az hq
       clear hq hfi hft
       go_wp2_with (first | (go_at_call 124; go_must (refine (spec_l2Joins.calls k A0 c0 rs (i : Int) false _ HQ.out.2.1 HQ.out.2.2.1 HJI.out).mono ?_); rintro e w1 ⟨rfl, hb1⟩; have HB1 := az (below_then HB.out HB.out.size hb1); clear hb1) | (go_at_call 64; go_must (refine (fitsS_calls k gb A0 c0 rs A1 c1 ws A2 c2 bs wide (fr : Int) (i : Int) (W fr i) _ (HS.out.below HB1.out) (HW.out i (zE HFRI.out) HLE.out)).mono ?_); rw [(show decide (W fr i ≤ wide) = true from HFI.out)]; rintro e w2 ⟨rfl, hb2⟩; have HB2 := az (below_then HB1.out HB1.out.size hb2); clear hb2))
       go_roundg (rs.length + 1 - (i + 1))
       case measure => have := HLE.out; omega
       case rel => exact ⟨i + 1, i, rfl, by go_num, zE HLE.out, zE HFRI.out, HLE.out, Nat.le_refl _, HQQ, HB2⟩
      case false =>
       rw [if_pos ⟨hft, hfi⟩] at hq
       have HFI := az hfi
       have HQQ := az hq
       clear hq hfi hft
       go_wp2_with (first | (go_at_call 124; go_must (refine (spec_l2Joins.calls k A0 c0 rs (i : Int) false _ HQ.out.2.1 HQ.out.2.2.1 HJI.out).mono ?_); rintro e w1 ⟨rfl, hb1⟩; have HB1 := az (below_then HB.out HB.out.size hb1); clear hb1) | (go_at_call 64; go_must (refine (fitsS_calls k gb A0 c0 rs A1 c1 ws A2 c2 bs wide (fr : Int) (i : Int) (W fr i) _ (HS.out.below HB1.out) (HW.out i (zE HFRI.out) HLE.out)).mono ?_); rw [(show decide (W fr i ≤ wide) = false from HFI.out)]; rintro e w2 ⟨rfl, hb2⟩; have HB2 := az (below_then HB1.out HB1.out.size hb2); clear hb2))
       go_ret
       exact ⟨by rw [← HQQ.out]; first | done | rfl, HB2.out⟩
     ·
      have hftz : ¬ (fr : Int) < (tq : Int) := by omega
      rw [if_neg (show ¬ (fr < tq ∧ fitV W wide fr i = false) from fun h => hft h.1)] at hq
      have HQQ := az hq
      clear hq hft
      go_wp2_with (first | (go_at_call 124; go_must (refine (spec_l2Joins.calls k A0 c0 rs (i : Int) false _ HQ.out.2.1 HQ.out.2.2.1 HJI.out).mono ?_); rintro e w1 ⟨rfl, hb1⟩; have HB1 := az (below_then HB.out HB.out.size hb1); clear hb1))
      go_roundg (rs.length + 1 - (i + 1))
      case measure => have := HLE.out; omega
      case rel => exact ⟨i + 1, i, rfl, by go_num, zE HLE.out, zE HFRI.out, HLE.out, Nat.le_refl _, HQQ, HB1⟩
   ·
    have hltz : ¬ (i : Int) < (rs.length : Int) := by omega
    rw [if_neg (show ¬ (i < rs.length ∧ J i = true) from fun h => hlt h.1)] at hq
    clear hlt
    by_cases hft : fr < tq
    ·
     have hftz : (fr : Int) < (tq : Int) := by omega
     cases hfi : fitV W wide fr i
     case true =>
      rw [if_neg (show ¬ (fr < tq ∧ fitV W wide fr i = false) from fun h => by rw [hfi] at h; exact absurd h.2 (by decide))] at hq
      have HFI := az hfi
      have HQQ := az hq
      clear hq hfi hft
      go_wp2_with (first | (go_at_call 64; go_must (refine (fitsS_calls k gb A0 c0 rs A1 c1 ws A2 c2 bs wide (fr : Int) (i : Int) (W fr i) _ (HS.out.below HB.out) (HW.out i (zE HFRI.out) HLE.out)).mono ?_); rw [(show decide (W fr i ≤ wide) = true from HFI.out)]; rintro e w2 ⟨rfl, hb2⟩; have HB2 := az (below_then HB.out HB.out.size hb2); clear hb2))
      go_roundg (rs.length + 1 - (i + 1))
      case measure => have := HLE.out; omega
      case rel => exact ⟨i + 1, i, rfl, by go_num, zE HLE.out, zE HFRI.out, HLE.out, Nat.le_refl _, HQQ, HB2⟩
     case false =>
      rw [if_pos ⟨hft, hfi⟩] at hq
      have HFI := az hfi
      have HQQ := az hq
      clear hq hfi hft
      go_wp2_with (first | (go_at_call 64; go_must (refine (fitsS_calls k gb A0 c0 rs A1 c1 ws A2 c2 bs wide (fr : Int) (i : Int) (W fr i) _ (HS.out.below HB.out) (HW.out i (zE HFRI.out) HLE.out)).mono ?_); rw [(show decide (W fr i ≤ wide) = false from HFI.out)]; rintro e w2 ⟨rfl, hb2⟩; have HB2 := az (below_then HB.out HB.out.size hb2); clear hb2))
      go_ret
      exact ⟨by rw [← HQQ.out]; first | done | rfl, HB2.out⟩
    ·
     have hftz : ¬ (fr : Int) < (tq : Int) := by omega
     rw [if_neg (show ¬ (fr < tq ∧ fitV W wide fr i = false) from fun h => hft h.1)] at hq
     have HQQ := az hq
     clear hq hft
     go_wp2
     go_roundg (rs.length + 1 - (i + 1))
     case measure => have := HLE.out; omega
     case rel => exact ⟨i + 1, i, rfl, by go_num, zE HLE.out, zE HFRI.out, HLE.out, Nat.le_refl _, HQQ, HB⟩
  ·
   have hlez : ¬ (i : Int) ≤ (rs.length : Int) := by omega
   obtain rfl : i = rs.length + 1 := by omega
   have hq := HF.out
   rw [Nat.sub_self, forcedN] at hq
   have HQQ := az hq
   clear hq HF
   go_wp2
   go_ret
   exact ⟨by rw [← HQQ.out]; first | done | rfl, HB.out⟩
theorem nextS_calls (k : Nat) (gb : Nat) (A0 : Option Addr) (c0 : Nat) (rs : List Int) (A1 : Option Addr) (c1 : Nat) (ws : List Int) (A2 : Option Addr) (c2 : Nat) (bs : List Int) (wide : Int) (W : Nat → Nat → Int) (J : Nat → Bool) (fr : Nat) (w : World) (hf : FlO 77 gb A0 c0 rs A1 c1 ws A2 c2 bs wide w) (hfr : fr ≤ rs.length) (hn : rs.length ≤ 1000) (hbl : bs.length = rs.length) (hW : ∀ j : Nat, fr ≤ j → j ≤ rs.length → spec_l7Wide.f k rs ws (fr : Int) (j : Int) = some (W fr j)) (hJ : ∀ i : Nat, 0 < i → i < rs.length → spec_l2Joins.f k rs (i : Int) = some (J i)) :
  Calls Tryz.prog 97 #[.pointer (some ⟨gb, 0, none⟩), .int .i64 fr] w fun e w' => e = .returned (.int .i64 (nextV bs (fitV W wide) J rs.length fr)) ∧ Below w.heap.size w w' := by
 have HS := az hf
 have HW := az hW
 have HJ := az hJ
 have HFR := az hfr
 have HBL := az hbl
 have HN := az hn
 have HML := az (mustN_le bs rs.length (bs.length - fr) fr (by omega))
 clear hf hW hJ hbl hfr
 go_enter Tryz.func97, Tryz.ntmps97
 go_upto_region 2 with (go_at_call 65; go_must (refine (mustS_calls gb A0 c0 rs A1 c1 ws A2 c2 bs wide fr _ HS.out (zL HBL.out HFR.out) (zL HBL.out HN.out)).mono ?_); rintro e w1 ⟨rfl, hd1⟩; have HB0 := az hd1.below; clear hd1)
 have HME : Aside0 (mustV bs rs.length fr = mustN bs rs.length (bs.length - fr) fr) := ⟨rfl⟩
 obtain ⟨en, hen⟩ : ∃ en, mustV bs rs.length fr = en := ⟨_, rfl⟩
 have HEN := az (show en ≤ rs.length from hen ▸ HML.out)
 have HEE := az hen
 rw [hen]
 clear HML HME hen
 go_wp2
 go_loopg [6, 7] rs.length (fun gg s6 s7 wr => ∃ (i : Nat) (b : Int), s6 = .int .i64 b ∧ s7 = .int .i64 i ∧ fr < i ∧ en + 1 - i ≤ gg ∧ Aside0 (nextN bs (fitV W wide) fr (en + 1 - i) i b = nextN bs (fitV W wide) fr (en - fr) (fr + 1) (-1)) ∧ Aside0 (Below w.heap.size w wr))
 case atStart => exact ⟨fr + 1, -1, rfl, by have h9 := HFR.out; clear HEN HEE HB0; first | go_num | (congr 1; unfold wrap64; omega), by omega, zL HEN.out HFR.out, ⟨by rw [show en + 1 - (fr + 1) = en - fr by omega]⟩, HB0⟩
 case round =>
  obtain ⟨i, b, rfl, rfl, hi0, hg, HF, HB⟩ := hrel
  have HQ := az (HS.out.below HB.out)
  by_cases hle : i ≤ en
  ·
   have hlez : (i : Int) ≤ (en : Int) := by omega
   have hq := HF.out
   rw [show en + 1 - i = (en + 1 - (i + 1)) + 1 by omega, nextN] at hq
   obtain ⟨m, hm⟩ : ∃ m : Nat, i = m + 1 := ⟨i - 1, by omega⟩
   have hm0 : (0 : Int) ≤ (m : Int) := by omega
   have hmz : (m : Int) < (bs.length : Int) := by have := HEN.out; have := HBL.out; omega
   have q2 := (blk_cell HQ.out.1 2).trans (show _ = some (Value.slice A2 bs.length c2) from rfl)
   obtain ⟨ad5, hA5, hx5⟩ := Kd.at_int HQ.out.2.2.2.2.2.1 (m : Int) hm0 hmz
   have hxx : rd bs (m : Int) = bs.getD m 0 := by simp [rd]
   rw [hxx, Int.toNat_natCast] at hx5
   obtain ⟨y, hy⟩ : ∃ y, bs.getD m 0 = y := ⟨_, rfl⟩
   rw [show i - 1 = m by omega] at hq
   rw [hy] at hx5 hq
   subst hA5
   have h99 := HEN.out
   have hw1 : IntKind.i64.wrap ((i : Int) - 1) = (m : Int) := by rw [i64_w]; unfold wrap64; omega
   have hw2 : wrap64 ((i : Int) - 1) = (m : Int) := by unfold wrap64; omega
   have HLE := az (show i ≤ rs.length from (zE HEN.out))
   have HLN := az hle
   have HFRI := az hi0
   clear hxx hy hm hle HF
   by_cases hy0 : y = 0
   ·
    rw [if_neg (show ¬ (¬ y = 0 ∧ fitV W wide fr i = true) from fun h => h.1 hy0)] at hq
    have b0 : (y != 0) = false := bne_eq_false_iff_eq.mpr hy0
    have HQQ := az hq
    clear hq hy0
    go_wp2
    go_roundg (en + 1 - (i + 1))
    case measure => have := HLN.out; omega
    case rel => exact ⟨i + 1, b, rfl, by have h9 := HLE.out; first | go_num | (congr 1; unfold wrap64; omega), zE HFRI.out, Nat.le_refl _, HQQ, HB⟩
   ·
    have b0 : (y != 0) = true := bne_iff_ne.mpr hy0
    cases hfi : fitV W wide fr i
    case true =>
     rw [if_pos ⟨hy0, hfi⟩] at hq
     have HFI := az hfi
     have HQQ := az hq
     clear hq hy0 hfi
     go_wp2_with (go_at_call 64; go_must (refine (fitsS_calls k gb A0 c0 rs A1 c1 ws (some ad5) c2 bs wide (fr : Int) (i : Int) (W fr i) _ HQ.out (HW.out i (zE HFRI.out) HLE.out)).mono ?_); rw [(show decide (W fr i ≤ wide) = true from HFI.out)]; rintro e w2 ⟨rfl, hb2⟩; have HB2 := az (below_then HB.out HB.out.size hb2); clear hb2)
     go_roundg (en + 1 - (i + 1))
     case measure => have := HLN.out; omega
     case rel => exact ⟨i + 1, i, rfl, by have h9 := HLE.out; first | go_num | (congr 1; unfold wrap64; omega), zE HFRI.out, Nat.le_refl _, HQQ, HB2⟩
    case false =>
     rw [if_neg (show ¬ (¬ y = 0 ∧ fitV W wide fr i = true) from fun h => by rw [hfi] at h; exact absurd h.2 (by decide))] at hq
     have HFI := az hfi
     have HQQ := az hq
     clear hq hy0 hfi
     go_wp2_with (go_at_call 64; go_must (refine (fitsS_calls k gb A0 c0 rs A1 c1 ws (some ad5) c2 bs wide (fr : Int) (i : Int) (W fr i) _ HQ.out (HW.out i (zE HFRI.out) HLE.out)).mono ?_); rw [(show decide (W fr i ≤ wide) = false from HFI.out)]; rintro e w2 ⟨rfl, hb2⟩; have HB2 := az (below_then HB.out HB.out.size hb2); clear hb2)
     go_roundg (en + 1 - (i + 1))
     case measure => have := HLN.out; omega
     case rel => exact ⟨i + 1, b, rfl, by have h9 := HLE.out; first | go_num | (congr 1; unfold wrap64; omega), zE HFRI.out, Nat.le_refl _, HQQ, HB2⟩
  ·
   have hlez : ¬ (i : Int) ≤ (en : Int) := by omega
   have hq := HF.out
   rw [show en + 1 - i = 0 by omega, nextN] at hq
   have HQQ := az hq
   clear hq HF hle
   by_cases hb0 : 0 < b
   ·
    have HV : Aside0 (nextV bs (fitV W wide) J rs.length fr = b) := ⟨by unfold nextV; rw [HEE.out, ← HQQ.out, if_pos hb0]⟩
    go_wp2
    go_ret
    exact ⟨by rw [HV.out]; first | done | rfl, HB.out⟩
   ·
    obtain ⟨fv, hfv⟩ : ∃ fv, forcedN (fitV W wide) J rs.length fr (rs.length - fr) (fr + 1) fr = fv := ⟨_, rfl⟩
    have HV : Aside0 (nextV bs (fitV W wide) J rs.length fr = if (fv : Int) < (en : Int) then (fv : Int) else (en : Int)) := ⟨by unfold nextV; rw [HEE.out, ← HQQ.out, if_neg hb0, hfv]⟩
    have HFV := az hfv
    obtain ⟨mv, hmv⟩ : ∃ mv, (if (fv : Int) < (en : Int) then (fv : Int) else (en : Int)) = mv := ⟨_, rfl⟩
    rw [hmv] at HV
    have HLV : Aside0 (spec_l7Least.f (fv : Int) (en : Int) = some mv) := ⟨by rw [← hmv]; unfold spec_l7Least.f; split <;> rfl⟩
    clear hmv
    clear hfv
    go_wp2_with (first
     | (go_at_call 130; go_must (refine (forcedS_calls k gb A0 c0 rs A1 c1 ws A2 c2 bs wide W J fr _ HQ.out HFR.out HN.out HW.out HJ.out).mono ?_); rw [HFV.out]; rintro e w3 ⟨rfl, hb3⟩; have HB3 := az (below_then HB.out HB.out.size hb3); clear hb3)
     | (go_at_call 129; go_must (refine (spec_l7Least.calls (fv : Int) (en : Int) _ _ HLV.out).mono ?_); rintro e w4 ⟨rfl, hd4⟩; have HB4 := az (below_then HB3.out HB3.out.size hd4.below); clear hd4))
    go_ret
    exact ⟨by rw [HV.out]; first | done | rfl, HB4.out⟩
theorem greedyS_calls (k : Nat) (gb : Nat) (A0 : Option Addr) (c0 : Nat) (rs : List Int) (A1 : Option Addr) (c1 : Nat) (ws : List Int) (A2 : Option Addr) (c2 : Nat) (bs : List Int) (wide : Int) (W : Nat → Nat → Int) (J : Nat → Bool) (r : List Int) (w : World) (hf : FlO 77 gb A0 c0 rs A1 c1 ws A2 c2 bs wide w) (hn : rs.length ≤ 1000) (hbl : bs.length = rs.length) (hW : ∀ i j : Nat, i ≤ j → j ≤ rs.length → spec_l7Wide.f k rs ws (i : Int) (j : Int) = some (W i j)) (hJ : ∀ i : Nat, 0 < i → i < rs.length → spec_l2Joins.f k rs (i : Int) = some (J i)) (hr : greedyN (nextV bs (fitV W wide) J rs.length) rs.length rs.length 0 = some r) :
  Calls Tryz.prog 71 #[.pointer (some ⟨gb, 0, none⟩)] w fun e w' => ∃ v0_ : Value, e = .returned v0_ ∧ Kd.R (Kd.int .i64) 3 w' w.heap.size (fun _ => True) v0_ r ∧ Below w.heap.size w w' := by
 have HS := az hf
 have HW := az hW
 have HJ := az hJ
 have HBL := az hbl
 have HN := az hn
 have HRR := az hr
 clear hf hW hJ hbl hr
 go_enter Tryz.func71, Tryz.ntmps71
 go_wp2_with ((with_reducible refine gate_dst (N := 5) rfl ?_); refine Kd.R_lit (Kd.int .i64) w.heap.size 3 ?hg (N := 5) ?hd (xs := ([] : List Int)) (inner := []) (ok := fun _ => True) (okp := fun _ => True) ?hr ?hp (fun _ hk => hk) trivial (Below.refl _ _) (Nat.le_refl _) (by simp) ?_; (case hd => rfl); (case hg => rfl); (case hr => first | (go_simp; done) | (go_simp; rfl)); (case hp => exact (Reps.none _ _)); intro v1 w1 ho1 hb1 hg_ hnew_; clear hg_ hnew_; have HO1 := az ho1; have HB1 := az hb1; clear ho1 hb1)
 go_loopg [3, 4] rs.length (fun gg s3 s4 wr => ∃ (i g : Nat) (out : List Int), s4 = .int .i64 i ∧ i ≤ rs.length ∧ g ≤ gg ∧ Aside0 (∃ rest, greedyN (nextV bs (fitV W wide) J rs.length) rs.length g i = some rest ∧ out ++ rest = r) ∧ Aside0 (out.length + g ≤ rs.length) ∧ Aside0 (Kd.R (Kd.int .i64) 3 wr w.heap.size (fun _ => True) s3 out) ∧ Aside0 (Below w.heap.size w wr))
 case atStart => exact ⟨0, rs.length, [], rfl, Nat.zero_le _, Nat.le_refl _, ⟨_, HRR.out, rfl⟩, ⟨by simp⟩, HO1, HB1⟩
 case round =>
  clear HRR HO1 HB1
  obtain ⟨i, g, out, rfl, hi, hg, HF, HLO, HO, HB⟩ := hrel
  obtain ⟨rest, hq, hrest⟩ := HF.out
  have HQ := az (HS.out.below HB.out)
  have q0 := (blk_cell HQ.out.1 0).trans (show _ = some (Value.slice A0 rs.length c0) from rfl)
  by_cases hlt : i < rs.length
  ·
   have hltz : (i : Int) < (rs.length : Int) := by omega
   cases g with
   | zero => rw [greedyN, if_pos hlt] at hq; cases hq
   | succ g =>
   rw [greedyN, if_pos hlt] at hq
   by_cases hb : 0 ≤ nextV bs (fitV W wide) J rs.length i ∧ nextV bs (fitV W wide) J rs.length i ≤ (rs.length : Int)
   case neg => rw [if_neg hb] at hq; cases hq
   case pos =>
   rw [if_pos hb] at hq
   replace hq := Option.bind_eq_some_iff.mp hq
   obtain ⟨l, hl, hq⟩ := hq
   obtain rfl := Option.some.inj hq
   obtain ⟨x, hx⟩ : ∃ x : Nat, nextV bs (fitV W wide) J rs.length i = x := ⟨(nextV bs (fitV W wide) J rs.length i).toNat, by omega⟩
   rw [hx, Int.toNat_natCast] at hl
   rw [hx] at hb hrest
   have HXV := az hx
   have HXB := az hb.2
   have HLL := az hl
   have HRE := az hrest
   have HIL := az hi
   have HGG := az hg
   clear hx hb hl hrest hlt HF hg
   go_wp2_with (first
    | (go_at_call 97; go_must (refine (nextS_calls k gb A0 c0 rs A1 c1 ws A2 c2 bs wide W J i _ HQ.out HIL.out HN.out HBL.out (fun j h1 h2 => HW.out i j h1 h2) HJ.out).mono ?_); rw [HXV.out]; rintro e w2 ⟨rfl, hb2⟩; have HO2 := az (Kd.R_below HO.out hb2); have HB2 := az (below_then HB.out HB.out.size hb2); clear hb2)
    | ((with_reducible refine gate_builtin (b := .append) (xs := #[.tmp 16, .tmp 18]) rfl ?_); at_builtin; go_must (refine appI (w0 := w) (base := w.heap.size) Tryz.underlying22 info3 rfl (.tmp 16) (.tmp 18) rfl _ out (x : Int) rfl rfl HO2.out HB2.out HB2.out.size ?aL ?_); (case aL => have := HLO.out; have := HN.out; omega); intro v9 w9 ho9 hb9 hg9 hat9; have HO9 := az ho9; have HB9 := az hb9; clear ho9 hb9 hg9 hat9))
   go_roundg g
   case measure => have := HGG.out; omega
   case rel => exact ⟨x, g, _, rfl, zE HXB.out, Nat.le_refl _, ⟨l, HLL.out, by rw [List.append_assoc]; exact HRE.out⟩, ⟨by have := HLO.out; rw [List.length_append]; simp; omega⟩, HO9, HB9⟩
  ·
   have hltz : ¬ (i : Int) < (rs.length : Int) := by omega
   have HRE : Aside0 (out = r) := by
    have : rest = [] := by
     cases g with
     | zero => rw [greedyN, if_neg hlt] at hq; exact (Option.some.inj hq).symm
     | succ g => rw [greedyN, if_neg hlt] at hq; exact (Option.some.inj hq).symm
    subst this
    exact ⟨by rw [← hrest, List.append_nil]⟩
   clear hq hrest HF
   go_wp2
   go_ret
   exact ⟨_, rfl, by rw [← HRE.out]; exact HO.out, HB.out⟩
end Go.Proofs.YtmcdcogedcbndaaGreat.S
