/- The program's LevelRuns answers as the reference's, for every list of whole numbers and every level at first; it writes into no argument and its answer is memory of its own, row by row. No condition beyond the statement's own. (text 2 of 5 of this claim: functions of the program and of the reference as plain Lean functions, what a call of each comes to, and what follows.) -/
import Derived.Test.YtojehfdioeglgaaZFnExactLevelRunsA0
set_option maxHeartbeats 16000000
set_option maxRecDepth 100000
namespace Go.Proofs.Ytojehfdioeglgaa.S
open Go.RowKit Go.Proofs.YtojehfdioeglgaaW.PrintWords Go.Proofs.YtojehfdioeglgaaW.PrintLast
set_option linter.unusedVariables false
set_option linter.unusedSimpArgs false
mutual
def spec_l3Run.l0 : Nat → List Int → Int → List Int → Int → Option (List Int)
 | 0, _, _, _, _ => none
 | k + 1, x0, x1, x5, x6 => if x6 < (x0.length : Int) then (if 0 ≤ x6 then (if (rd x0 x6) < 0 then (spec_l3Run.j1 k x0 x1 x5 x6 true) else (if 0 ≤ x1 then (if x1 < (x0.length : Int) then (spec_l3Run.j1 k x0 x1 x5 x6 ((rd x0 x6) == (rd x0 x1))) else (none)) else (none))) else (none)) else (spec_l3Run.j1 k x0 x1 x5 x6 false)
def spec_l3Run.j1 : Nat → List Int → Int → List Int → Int → Bool → Option (List Int)
 | 0, _, _, _, _, _ => none
 | k + 1, x0, x1, x5, x6, x30 => if x30 = true then (if 0 ≤ x6 then (if x6 < (x0.length : Int) then (if (rd x0 x6) ≥ 0 then (if x5.length < 17592186044416 then (spec_l3Run.l0 k x0 x1 (x5 ++ [x6]) (wrap64 (x6 + 1))) else (none)) else (spec_l3Run.l0 k x0 x1 x5 (wrap64 (x6 + 1)))) else (none)) else (none)) else (some x5)
end
def spec_l3Run.f (k : Nat) (l0 : List Int) (a1 : Int) : Option (List Int) := spec_l3Run.l0 k l0 a1 (([] : List Int)) a1
theorem spec_l3Run.mono_l : ∀ k, (∀ y0 y1 y2 y3, LeO (spec_l3Run.l0 k y0 y1 y2 y3) (spec_l3Run.l0 (k + 1) y0 y1 y2 y3)) ∧ (∀ y0 y1 y2 y3 y4, LeO (spec_l3Run.j1 k y0 y1 y2 y3 y4) (spec_l3Run.j1 (k + 1) y0 y1 y2 y3 y4))
 | 0 => ⟨fun _ _ _ _ r h => by simp [spec_l3Run.l0] at h, fun _ _ _ _ _ r h => by simp [spec_l3Run.j1] at h⟩
 | k + 1 => by
  obtain ⟨ih0, ih1⟩ := spec_l3Run.mono_l k; refine ⟨?_, ?_⟩
  ·
   intro y0 y1 y2 y3; unfold spec_l3Run.l0
   repeat' first
   | (with_reducible exact ih0 _ _ _ _)
   | (with_reducible exact ih1 _ _ _ _ _)
   | (with_reducible exact LeO.refl _)
   | (with_reducible exact LeO.none _)
   | (with_reducible refine LeO.ite ?_ ?_)
   | (with_reducible refine LeO.bind ?_ (fun _ => ?_))
   | exact ih0 _ _ _ _
   | exact ih1 _ _ _ _ _
   | exact LeO.none _
   | refine LeO.ite ?_ ?_
   | refine LeO.bind ?_ (fun _ => ?_)
  ·
   intro y0 y1 y2 y3 y4; unfold spec_l3Run.j1
   repeat' first
   | (with_reducible exact ih0 _ _ _ _)
   | (with_reducible exact ih1 _ _ _ _ _)
   | (with_reducible exact LeO.refl _)
   | (with_reducible exact LeO.none _)
   | (with_reducible refine LeO.ite ?_ ?_)
   | (with_reducible refine LeO.bind ?_ (fun _ => ?_))
   | exact ih0 _ _ _ _
   | exact ih1 _ _ _ _ _
   | exact LeO.none _
   | refine LeO.ite ?_ ?_
   | refine LeO.bind ?_ (fun _ => ?_)
theorem spec_l3Run.mono : ∀ a0 a1 k, LeO (spec_l3Run.f k a0 a1) (spec_l3Run.f (k + 1) a0 a1) := by
 intro a0 a1 k; obtain ⟨ih0, ih1⟩ := spec_l3Run.mono_l k; unfold spec_l3Run.f
 repeat' first
   | (with_reducible exact ih0 _ _ _ _)
   | (with_reducible exact ih1 _ _ _ _ _)
   | (with_reducible exact LeO.refl _)
   | (with_reducible exact LeO.none _)
   | (with_reducible refine LeO.ite ?_ ?_)
   | (with_reducible refine LeO.bind ?_ (fun _ => ?_))
   | exact ih0 _ _ _ _
   | exact ih1 _ _ _ _ _
   | exact LeO.none _
   | refine LeO.ite ?_ ?_
   | refine LeO.bind ?_ (fun _ => ?_)
theorem spec_l3Run.calls (k : Nat) (A0 : Option Addr) (c0 : Nat) (l0 : List Int) (a1 : Int) (r : List Int) (w : World) (hr0 : Kd.C (Kd.int .i64) w A0 l0.length l0) (hc0 : l0.length ≤ c0) (h : spec_l3Run.f k l0 a1 = some r) :
  Calls Try.prog 82 #[.slice A0 l0.length c0, .int .i64 a1] w fun e w' => ∃ v0_ : Value, e = .returned (v0_) ∧ Kd.R (Kd.int .i64) 3 w' w.heap.size (fun _ => True) v0_ r ∧ Below w.heap.size w w' := by
 have HR0 := az hr0; have HC0 := az hc0; clear hr0 hc0; have HB := az (Below.refl w.heap.size w); have H : (spec_l3Run.l0 k l0 a1 (([] : List Int)) a1) = some r := h; clear h; obtain ⟨y509, hy509⟩ : ∃ y_ : List Int, y_ = (([] : List Int)) := ⟨_, rfl⟩; replace H : (spec_l3Run.l0 k l0 a1 y509 a1) = some r := by first | (rw [hy509]; with_reducible exact H) | (have H2_ := (Option.bind_some _ _).symm.trans H; rw [hy509]; with_reducible exact H2_) | (have H2_ := (Option.bind_some _ _).symm.trans H; with_reducible exact H2_) | with_reducible exact H | (rw [hy509]; exact H) | exact H
 have Ny509 := az hy509; clear hy509; have H' := az H; clear H; go_enter Try.func82, Try.ntmps82; go_wp2_with (first | ((with_reducible refine gate_dst (N := 7) rfl ?_); refine Kd.R_lit (Kd.int .i64) _ 3 ?hg (N := 7) ?hd (xs := ([] : List Int)) (inner := []) (ok := fun _ => True) (okp := fun _ => True) ?hr ?hp (fun _ hk => hk) trivial (Below.refl _ _) (Nat.le_refl _) (by simp) ?_; (case hd => rfl); (case hg => rfl); (case hr => first | (go_simp; done) | (go_simp; rfl)); (case hp => exact (Reps.none _ _)); intro v510 w3 ho4 hb hg_ hnew_; clear hg_ hnew_; (first | rw [← Ny509.out] at ho4 | (simp only [Int.reduceToNat] at ho4; rw [← Ny509.out] at ho4)); have n0_ := az (Kd.R_lower ho4 (below_size (by repeat (first | (with_reducible first | exact HB.out | apply below_alloc | apply pw_below_drewN | apply below_drew1) | exact HB.out)))); have n1_ := az (below_step (by repeat (first | (with_reducible first | exact HB.out | apply below_alloc | apply pw_below_drewN | apply below_drew1) | exact HB.out)) hb); clear HB; have HO511 := n0_; have HB := n1_; clear n0_ n1_; clear hb ho4)); repeat (go_quiet (first | ((with_reducible refine gate_dst (N := 7) rfl ?_); refine Kd.R_lit (Kd.int .i64) _ 3 ?hg (N := 7) ?hd (xs := ([] : List Int)) (inner := []) (ok := fun _ => True) (okp := fun _ => True) ?hr ?hp (fun _ hk => hk) trivial (Below.refl _ _) (Nat.le_refl _) (by simp) ?_; (case hd => rfl); (case hg => rfl); (case hr => first | (go_simp; done) | (go_simp; rfl)); (case hp => exact (Reps.none _ _)); intro v510 w3 ho4 hb hg_ hnew_; clear hg_ hnew_; (first | rw [← Ny509.out] at ho4 | (simp only [Int.reduceToNat] at ho4; rw [← Ny509.out] at ho4)); have n0_ := az (Kd.R_lower ho4 (below_size (by repeat (first | (with_reducible first | exact HB.out | apply below_alloc | apply pw_below_drewN | apply below_drew1) | exact HB.out)))); have n1_ := az (below_step (by repeat (first | (with_reducible first | exact HB.out | apply below_alloc | apply pw_below_drewN | apply below_drew1) | exact HB.out)) hb); clear HB; have HO511 := n0_; have HB := n1_; clear n0_ n1_; clear hb ho4)); try go_wp2_with (first | ((with_reducible refine gate_dst (N := 7) rfl ?_); refine Kd.R_lit (Kd.int .i64) _ 3 ?hg (N := 7) ?hd (xs := ([] : List Int)) (inner := []) (ok := fun _ => True) (okp := fun _ => True) ?hr ?hp (fun _ hk => hk) trivial (Below.refl _ _) (Nat.le_refl _) (by simp) ?_; (case hd => rfl); (case hg => rfl); (case hr => first | (go_simp; done) | (go_simp; rfl)); (case hp => exact (Reps.none _ _)); intro v510 w3 ho4 hb hg_ hnew_; clear hg_ hnew_; (first | rw [← Ny509.out] at ho4 | (simp only [Int.reduceToNat] at ho4; rw [← Ny509.out] at ho4)); have n0_ := az (Kd.R_lower ho4 (below_size (by repeat (first | (with_reducible first | exact HB.out | apply below_alloc | apply pw_below_drewN | apply below_drew1) | exact HB.out)))); have n1_ := az (below_step (by repeat (first | (with_reducible first | exact HB.out | apply below_alloc | apply pw_below_drewN | apply below_drew1) | exact HB.out)) hb); clear HB; have HO511 := n0_; have HB := n1_; clear n0_ n1_; clear hb ho4)))
 go_loopg [5, 6] k (fun kq v5 v6 w' => ∃ (x5_1 : List Int) (x6_1 : Int), v6 = .int .i64 x6_1 ∧ Aside0 (spec_l3Run.l0 kq l0 a1 x5_1 x6_1 = some r) ∧ Aside0 (kq ≤ k) ∧ Aside0 (Kd.R (Kd.int .i64) 3 w' w.heap.size (fun _ => True) v5 x5_1) ∧ Aside0 (Below w.heap.size w w'))
 case atStart => exact ⟨(y509), (a1), (by first | rfl | (simp; done) | (simp [*]; done)), H', ⟨Nat.le_refl _⟩, ⟨by (with_reducible repeat (first | apply Kd.R_alloc | apply Kd.R_drewN | apply Kd.R_drew)); exact HO511.out⟩, ⟨by repeat (first | (with_reducible first | exact HB.out | apply below_alloc | apply pw_below_drewN | apply below_drew1) | exact HB.out)⟩⟩
 case round =>
  clear H'; (try clear p2); obtain ⟨x5_1, x6_1, rfl, HA, HK1, HO_5, HB⟩ := hrel
  cases gk with
  | zero => exact absurd HA.out (by simp [spec_l3Run.l0])
  | succ k1 =>
   have H := HA.out; clear HA; simp only [spec_l3Run.l0] at H; have HC5 := az H; clear H; go_upto_region 3 with (fail)
   repeat (go_quiet (fail); go_upto_region 3 with (fail))
   go_cut [30] (fun v30 wc => ∃ (kq : Nat) (x30_4 : Bool), v30 = .bool x30_4 ∧ Aside0 (spec_l3Run.j1 kq l0 a1 x5_1 x6_1 x30_4 = some r) ∧ Aside0 (kq ≤ k1) ∧ Aside0 (Kd.R (Kd.int .i64) 3 wc w.heap.size (fun _ => True) u5 x5_1) ∧ Aside0 (Below w.heap.size w wc))
   case first =>
    have H := HC5.out; clear HC5; by_cases c6 : x6_1 < (l0.length : Int)
    ·
     rw [if_pos c6] at H; have c6b0 : decide (x6_1 < (l0.length : Int)) = true := decide_eq_true c6; clear c6; (first | rw [c6b0] | (simp only [i64_w, i32_w]; rw [c6b0]) | skip); by_cases c7 : 0 ≤ x6_1
     ·
      rw [if_pos c7] at H; have c7b0 : decide (0 ≤ x6_1) = true := decide_eq_true c7; clear c7; by_cases c8 : (rd l0 x6_1) < 0
      ·
       rw [if_pos c8] at H; have c8b0 : decide ((rd l0 x6_1) < 0) = true := decide_eq_true c8; clear c8; have H' := az H; clear H; have p512 : 0 ≤ (x6_1 : Int) := of_decide_eq_true (by assumption); have q512 : x6_1 < (l0.length : Int) := of_decide_eq_true (by assumption); obtain ⟨ad512, e512, hx512_0⟩ := Kd.at_int HR0.out x6_1 p512 q512
       cases e512
       replace hx512_0 := (HB.out.cell (World.block_lt_of_cell? w _ hx512_0)).trans hx512_0; replace p512 := eq_true p512; replace q512 := eq_true q512; go_wp2; repeat (go_quiet (fail); try go_wp2)
       go_meet
       case rel => exact ⟨_, (true), (by first | rfl | (simp; done) | (simp [*]; done)), H', ⟨by have := HK1.out; first | omega | exact Nat.le_refl _⟩, ⟨by (with_reducible repeat (first | apply Kd.R_alloc | apply Kd.R_drewN | apply Kd.R_drew)); exact HO_5.out⟩, ⟨by repeat (first | (with_reducible first | exact HB.out | apply below_alloc | apply pw_below_drewN | apply below_drew1) | exact HB.out)⟩⟩
      ·
       rw [if_neg c8] at H; have c8b0 : decide ((rd l0 x6_1) < 0) = false := decide_eq_false c8; clear c8; by_cases c9 : 0 ≤ a1
       ·
        rw [if_pos c9] at H; have c9b0 : decide (0 ≤ a1) = true := decide_eq_true c9; clear c9; by_cases c10 : a1 < (l0.length : Int)
        ·
         rw [if_pos c10] at H; have c10b0 : decide (a1 < (l0.length : Int)) = true := decide_eq_true c10; clear c10; have H' := az H; clear H; have p512 : 0 ≤ (x6_1 : Int) := of_decide_eq_true (by assumption); have q512 : x6_1 < (l0.length : Int) := of_decide_eq_true (by assumption); obtain ⟨ad512, e512, hx512_0⟩ := Kd.at_int HR0.out x6_1 p512 q512
         cases e512
         replace hx512_0 := (HB.out.cell (World.block_lt_of_cell? w _ hx512_0)).trans hx512_0; replace p512 := eq_true p512; replace q512 := eq_true q512; have p513 : 0 ≤ (x6_1 : Int) := of_decide_eq_true (by assumption); have q513 : x6_1 < (l0.length : Int) := of_decide_eq_true (by assumption); obtain ⟨ad513, e513, hx513_0⟩ := Kd.at_int HR0.out x6_1 p513 q513; obtain rfl : ad512 = ad513 := (by injection e513); replace hx513_0 := (HB.out.cell (World.block_lt_of_cell? w _ hx513_0)).trans hx513_0; replace p513 := eq_true p513; replace q513 := eq_true q513; have p514 : 0 ≤ (a1 : Int) := of_decide_eq_true (by assumption); have q514 : a1 < (l0.length : Int) := of_decide_eq_true (by assumption); obtain ⟨ad514, e514, hx514_0⟩ := Kd.at_int HR0.out a1 p514 q514; obtain rfl : ad512 = ad514 := (by injection e514); replace hx514_0 := (HB.out.cell (World.block_lt_of_cell? w _ hx514_0)).trans hx514_0; replace p514 := eq_true p514; replace q514 := eq_true q514; go_wp2; repeat (go_quiet (fail); try go_wp2)
         go_meet
         case rel => exact ⟨_, (((rd l0 x6_1) == (rd l0 a1))), (by first | rfl | (simp; done) | (simp [*]; done)), H', ⟨by have := HK1.out; first | omega | exact Nat.le_refl _⟩, ⟨by (with_reducible repeat (first | apply Kd.R_alloc | apply Kd.R_drewN | apply Kd.R_drew)); exact HO_5.out⟩, ⟨by repeat (first | (with_reducible first | exact HB.out | apply below_alloc | apply pw_below_drewN | apply below_drew1) | exact HB.out)⟩⟩
        ·
         rw [if_neg c10] at H; exact absurd H (by simp)
       ·
        rw [if_neg c9] at H; exact absurd H (by simp)
     ·
      rw [if_neg c7] at H; exact absurd H (by simp)
    ·
     rw [if_neg c6] at H; have c6b0 : decide (x6_1 < (l0.length : Int)) = false := decide_eq_false c6; clear c6; (first | rw [c6b0] | (simp only [i64_w, i32_w]; rw [c6b0]) | skip); have H' := az H; clear H; go_wp2; repeat (go_quiet (fail); try go_wp2)
     go_meet
     case rel => exact ⟨_, (false), (by first | rfl | (simp; done) | (simp [*]; done)), H', ⟨by have := HK1.out; first | omega | exact Nat.le_refl _⟩, ⟨by (with_reducible repeat (first | apply Kd.R_alloc | apply Kd.R_drewN | apply Kd.R_drew)); exact HO_5.out⟩, ⟨by repeat (first | (with_reducible first | exact HB.out | apply below_alloc | apply pw_below_drewN | apply below_drew1) | exact HB.out)⟩⟩
   case rest =>
    clear HC5; (try clear c1); (try clear p2); (try clear p5); (try clear q5); (try clear hx5); (try clear c6); (try clear c6b0); (try clear c7); (try clear c7b0); (try clear c8); (try clear c8b0); (try clear c9); (try clear c9b0); (try clear c10); (try clear c10b0); (try clear hx512_0); (try clear hx513_0); (try clear hx514_0); (try clear p2); (try clear p512); (try clear p513); (try clear p514); (try clear q512); (try clear q513); (try clear q514); obtain ⟨kq, x30_4, rfl, HA, HJ4, HO_5, HB⟩ := hcut
    cases kq with
    | zero => exact absurd HA.out (by simp [spec_l3Run.j1])
    | succ kj4 =>
     have H := HA.out; clear HA; simp only [spec_l3Run.j1] at H; by_cases c11 : x30_4 = true
     ·
      subst c11; have H1 : (if 0 ≤ x6_1 then (if x6_1 < (l0.length : Int) then (if (rd l0 x6_1) ≥ 0 then (if x5_1.length < 17592186044416 then (spec_l3Run.l0 kj4 l0 a1 (x5_1 ++ [x6_1]) (wrap64 (x6_1 + 1))) else (none)) else (spec_l3Run.l0 kj4 l0 a1 x5_1 (wrap64 (x6_1 + 1)))) else (none)) else (none)) = some r := by rw [if_pos rfl] at H; exact H
      clear H; have H := H1; clear H1; by_cases c12 : 0 ≤ x6_1
      ·
       rw [if_pos c12] at H; have c12b0 : decide (0 ≤ x6_1) = true := decide_eq_true c12; clear c12; by_cases c13 : x6_1 < (l0.length : Int)
       ·
        rw [if_pos c13] at H; have c13b0 : decide (x6_1 < (l0.length : Int)) = true := decide_eq_true c13; clear c13; by_cases c14 : (rd l0 x6_1) ≥ 0
        ·
         rw [if_pos c14] at H; have c14b0 : decide (0 ≤ (rd l0 x6_1)) = true := decide_eq_true c14; clear c14; by_cases c15 : x5_1.length < 17592186044416
         ·
          rw [if_pos c15] at H; have LMc15 := az c15; clear c15; obtain ⟨y516, hy516⟩ : ∃ y_ : List Int, y_ = (x5_1 ++ [x6_1]) := ⟨_, rfl⟩; replace H : (spec_l3Run.l0 kj4 l0 a1 y516 (wrap64 (x6_1 + 1))) = some r := by first | (rw [hy516]; with_reducible exact H) | (have H2_ := (Option.bind_some _ _).symm.trans H; rw [hy516]; with_reducible exact H2_) | (have H2_ := (Option.bind_some _ _).symm.trans H; with_reducible exact H2_) | with_reducible exact H | (rw [hy516]; exact H) | exact H
          have Ny516 := az hy516; clear hy516; have H' := az H; clear H; have p515 : 0 ≤ (x6_1 : Int) := of_decide_eq_true (by assumption); have q515 : x6_1 < (l0.length : Int) := of_decide_eq_true (by assumption); obtain ⟨ad515, e515, hx515_0⟩ := Kd.at_int HR0.out x6_1 p515 q515
          cases e515
          replace hx515_0 := (HB.out.cell (World.block_lt_of_cell? w _ hx515_0)).trans hx515_0; replace p515 := eq_true p515; replace q515 := eq_true q515; go_wp2_with (first | ((with_reducible refine gate_builtin (b := .append) (xs := #[.tmp 38, .tmp 40]) rfl ?_); at_builtin; refine Kd.R_append (Kd.int .i64) (w0 := w) w.heap.size rfl (.tmp 38) (.tmp 40) 22 3 (.int .i64 0) 8 rfl Try.underlying22 info3 rfl (by decide) (by omega) u5 x5_1 x6_1 [.int .i64 x6_1] (fun _ => True) (fun _ => False) rfl rfl ?aP (fun _ hk => hk.elim) ?aF ?aO ?aB ?aS ?aL ?_; (case aP => exact rfl); (case aB => exact (by repeat (first | (with_reducible first | exact HB.out | apply below_alloc | apply pw_below_drewN | apply below_drew1) | exact HB.out))); (case aF => exact (fun _ _ => trivial)); (case aO => exact (by (with_reducible repeat (first | apply Kd.R_alloc | apply Kd.R_drewN | apply Kd.R_drew)); exact HO_5.out)); (case aS => exact (below_size (by repeat (first | (with_reducible first | exact HB.out | apply below_alloc | apply pw_below_drewN | apply below_drew1) | exact HB.out)))); (case aL => have := LMc15.out; omega); intro v517 w16 ho hb hg hat; rw [← Ny516.out] at ho; have n0_ := az (hb); have n1_ := az (ho); clear HB; clear HO_5; have HB := n0_; have HO518 := n1_; clear n0_ n1_; clear ho hb hg hat)); repeat (go_quiet (first | ((with_reducible refine gate_builtin (b := .append) (xs := #[.tmp 38, .tmp 40]) rfl ?_); at_builtin; refine Kd.R_append (Kd.int .i64) (w0 := w) w.heap.size rfl (.tmp 38) (.tmp 40) 22 3 (.int .i64 0) 8 rfl Try.underlying22 info3 rfl (by decide) (by omega) u5 x5_1 x6_1 [.int .i64 x6_1] (fun _ => True) (fun _ => False) rfl rfl ?aP (fun _ hk => hk.elim) ?aF ?aO ?aB ?aS ?aL ?_; (case aP => exact rfl); (case aB => exact (by repeat (first | (with_reducible first | exact HB.out | apply below_alloc | apply pw_below_drewN | apply below_drew1) | exact HB.out))); (case aF => exact (fun _ _ => trivial)); (case aO => exact (by (with_reducible repeat (first | apply Kd.R_alloc | apply Kd.R_drewN | apply Kd.R_drew)); exact HO_5.out)); (case aS => exact (below_size (by repeat (first | (with_reducible first | exact HB.out | apply below_alloc | apply pw_below_drewN | apply below_drew1) | exact HB.out)))); (case aL => have := LMc15.out; omega); intro v517 w16 ho hb hg hat; rw [← Ny516.out] at ho; have n0_ := az (hb); have n1_ := az (ho); clear HB; clear HO_5; have HB := n0_; have HO518 := n1_; clear n0_ n1_; clear ho hb hg hat)); try go_wp2_with (first | ((with_reducible refine gate_builtin (b := .append) (xs := #[.tmp 38, .tmp 40]) rfl ?_); at_builtin; refine Kd.R_append (Kd.int .i64) (w0 := w) w.heap.size rfl (.tmp 38) (.tmp 40) 22 3 (.int .i64 0) 8 rfl Try.underlying22 info3 rfl (by decide) (by omega) u5 x5_1 x6_1 [.int .i64 x6_1] (fun _ => True) (fun _ => False) rfl rfl ?aP (fun _ hk => hk.elim) ?aF ?aO ?aB ?aS ?aL ?_; (case aP => exact rfl); (case aB => exact (by repeat (first | (with_reducible first | exact HB.out | apply below_alloc | apply pw_below_drewN | apply below_drew1) | exact HB.out))); (case aF => exact (fun _ _ => trivial)); (case aO => exact (by (with_reducible repeat (first | apply Kd.R_alloc | apply Kd.R_drewN | apply Kd.R_drew)); exact HO_5.out)); (case aS => exact (below_size (by repeat (first | (with_reducible first | exact HB.out | apply below_alloc | apply pw_below_drewN | apply below_drew1) | exact HB.out)))); (case aL => have := LMc15.out; omega); intro v517 w16 ho hb hg hat; rw [← Ny516.out] at ho; have n0_ := az (hb); have n1_ := az (ho); clear HB; clear HO_5; have HB := n0_; have HO518 := n1_; clear n0_ n1_; clear ho hb hg hat)))
          go_roundg kj4
          case measure => have := HK1.out; have := HJ4.out; omega
          case rel => exact ⟨(y516), (wrap64 (x6_1 + 1)), (by first | rfl | (simp; done) | (simp [*]; done)), H', ⟨by have := HK1.out; have := HJ4.out; omega⟩, ⟨by (with_reducible repeat (first | apply Kd.R_alloc | apply Kd.R_drewN | apply Kd.R_drew)); exact HO518.out⟩, ⟨by repeat (first | (with_reducible first | exact HB.out | apply below_alloc | apply pw_below_drewN | apply below_drew1) | exact HB.out)⟩⟩
         ·
          rw [if_neg c15] at H; exact absurd H (by simp)
        ·
         rw [if_neg c14] at H; have c14b0 : decide (0 ≤ (rd l0 x6_1)) = false := decide_eq_false c14; clear c14; have H' := az H; clear H; have p515 : 0 ≤ (x6_1 : Int) := of_decide_eq_true (by assumption); have q515 : x6_1 < (l0.length : Int) := of_decide_eq_true (by assumption); obtain ⟨ad515, e515, hx515_0⟩ := Kd.at_int HR0.out x6_1 p515 q515
         cases e515
         replace hx515_0 := (HB.out.cell (World.block_lt_of_cell? w _ hx515_0)).trans hx515_0; replace p515 := eq_true p515; replace q515 := eq_true q515; go_wp2; repeat (go_quiet (fail); try go_wp2)
         go_roundg kj4
         case measure => have := HK1.out; have := HJ4.out; omega
         case rel => exact ⟨(x5_1), (wrap64 (x6_1 + 1)), (by first | rfl | (simp; done) | (simp [*]; done)), H', ⟨by have := HK1.out; have := HJ4.out; omega⟩, ⟨by (with_reducible repeat (first | apply Kd.R_alloc | apply Kd.R_drewN | apply Kd.R_drew)); exact HO_5.out⟩, ⟨by repeat (first | (with_reducible first | exact HB.out | apply below_alloc | apply pw_below_drewN | apply below_drew1) | exact HB.out)⟩⟩
       ·
        rw [if_neg c13] at H; exact absurd H (by simp)
      ·
       rw [if_neg c12] at H; exact absurd H (by simp)
     ·
      replace c11 := Bool.eq_false_iff.mpr c11; subst c11; have H1 : (some x5_1) = some r := by rw [if_neg (show ¬ (false = true) by decide)] at H; exact H
      clear H; have H := H1; clear H1; obtain rfl := Option.some.inj H; go_wp2; repeat (go_quiet (fail); try go_wp2)
      go_ret; exact ⟨_, by first | rfl | (simp [errW_none, errW_some] <;> rfl) | (simp [*, errW_none, errW_some] <;> rfl), by (with_reducible repeat (first | apply Kd.R_alloc | apply Kd.R_drewN | apply Kd.R_drew)); exact HO_5.out, by repeat (first | (with_reducible first | exact HB.out | apply below_alloc | apply pw_below_drewN | apply below_drew1) | exact HB.out)⟩
def spec_l3Closes.l0 : Nat → List Int → Int → Int → Option (Bool)
 | 0, _, _, _ => none
 | k + 1, x0, x1, x5 => if x5 < x1 then (if 0 ≤ x5 then (if x5 < (x0.length : Int) then ((spec_RuneBidi.f k (rd x0 x5)).bind fun t520 => ((spec_l3Opens.f t520).bind fun t521 => (if t521 = true then ((spec_l3Mate.f k x0 x5).bind fun t522 => (if t522 = x1 then (some true) else (spec_l3Closes.l0 k x0 x1 (wrap64 (x5 + 1))))) else (spec_l3Closes.l0 k x0 x1 (wrap64 (x5 + 1)))))) else (none)) else (none)) else (some false)
def spec_l3Closes.f (k : Nat) (l0 : List Int) (a1 : Int) : Option (Bool) := spec_l3Closes.l0 k l0 a1 0
theorem spec_l3Closes.mono_l : ∀ k, (∀ y0 y1 y2, LeO (spec_l3Closes.l0 k y0 y1 y2) (spec_l3Closes.l0 (k + 1) y0 y1 y2))
 | 0 => fun _ _ _ r h => by simp [spec_l3Closes.l0] at h
 | k + 1 => by
  have ih0 := spec_l3Closes.mono_l k
  ·
   intro y0 y1 y2; unfold spec_l3Closes.l0
   repeat' first
   | (with_reducible exact ih0 _ _ _)
   | (with_reducible exact spec_RuneBidi.mono _ _)
   | (with_reducible exact spec_l3Mate.mono _ _ _)
   | (with_reducible exact LeO.refl _)
   | (with_reducible exact LeO.none _)
   | (with_reducible refine LeO.ite ?_ ?_)
   | (with_reducible refine LeO.bind ?_ (fun _ => ?_))
   | exact ih0 _ _ _
   | exact spec_RuneBidi.mono _ _
   | exact spec_l3Mate.mono _ _ _
   | exact LeO.none _
   | refine LeO.ite ?_ ?_
   | refine LeO.bind ?_ (fun _ => ?_)
theorem spec_l3Closes.mono : ∀ a0 a1 k, LeO (spec_l3Closes.f k a0 a1) (spec_l3Closes.f (k + 1) a0 a1) := by
 intro a0 a1 k; have ih0 := spec_l3Closes.mono_l k; unfold spec_l3Closes.f
 repeat' first
   | (with_reducible exact ih0 _ _ _)
   | (with_reducible exact spec_RuneBidi.mono _ _)
   | (with_reducible exact spec_l3Mate.mono _ _ _)
   | (with_reducible exact LeO.refl _)
   | (with_reducible exact LeO.none _)
   | (with_reducible refine LeO.ite ?_ ?_)
   | (with_reducible refine LeO.bind ?_ (fun _ => ?_))
   | exact ih0 _ _ _
   | exact spec_RuneBidi.mono _ _
   | exact spec_l3Mate.mono _ _ _
   | exact LeO.none _
   | refine LeO.ite ?_ ?_
   | refine LeO.bind ?_ (fun _ => ?_)
theorem spec_l3Closes.calls (k : Nat) (A0 : Option Addr) (c0 : Nat) (l0 : List Int) (a1 : Int) (r : Bool) (w : World) (hr0 : Kd.C (Kd.int .i64) w A0 l0.length l0) (hc0 : l0.length ≤ c0) (h : spec_l3Closes.f k l0 a1 = some r) :
  Calls Try.prog 83 #[.slice A0 l0.length c0, .int .i64 a1] w fun e w' => e = .returned (.bool r) ∧ Below w.heap.size w w' := by
 have HR0 := az hr0; have HC0 := az hc0; clear hr0 hc0; have HB := az (Below.refl w.heap.size w); have H : (spec_l3Closes.l0 k l0 a1 0) = some r := h; clear h; have H' := az H; clear H; go_enter Try.func83, Try.ntmps83; go_wp2; go_loopg [5] k (fun kq v5 w' => ∃ (x5_1 : Int), v5 = .int .i64 x5_1 ∧ Aside0 (spec_l3Closes.l0 kq l0 a1 x5_1 = some r) ∧ Aside0 (kq ≤ k) ∧ Aside0 (Below w.heap.size w w'))
 case atStart => exact ⟨(0), (by first | rfl | (simp; done) | (simp [*]; done)), H', ⟨Nat.le_refl _⟩, ⟨by repeat (first | (with_reducible first | exact HB.out | apply below_alloc | apply pw_below_drewN | apply below_drew1) | exact HB.out)⟩⟩
 case round =>
  clear H'; (try clear p2); obtain ⟨x5_1, rfl, HA, HK1, HB⟩ := hrel
  cases gk with
  | zero => exact absurd HA.out (by simp [spec_l3Closes.l0])
  | succ k1 =>
   have H := HA.out; clear HA; simp only [spec_l3Closes.l0] at H; by_cases c3 : x5_1 < a1
   ·
    rw [if_pos c3] at H; have c3b0 : decide (x5_1 < a1) = true := decide_eq_true c3; clear c3; by_cases c4 : 0 ≤ x5_1
    ·
     rw [if_pos c4] at H; have c4b0 : decide (0 ≤ x5_1) = true := decide_eq_true c4; clear c4; by_cases c5 : x5_1 < (l0.length : Int)
     ·
      rw [if_pos c5] at H; have c5b0 : decide (x5_1 < (l0.length : Int)) = true := decide_eq_true c5; clear c5; replace H := Option.bind_eq_some_iff.mp H; obtain ⟨t520, A60, H⟩ := H; replace H : ((spec_l3Opens.f t520).bind fun t521 => (if t521 = true then ((spec_l3Mate.f k1 l0 x5_1).bind fun t522 => (if t522 = a1 then (some true) else (spec_l3Closes.l0 k1 l0 a1 (wrap64 (x5_1 + 1))))) else (spec_l3Closes.l0 k1 l0 a1 (wrap64 (x5_1 + 1))))) = some r := H; have A6 := az A60; clear A60; replace H := Option.bind_eq_some_iff.mp H; obtain ⟨t521, A70, H⟩ := H; replace H : (if t521 = true then ((spec_l3Mate.f k1 l0 x5_1).bind fun t522 => (if t522 = a1 then (some true) else (spec_l3Closes.l0 k1 l0 a1 (wrap64 (x5_1 + 1))))) else (spec_l3Closes.l0 k1 l0 a1 (wrap64 (x5_1 + 1)))) = some r := H; have A7 := az A70; clear A70; by_cases c8 : t521 = true
      ·
       subst c8; have H1 : ((spec_l3Mate.f k1 l0 x5_1).bind fun t522 => (if t522 = a1 then (some true) else (spec_l3Closes.l0 k1 l0 a1 (wrap64 (x5_1 + 1))))) = some r := by rw [if_pos rfl] at H; exact H
       clear H; have H := H1; clear H1; replace H := Option.bind_eq_some_iff.mp H; obtain ⟨t522, A90, H⟩ := H; replace H : (if t522 = a1 then (some true) else (spec_l3Closes.l0 k1 l0 a1 (wrap64 (x5_1 + 1)))) = some r := H; have A9 := az A90; clear A90; by_cases c10 : t522 = a1
       ·
        rw [if_pos c10] at H; have c10b0 : (t522 == a1) = true := beq_iff_eq.mpr c10; have c10b1 : (t522 != a1) = false := bne_eq_false_iff_eq.mpr c10; clear c10; obtain rfl := Option.some.inj H; have p519 : 0 ≤ (x5_1 : Int) := of_decide_eq_true (by assumption); have q519 : x5_1 < (l0.length : Int) := of_decide_eq_true (by assumption); obtain ⟨ad519, e519, hx519_0⟩ := Kd.at_int HR0.out x5_1 p519 q519
        cases e519
        replace hx519_0 := (HB.out.cell (World.block_lt_of_cell? w _ hx519_0)).trans hx519_0; replace p519 := eq_true p519; replace q519 := eq_true q519; go_wp2_with (first | ((with_reducible refine gate_callee (f := 20) rfl ?_); refine goesL_ (some 15) rfl rfl Try.func20 (by kernel_rfl) rfl #[.int .i64 (rd l0 x5_1)] rfl (by (try simp only [List.map_toArray, List.map_cons, List.map_nil]); first | done | rfl) ?_; (with_reducible refine (spec_RuneBidi.calls k1 (rd l0 x5_1) t520 _ A6.out).mono ?_); rintro e w11 ⟨rfl, hb⟩; refine ⟨_, rfl, ?_⟩; have n0_ := az (below_step (by repeat (first | (with_reducible first | exact HB.out | apply below_alloc | apply pw_below_drewN | apply below_drew1) | exact HB.out)) hb); clear HB; have HB := n0_; clear n0_; (try clear hb); (try clear hb2); (try clear hk); (try clear hi)) | ((with_reducible refine gate_callee (f := 86) rfl ?_); refine goesL_ (some 16) rfl rfl Try.func86 (by kernel_rfl) rfl #[.int .i64 t520] rfl (by (try simp only [List.map_toArray, List.map_cons, List.map_nil]); first | done | rfl) ?_; (with_reducible refine (spec_l3Opens.calls t520 true _ A7.out).mono ?_); rintro e w' ⟨rfl, ⟨nd, rfl⟩⟩; refine ⟨_, rfl, ?_⟩) | (go_at_call 93; (with_reducible refine (spec_l3Mate.calls k1 _ _ l0 x5_1 t522 _ ?side1 ?side2 A9.out).mono ?_); (case side1 => repeat (first | exact (Kd.C_below HR0.out (by repeat (first | (with_reducible first | exact HB.out | apply below_alloc | apply pw_below_drewN | apply below_drew1) | exact HB.out))) | (with_reducible refine Kd.C_alloc ?_ _) | (with_reducible refine Kd.C_drewN ?_ _) | (with_reducible refine Kd.C_drew ?_))); (case side2 => exact HC0.out); rintro e w12 ⟨rfl, hb⟩; have n0_ := az (below_step (by repeat (first | (with_reducible first | exact HB.out | apply below_alloc | apply pw_below_drewN | apply below_drew1) | exact HB.out)) hb); clear HB; have HB := n0_; clear n0_; (try clear hb); (try clear hb2); (try clear hk); (try clear hi))); go_ret; exact ⟨by first | rfl | (simp [errW_none, errW_some] <;> rfl) | (simp [*, errW_none, errW_some] <;> rfl), by repeat (first | (with_reducible first | exact HB.out | apply below_alloc | apply pw_below_drewN | apply below_drew1) | exact HB.out)⟩
       ·
        rw [if_neg c10] at H; have c10b0 : (t522 == a1) = false := beq_eq_false_iff_ne.mpr c10; have c10b1 : (t522 != a1) = true := bne_iff_ne.mpr c10; have H' := az H; clear H; have p519 : 0 ≤ (x5_1 : Int) := of_decide_eq_true (by assumption); have q519 : x5_1 < (l0.length : Int) := of_decide_eq_true (by assumption); obtain ⟨ad519, e519, hx519_0⟩ := Kd.at_int HR0.out x5_1 p519 q519
        cases e519
        replace hx519_0 := (HB.out.cell (World.block_lt_of_cell? w _ hx519_0)).trans hx519_0; replace p519 := eq_true p519; replace q519 := eq_true q519; go_wp2_with (first | ((with_reducible refine gate_callee (f := 20) rfl ?_); refine goesL_ (some 15) rfl rfl Try.func20 (by kernel_rfl) rfl #[.int .i64 (rd l0 x5_1)] rfl (by (try simp only [List.map_toArray, List.map_cons, List.map_nil]); first | done | rfl) ?_; (with_reducible refine (spec_RuneBidi.calls k1 (rd l0 x5_1) t520 _ A6.out).mono ?_); rintro e w13 ⟨rfl, hb⟩; refine ⟨_, rfl, ?_⟩; have n0_ := az (below_step (by repeat (first | (with_reducible first | exact HB.out | apply below_alloc | apply pw_below_drewN | apply below_drew1) | exact HB.out)) hb); clear HB; have HB := n0_; clear n0_; (try clear hb); (try clear hb2); (try clear hk); (try clear hi)) | ((with_reducible refine gate_callee (f := 86) rfl ?_); refine goesL_ (some 16) rfl rfl Try.func86 (by kernel_rfl) rfl #[.int .i64 t520] rfl (by (try simp only [List.map_toArray, List.map_cons, List.map_nil]); first | done | rfl) ?_; (with_reducible refine (spec_l3Opens.calls t520 true _ A7.out).mono ?_); rintro e w' ⟨rfl, ⟨nd, rfl⟩⟩; refine ⟨_, rfl, ?_⟩) | (go_at_call 93; (with_reducible refine (spec_l3Mate.calls k1 _ _ l0 x5_1 t522 _ ?side1 ?side2 A9.out).mono ?_); (case side1 => repeat (first | exact (Kd.C_below HR0.out (by repeat (first | (with_reducible first | exact HB.out | apply below_alloc | apply pw_below_drewN | apply below_drew1) | exact HB.out))) | (with_reducible refine Kd.C_alloc ?_ _) | (with_reducible refine Kd.C_drewN ?_ _) | (with_reducible refine Kd.C_drew ?_))); (case side2 => exact HC0.out); rintro e w14 ⟨rfl, hb⟩; have n0_ := az (below_step (by repeat (first | (with_reducible first | exact HB.out | apply below_alloc | apply pw_below_drewN | apply below_drew1) | exact HB.out)) hb); clear HB; have HB := n0_; clear n0_; (try clear hb); (try clear hb2); (try clear hk); (try clear hi))); go_roundg k1
        case measure => have := HK1.out; omega
        case rel => exact ⟨(wrap64 (x5_1 + 1)), (by first | rfl | (simp; done) | (simp [*]; done)), H', ⟨by have := HK1.out; omega⟩, ⟨by repeat (first | (with_reducible first | exact HB.out | apply below_alloc | apply pw_below_drewN | apply below_drew1) | exact HB.out)⟩⟩
      ·
       replace c8 := Bool.eq_false_iff.mpr c8; subst c8; have H1 : (spec_l3Closes.l0 k1 l0 a1 (wrap64 (x5_1 + 1))) = some r := by rw [if_neg (show ¬ (false = true) by decide)] at H; exact H
       clear H; have H := H1; clear H1; have H' := az H; clear H; have p519 : 0 ≤ (x5_1 : Int) := of_decide_eq_true (by assumption); have q519 : x5_1 < (l0.length : Int) := of_decide_eq_true (by assumption); obtain ⟨ad519, e519, hx519_0⟩ := Kd.at_int HR0.out x5_1 p519 q519
       cases e519
       replace hx519_0 := (HB.out.cell (World.block_lt_of_cell? w _ hx519_0)).trans hx519_0; replace p519 := eq_true p519; replace q519 := eq_true q519; go_wp2_with (first | ((with_reducible refine gate_callee (f := 20) rfl ?_); refine goesL_ (some 15) rfl rfl Try.func20 (by kernel_rfl) rfl #[.int .i64 (rd l0 x5_1)] rfl (by (try simp only [List.map_toArray, List.map_cons, List.map_nil]); first | done | rfl) ?_; (with_reducible refine (spec_RuneBidi.calls k1 (rd l0 x5_1) t520 _ A6.out).mono ?_); rintro e w15 ⟨rfl, hb⟩; refine ⟨_, rfl, ?_⟩; have n0_ := az (below_step (by repeat (first | (with_reducible first | exact HB.out | apply below_alloc | apply pw_below_drewN | apply below_drew1) | exact HB.out)) hb); clear HB; have HB := n0_; clear n0_; (try clear hb); (try clear hb2); (try clear hk); (try clear hi)) | ((with_reducible refine gate_callee (f := 86) rfl ?_); refine goesL_ (some 16) rfl rfl Try.func86 (by kernel_rfl) rfl #[.int .i64 t520] rfl (by (try simp only [List.map_toArray, List.map_cons, List.map_nil]); first | done | rfl) ?_; (with_reducible refine (spec_l3Opens.calls t520 false _ A7.out).mono ?_); rintro e w' ⟨rfl, ⟨nd, rfl⟩⟩; refine ⟨_, rfl, ?_⟩)); go_roundg k1
       case measure => have := HK1.out; omega
       case rel => exact ⟨(wrap64 (x5_1 + 1)), (by first | rfl | (simp; done) | (simp [*]; done)), H', ⟨by have := HK1.out; omega⟩, ⟨by repeat (first | (with_reducible first | exact HB.out | apply below_alloc | apply pw_below_drewN | apply below_drew1) | exact HB.out)⟩⟩
     ·
      rw [if_neg c5] at H; exact absurd H (by simp)
    ·
     rw [if_neg c4] at H; exact absurd H (by simp)
   ·
    rw [if_neg c3] at H; have c3b0 : decide (x5_1 < a1) = false := decide_eq_false c3; clear c3; obtain rfl := Option.some.inj H; go_wp2; go_ret; exact ⟨by first | rfl | (simp [errW_none, errW_some] <;> rfl) | (simp [*, errW_none, errW_some] <;> rfl), by repeat (first | (with_reducible first | exact HB.out | apply below_alloc | apply pw_below_drewN | apply below_drew1) | exact HB.out)⟩
def spec_l3Chain.l0 : Nat → List Int → List Int → List Int → Option (List Int)
 | 0, _, _, _ => none
 | k + 1, x0, x1, x7 => if 0 ≤ (wrap64 ((x7.length : Int) - 1)) then (if (wrap64 ((x7.length : Int) - 1)) < (x7.length : Int) then (if 0 ≤ (rd x7 (wrap64 ((x7.length : Int) - 1))) then (if (rd x7 (wrap64 ((x7.length : Int) - 1))) < (x0.length : Int) then ((spec_RuneBidi.f k (rd x0 (rd x7 (wrap64 ((x7.length : Int) - 1))))).bind fun t531 => ((spec_l3Opens.f t531).bind fun t532 => (if t532 = true then ((spec_l3Mate.f k x0 (rd x7 (wrap64 ((x7.length : Int) - 1)))).bind fun t533 => (if t533 = (x0.length : Int) then (some x7) else ((spec_l3Run.f k x1 t533).bind fun t534 => (if x7.length + t534.length < 17592186044416 then (spec_l3Chain.l0 k x0 x1 (x7 ++ t534)) else (none))))) else (some x7)))) else (none)) else (none)) else (none)) else (none)
def spec_l3Chain.f (k : Nat) (l0 : List Int) (l1 : List Int) (l2 : List Int) : Option (List Int) := (some (([] : List Int) : List Int)).bind fun y523 => (if y523.length + l2.length < 17592186044416 then (spec_l3Chain.l0 k l0 l1 (y523 ++ l2)) else (none))
theorem spec_l3Chain.mono_l : ∀ k, (∀ y0 y1 y2, LeO (spec_l3Chain.l0 k y0 y1 y2) (spec_l3Chain.l0 (k + 1) y0 y1 y2))
 | 0 => fun _ _ _ r h => by simp [spec_l3Chain.l0] at h
 | k + 1 => by
  have ih0 := spec_l3Chain.mono_l k
  ·
   intro y0 y1 y2; unfold spec_l3Chain.l0
   repeat' first
   | (with_reducible exact ih0 _ _ _)
   | (with_reducible exact spec_RuneBidi.mono _ _)
   | (with_reducible exact spec_l3Mate.mono _ _ _)
   | (with_reducible exact spec_l3Run.mono _ _ _)
   | (with_reducible exact LeO.refl _)
   | (with_reducible exact LeO.none _)
   | (with_reducible refine LeO.ite ?_ ?_)
   | (with_reducible refine LeO.bind ?_ (fun _ => ?_))
   | exact ih0 _ _ _
   | exact spec_RuneBidi.mono _ _
   | exact spec_l3Mate.mono _ _ _
   | exact spec_l3Run.mono _ _ _
   | exact LeO.none _
   | refine LeO.ite ?_ ?_
   | refine LeO.bind ?_ (fun _ => ?_)
theorem spec_l3Chain.mono : ∀ a0 a1 a2 k, LeO (spec_l3Chain.f k a0 a1 a2) (spec_l3Chain.f (k + 1) a0 a1 a2) := by
 intro a0 a1 a2 k; have ih0 := spec_l3Chain.mono_l k; unfold spec_l3Chain.f
 repeat' first
   | (with_reducible exact ih0 _ _ _)
   | (with_reducible exact spec_RuneBidi.mono _ _)
   | (with_reducible exact spec_l3Mate.mono _ _ _)
   | (with_reducible exact spec_l3Run.mono _ _ _)
   | (with_reducible exact LeO.refl _)
   | (with_reducible exact LeO.none _)
   | (with_reducible refine LeO.ite ?_ ?_)
   | (with_reducible refine LeO.bind ?_ (fun _ => ?_))
   | exact ih0 _ _ _
   | exact spec_RuneBidi.mono _ _
   | exact spec_l3Mate.mono _ _ _
   | exact spec_l3Run.mono _ _ _
   | exact LeO.none _
   | refine LeO.ite ?_ ?_
   | refine LeO.bind ?_ (fun _ => ?_)
theorem spec_l3Chain.calls (k : Nat) (A0 : Option Addr) (c0 : Nat) (l0 : List Int) (A1 : Option Addr) (c1 : Nat) (l1 : List Int) (A2 : Option Addr) (c2 : Nat) (l2 : List Int) (r : List Int) (w : World) (hr0 : Kd.C (Kd.int .i64) w A0 l0.length l0) (hc0 : l0.length ≤ c0) (hr1 : Kd.C (Kd.int .i64) w A1 l1.length l1) (hc1 : l1.length ≤ c1) (hr2 : Kd.C (Kd.int .i64) w A2 l2.length l2) (hc2 : l2.length ≤ c2) (h : spec_l3Chain.f k l0 l1 l2 = some r) :
  Calls Try.prog 84 #[.slice A0 l0.length c0, .slice A1 l1.length c1, .slice A2 l2.length c2] w fun e w' => ∃ v0_ : Value, e = .returned (v0_) ∧ Kd.R (Kd.int .i64) 3 w' w.heap.size (fun _ => True) v0_ r ∧ Below w.heap.size w w' := by
 have HR0 := az hr0; have HC0 := az hc0; clear hr0 hc0; have HR1 := az hr1; have HC1 := az hc1; clear hr1 hc1; have HR2 := az hr2; have HC2 := az hc2; clear hr2 hc2; have HB := az (Below.refl w.heap.size w); have H : ((some (([] : List Int) : List Int)).bind fun y523 => (if y523.length + l2.length < 17592186044416 then (spec_l3Chain.l0 k l0 l1 (y523 ++ l2)) else (none))) = some r := h; clear h; obtain ⟨y523, hy523⟩ : ∃ y_ : List Int, y_ = (([] : List Int)) := ⟨_, rfl⟩; replace H : (if y523.length + l2.length < 17592186044416 then (spec_l3Chain.l0 k l0 l1 (y523 ++ l2)) else (none)) = some r := by first | (rw [hy523]; with_reducible exact H) | (have H2_ := (Option.bind_some _ _).symm.trans H; rw [hy523]; with_reducible exact H2_) | (have H2_ := (Option.bind_some _ _).symm.trans H; with_reducible exact H2_) | with_reducible exact H | (rw [hy523]; exact H) | exact H
 have Ny523 := az hy523; clear hy523; by_cases c4 : y523.length + l2.length < 17592186044416
 ·
  rw [if_pos c4] at H; have LMc4 := az c4; clear c4; obtain ⟨y526, hy526⟩ : ∃ y_ : List Int, y_ = (y523 ++ l2) := ⟨_, rfl⟩; replace H : (spec_l3Chain.l0 k l0 l1 y526) = some r := by first | (rw [hy526]; with_reducible exact H) | (have H2_ := (Option.bind_some _ _).symm.trans H; rw [hy526]; with_reducible exact H2_) | (have H2_ := (Option.bind_some _ _).symm.trans H; with_reducible exact H2_) | with_reducible exact H | (rw [hy526]; exact H) | exact H
  have Ny526 := az hy526; clear hy526; have H' := az H; clear H; go_enter Try.func84, Try.ntmps84; go_wp2_with (first | ((with_reducible refine gate_dst (N := 10) rfl ?_); refine Kd.R_lit (Kd.int .i64) _ 3 ?hg (N := 10) ?hd (xs := ([] : List Int)) (inner := []) (ok := fun _ => True) (okp := fun _ => True) ?hr ?hp (fun _ hk => hk) trivial (Below.refl _ _) (Nat.le_refl _) (by simp) ?_; (case hd => rfl); (case hg => rfl); (case hr => first | (go_simp; done) | (go_simp; rfl)); (case hp => exact (Reps.none _ _)); intro v524 w5 ho6 hb hg_ hnew_; clear hg_ hnew_; (first | rw [← Ny523.out] at ho6 | (simp only [Int.reduceToNat] at ho6; rw [← Ny523.out] at ho6)); have n0_ := az (Kd.R_lower ho6 (below_size (by repeat (first | (with_reducible first | exact HB.out | apply below_alloc | apply pw_below_drewN | apply below_drew1) | exact HB.out)))); have n1_ := az (below_step (by repeat (first | (with_reducible first | exact HB.out | apply below_alloc | apply pw_below_drewN | apply below_drew1) | exact HB.out)) hb); clear HB; have HO525 := n0_; have HB := n1_; clear n0_ n1_; clear hb ho6) | ((with_reducible refine gate_builtin (b := .append) (xs := #[.tmp 10, .tmp 11]) rfl ?_); at_builtin; refine Kd.R_append_rows (Kd.int .i64) (w0 := w) w.heap.size rfl (.tmp 10) (.tmp 11) 22 3 (.int .i64 0) 8 rfl Try.underlying22 info3 rfl (by decide) (by omega) v524 y523 l2 _ _ _ (fun _ => True) (fun _ => False) rfl rfl ?aO ?aR (fun _ _ h => h) (fun _ h => h.elim) ?aF ?aB ?aS ?aL ?_; (case aR => repeat (first | exact (Kd.C_below HR2.out HB.out) | (with_reducible refine Kd.C_alloc ?_ _) | (with_reducible refine Kd.C_drewN ?_ _) | (with_reducible refine Kd.C_drew ?_))); (case aB => exact (by repeat (first | (with_reducible first | exact HB.out | apply below_alloc | apply pw_below_drewN | apply below_drew1) | exact HB.out))); (case aF => exact (fun _ _ => trivial)); (case aO => exact (by (with_reducible repeat (first | apply Kd.R_alloc | apply Kd.R_drewN | apply Kd.R_drew)); exact HO525.out)); (case aS => exact (below_size (by repeat (first | (with_reducible first | exact HB.out | apply below_alloc | apply pw_below_drewN | apply below_drew1) | exact HB.out)))); (case aL => have := LMc4.out; omega); intro v527 w7 ho hb hg hat; rw [← Ny526.out] at ho; have n0_ := az (hb); have n1_ := az (ho); clear HB; clear HO525; have HB := n0_; have HO528 := n1_; clear n0_ n1_; clear ho hb hg hat)); go_loopg [7] k (fun kq v7 w' => ∃ (x7_1 : List Int), Aside0 (spec_l3Chain.l0 kq l0 l1 x7_1 = some r) ∧ Aside0 (kq ≤ k) ∧ Aside0 (Kd.R (Kd.int .i64) 3 w' w.heap.size (fun _ => True) v7 x7_1) ∧ Aside0 (Below w.heap.size w w'))
  case atStart => exact ⟨(y526), H', ⟨Nat.le_refl _⟩, ⟨by (with_reducible repeat (first | apply Kd.R_alloc | apply Kd.R_drewN | apply Kd.R_drew)); exact HO528.out⟩, ⟨by repeat (first | (with_reducible first | exact HB.out | apply below_alloc | apply pw_below_drewN | apply below_drew1) | exact HB.out)⟩⟩
  case round =>
   clear H'; (try clear c1); (try clear c2); (try clear p2); (try clear c4); obtain ⟨x7_1, HA, HK1, HO_7, HB⟩ := hrel
   cases gk with
   | zero => exact absurd HA.out (by simp [spec_l3Chain.l0])
   | succ k1 =>
    have H := HA.out; clear HA; simp only [spec_l3Chain.l0] at H; obtain ⟨ji8, hji8⟩ : ∃ j_ : Int, (wrap64 ((x7_1.length : Int) - 1)) = j_ := ⟨_, rfl⟩; replace H : (if 0 ≤ (ji8) then (if (ji8) < (x7_1.length : Int) then (if 0 ≤ (rd x7_1 (ji8)) then (if (rd x7_1 (ji8)) < (l0.length : Int) then ((spec_RuneBidi.f k1 (rd l0 (rd x7_1 (ji8)))).bind fun t531 => ((spec_l3Opens.f t531).bind fun t532 => (if t532 = true then ((spec_l3Mate.f k1 l0 (rd x7_1 (ji8))).bind fun t533 => (if t533 = (l0.length : Int) then (some x7_1) else ((spec_l3Run.f k1 l1 t533).bind fun t534 => (if x7_1.length + t534.length < 17592186044416 then (spec_l3Chain.l0 k1 l0 l1 (x7_1 ++ t534)) else (none))))) else (some x7_1)))) else (none)) else (none)) else (none)) else (none)) = some r := by first | (rw [hji8] at H; exact H) | (simp only [hji8] at H ⊢; exact H)
    have hji8w : (IntKind.i64.wrap ((x7_1.length : Int) - 1)) = ji8 := (i64_w _).trans hji8; by_cases c9 : 0 ≤ (ji8)
    ·
     rw [if_pos c9] at H; have c9b0 : decide (0 ≤ (ji8)) = true := decide_eq_true c9; clear c9; by_cases c10 : (ji8) < (x7_1.length : Int)
     ·
      rw [if_pos c10] at H; have c10b0 : decide ((ji8) < (x7_1.length : Int)) = true := decide_eq_true c10; clear c10; by_cases c11 : 0 ≤ (rd x7_1 (ji8))
      ·
       rw [if_pos c11] at H; have c11b0 : decide (0 ≤ (rd x7_1 (ji8))) = true := decide_eq_true c11; clear c11; by_cases c12 : (rd x7_1 (ji8)) < (l0.length : Int)
       ·
        rw [if_pos c12] at H; have c12b0 : decide ((rd x7_1 (ji8)) < (l0.length : Int)) = true := decide_eq_true c12; clear c12; replace H := Option.bind_eq_some_iff.mp H; obtain ⟨t531, A130, H⟩ := H; replace H : ((spec_l3Opens.f t531).bind fun t532 => (if t532 = true then ((spec_l3Mate.f k1 l0 (rd x7_1 (ji8))).bind fun t533 => (if t533 = (l0.length : Int) then (some x7_1) else ((spec_l3Run.f k1 l1 t533).bind fun t534 => (if x7_1.length + t534.length < 17592186044416 then (spec_l3Chain.l0 k1 l0 l1 (x7_1 ++ t534)) else (none))))) else (some x7_1))) = some r := H; have A13 := az A130; clear A130; replace H := Option.bind_eq_some_iff.mp H; obtain ⟨t532, A140, H⟩ := H; replace H : (if t532 = true then ((spec_l3Mate.f k1 l0 (rd x7_1 (ji8))).bind fun t533 => (if t533 = (l0.length : Int) then (some x7_1) else ((spec_l3Run.f k1 l1 t533).bind fun t534 => (if x7_1.length + t534.length < 17592186044416 then (spec_l3Chain.l0 k1 l0 l1 (x7_1 ++ t534)) else (none))))) else (some x7_1)) = some r := H; have A14 := az A140; clear A140; by_cases c15 : t532 = true
        ·
         subst c15; have H1 : ((spec_l3Mate.f k1 l0 (rd x7_1 (ji8))).bind fun t533 => (if t533 = (l0.length : Int) then (some x7_1) else ((spec_l3Run.f k1 l1 t533).bind fun t534 => (if x7_1.length + t534.length < 17592186044416 then (spec_l3Chain.l0 k1 l0 l1 (x7_1 ++ t534)) else (none))))) = some r := by rw [if_pos rfl] at H; exact H
         clear H; have H := H1; clear H1; replace H := Option.bind_eq_some_iff.mp H; obtain ⟨t533, A160, H⟩ := H; replace H : (if t533 = (l0.length : Int) then (some x7_1) else ((spec_l3Run.f k1 l1 t533).bind fun t534 => (if x7_1.length + t534.length < 17592186044416 then (spec_l3Chain.l0 k1 l0 l1 (x7_1 ++ t534)) else (none)))) = some r := H; have A16 := az A160; clear A160; by_cases c17 : t533 = (l0.length : Int)
         ·
          rw [if_pos c17] at H; have c17b0 : (t533 == (l0.length : Int)) = true := beq_iff_eq.mpr c17; have c17b1 : (t533 != (l0.length : Int)) = false := bne_eq_false_iff_eq.mpr c17; clear c17; obtain rfl := Option.some.inj H; obtain ⟨Ao18, co18, eo18⟩ := Kd.R_slice HO_7.out; subst eo18; have p529 : 0 ≤ ((ji8) : Int) := of_decide_eq_true (by assumption); have q529 : (ji8) < (x7_1.length : Int) := of_decide_eq_true (by assumption); obtain ⟨ad529, e529, hx529_0⟩ := Kd.at_int (Kd.R_reads' HO_7.out).2.2 (ji8) p529 q529
          cases e529
          replace p529 := eq_true p529; replace q529 := eq_true q529; have p530 : 0 ≤ ((rd x7_1 (ji8)) : Int) := of_decide_eq_true (by assumption); have q530 : (rd x7_1 (ji8)) < (l0.length : Int) := of_decide_eq_true (by assumption); obtain ⟨ad530, e530, hx530_0⟩ := Kd.at_int HR0.out (rd x7_1 (ji8)) p530 q530
          cases e530
          replace hx530_0 := (HB.out.cell (World.block_lt_of_cell? w _ hx530_0)).trans hx530_0; replace p530 := eq_true p530; replace q530 := eq_true q530; go_wp2_with (first | ((with_reducible refine gate_callee (f := 20) rfl ?_); refine goesL_ (some 23) rfl rfl Try.func20 (by kernel_rfl) rfl #[.int .i64 (rd l0 (rd x7_1 (ji8)))] rfl (by (try simp only [List.map_toArray, List.map_cons, List.map_nil]); first | done | (simp only [hji8]; rfl) | rfl | (simp only [List.length_drop, List.length_take]; rfl)) ?_; (with_reducible refine (spec_RuneBidi.calls k1 (rd l0 (rd x7_1 (ji8))) t531 _ A13.out).mono ?_); rintro e w19 ⟨rfl, hb⟩; refine ⟨_, rfl, ?_⟩; have n0_ := az (Kd.R_below (by (with_reducible repeat (first | apply Kd.R_alloc | apply Kd.R_drewN | apply Kd.R_drew)); exact HO_7.out) hb); have n1_ := az (below_step (by repeat (first | (with_reducible first | exact HB.out | apply below_alloc | apply pw_below_drewN | apply below_drew1) | exact HB.out)) hb); clear HO_7; clear HB; have HO_7 := n0_; have HB := n1_; clear n0_ n1_; (try clear hb); (try clear hb2); (try clear hk); (try clear hi)) | ((with_reducible refine gate_callee (f := 86) rfl ?_); refine goesL_ (some 24) rfl rfl Try.func86 (by kernel_rfl) rfl #[.int .i64 t531] rfl (by (try simp only [List.map_toArray, List.map_cons, List.map_nil]); first | done | rfl) ?_; (with_reducible refine (spec_l3Opens.calls t531 true _ A14.out).mono ?_); rintro e w' ⟨rfl, ⟨nd, rfl⟩⟩; refine ⟨_, rfl, ?_⟩) | ((with_reducible refine gate_callee (f := 93) rfl ?_); refine goesL_ (some 29) rfl rfl Try.func93 (by kernel_rfl) rfl #[.slice (some ad530) l0.length c0, .int .i64 (rd x7_1 (ji8))] rfl (by (try simp only [List.map_toArray, List.map_cons, List.map_nil]); first | done | (simp only [hji8]; rfl) | rfl | (simp only [List.length_drop, List.length_take]; rfl)) ?_; (with_reducible refine (spec_l3Mate.calls k1 _ _ l0 (rd x7_1 (ji8)) t533 _ ?side1 ?side2 A16.out).mono ?_); (case side1 => repeat (first | exact (Kd.C_below HR0.out (by repeat (first | (with_reducible first | exact HB.out | apply below_alloc | apply pw_below_drewN | apply below_drew1) | exact HB.out))) | (with_reducible refine Kd.C_alloc ?_ _) | (with_reducible refine Kd.C_drewN ?_ _) | (with_reducible refine Kd.C_drew ?_))); (case side2 => exact HC0.out); rintro e w20 ⟨rfl, hb⟩; refine ⟨_, rfl, ?_⟩; have n0_ := az (Kd.R_below (by (with_reducible repeat (first | apply Kd.R_alloc | apply Kd.R_drewN | apply Kd.R_drew)); exact HO_7.out) hb); have n1_ := az (below_step (by repeat (first | (with_reducible first | exact HB.out | apply below_alloc | apply pw_below_drewN | apply below_drew1) | exact HB.out)) hb); clear HO_7; clear HB; have HO_7 := n0_; have HB := n1_; clear n0_ n1_; (try clear hb); (try clear hb2); (try clear hk); (try clear hi))); go_ret; exact ⟨_, by first | rfl | (simp [errW_none, errW_some] <;> rfl) | (simp only [← hji8]; first | rfl | (simp [errW_none, errW_some] <;> rfl)) | (simp [*, errW_none, errW_some] <;> rfl), by (with_reducible repeat (first | apply Kd.R_alloc | apply Kd.R_drewN | apply Kd.R_drew)); exact HO_7.out, by repeat (first | (with_reducible first | exact HB.out | apply below_alloc | apply pw_below_drewN | apply below_drew1) | exact HB.out)⟩
         ·
          rw [if_neg c17] at H; have c17b0 : (t533 == (l0.length : Int)) = false := beq_eq_false_iff_ne.mpr c17; have c17b1 : (t533 != (l0.length : Int)) = true := bne_iff_ne.mpr c17; replace H := Option.bind_eq_some_iff.mp H; obtain ⟨t534, A210, H⟩ := H; replace H : (if x7_1.length + t534.length < 17592186044416 then (spec_l3Chain.l0 k1 l0 l1 (x7_1 ++ t534)) else (none)) = some r := H; have A21 := az A210; clear A210; by_cases c22 : x7_1.length + t534.length < 17592186044416
          ·
           rw [if_pos c22] at H; have LMc22 := az c22; clear c22; obtain ⟨y537, hy537⟩ : ∃ y_ : List Int, y_ = (x7_1 ++ t534) := ⟨_, rfl⟩; replace H : (spec_l3Chain.l0 k1 l0 l1 y537) = some r := by first | (rw [hy537]; with_reducible exact H) | (have H2_ := (Option.bind_some _ _).symm.trans H; rw [hy537]; with_reducible exact H2_) | (have H2_ := (Option.bind_some _ _).symm.trans H; with_reducible exact H2_) | with_reducible exact H | (rw [hy537]; exact H) | exact H
           have Ny537 := az hy537; clear hy537; have H' := az H; clear H; obtain ⟨Ao23, co23, eo23⟩ := Kd.R_slice HO_7.out; subst eo23; have p529 : 0 ≤ ((ji8) : Int) := of_decide_eq_true (by assumption); have q529 : (ji8) < (x7_1.length : Int) := of_decide_eq_true (by assumption); obtain ⟨ad529, e529, hx529_0⟩ := Kd.at_int (Kd.R_reads' HO_7.out).2.2 (ji8) p529 q529
           cases e529
           replace p529 := eq_true p529; replace q529 := eq_true q529; have p530 : 0 ≤ ((rd x7_1 (ji8)) : Int) := of_decide_eq_true (by assumption); have q530 : (rd x7_1 (ji8)) < (l0.length : Int) := of_decide_eq_true (by assumption); obtain ⟨ad530, e530, hx530_0⟩ := Kd.at_int HR0.out (rd x7_1 (ji8)) p530 q530
           cases e530
           replace hx530_0 := (HB.out.cell (World.block_lt_of_cell? w _ hx530_0)).trans hx530_0; replace p530 := eq_true p530; replace q530 := eq_true q530; go_wp2_with (first | ((with_reducible refine gate_callee (f := 20) rfl ?_); refine goesL_ (some 23) rfl rfl Try.func20 (by kernel_rfl) rfl #[.int .i64 (rd l0 (rd x7_1 (ji8)))] rfl (by (try simp only [List.map_toArray, List.map_cons, List.map_nil]); first | done | (simp only [hji8]; rfl) | rfl | (simp only [List.length_drop, List.length_take]; rfl)) ?_; (with_reducible refine (spec_RuneBidi.calls k1 (rd l0 (rd x7_1 (ji8))) t531 _ A13.out).mono ?_); rintro e w24 ⟨rfl, hb⟩; refine ⟨_, rfl, ?_⟩; have n0_ := az (Kd.R_below (by (with_reducible repeat (first | apply Kd.R_alloc | apply Kd.R_drewN | apply Kd.R_drew)); exact HO_7.out) hb); have n1_ := az (below_step (by repeat (first | (with_reducible first | exact HB.out | apply below_alloc | apply pw_below_drewN | apply below_drew1) | exact HB.out)) hb); clear HO_7; clear HB; have HO_7 := n0_; have HB := n1_; clear n0_ n1_; (try clear hb); (try clear hb2); (try clear hk); (try clear hi)) | ((with_reducible refine gate_callee (f := 86) rfl ?_); refine goesL_ (some 24) rfl rfl Try.func86 (by kernel_rfl) rfl #[.int .i64 t531] rfl (by (try simp only [List.map_toArray, List.map_cons, List.map_nil]); first | done | rfl) ?_; (with_reducible refine (spec_l3Opens.calls t531 true _ A14.out).mono ?_); rintro e w' ⟨rfl, ⟨nd, rfl⟩⟩; refine ⟨_, rfl, ?_⟩) | ((with_reducible refine gate_callee (f := 93) rfl ?_); refine goesL_ (some 29) rfl rfl Try.func93 (by kernel_rfl) rfl #[.slice (some ad530) l0.length c0, .int .i64 (rd x7_1 (ji8))] rfl (by (try simp only [List.map_toArray, List.map_cons, List.map_nil]); first | done | (simp only [hji8]; rfl) | rfl | (simp only [List.length_drop, List.length_take]; rfl)) ?_; (with_reducible refine (spec_l3Mate.calls k1 _ _ l0 (rd x7_1 (ji8)) t533 _ ?side1 ?side2 A16.out).mono ?_); (case side1 => repeat (first | exact (Kd.C_below HR0.out (by repeat (first | (with_reducible first | exact HB.out | apply below_alloc | apply pw_below_drewN | apply below_drew1) | exact HB.out))) | (with_reducible refine Kd.C_alloc ?_ _) | (with_reducible refine Kd.C_drewN ?_ _) | (with_reducible refine Kd.C_drew ?_))); (case side2 => exact HC0.out); rintro e w25 ⟨rfl, hb⟩; refine ⟨_, rfl, ?_⟩; have n0_ := az (Kd.R_below (by (with_reducible repeat (first | apply Kd.R_alloc | apply Kd.R_drewN | apply Kd.R_drew)); exact HO_7.out) hb); have n1_ := az (below_step (by repeat (first | (with_reducible first | exact HB.out | apply below_alloc | apply pw_below_drewN | apply below_drew1) | exact HB.out)) hb); clear HO_7; clear HB; have HO_7 := n0_; have HB := n1_; clear n0_ n1_; (try clear hb); (try clear hb2); (try clear hk); (try clear hi)) | ((with_reducible refine gate_callee (f := 82) rfl ?_); refine goesL_ (some 38) rfl rfl Try.func82 (by kernel_rfl) rfl #[.slice A1 l1.length c1, .int .i64 t533] rfl (by (try simp only [List.map_toArray, List.map_cons, List.map_nil]); first | done | rfl) ?_; (with_reducible refine (spec_l3Run.calls k1 _ _ l1 t533 t534 _ ?side1 ?side2 A21.out).mono ?_); (case side1 => repeat (first | exact (Kd.C_below HR1.out HB.out) | (with_reducible refine Kd.C_alloc ?_ _) | (with_reducible refine Kd.C_drewN ?_ _) | (with_reducible refine Kd.C_drew ?_))); (case side2 => exact HC1.out); rintro e w26 ⟨v535, rfl, ho0, hb⟩; refine ⟨_, rfl, ?_⟩; have n0_ := az (Kd.R_elder' (by (with_reducible repeat (first | apply Kd.R_alloc | apply Kd.R_drewN | apply Kd.R_drew)); exact HO_7.out) (Kd.R_base ho0) hb); have n1_ := az (Kd.R_lower (Kd.R_new' ho0 (Kd.R_lt (by (with_reducible repeat (first | apply Kd.R_alloc | apply Kd.R_drewN | apply Kd.R_drew)); exact HO_7.out))) (below_size (by repeat (first | (with_reducible first | exact HB.out | apply below_alloc | apply pw_below_drewN | apply below_drew1) | exact HB.out)))); have n2_ := az (below_step (by repeat (first | (with_reducible first | exact HB.out | apply below_alloc | apply pw_below_drewN | apply below_drew1) | exact HB.out)) hb); clear HO_7; clear HB; have HO_7 := n0_; have HO536 := n1_; have HB := n2_; clear n0_ n1_ n2_; (try clear hb); (try clear hb2); (try clear hk); (try clear hi); (try clear ho0); obtain ⟨Ao28, co28, eo28⟩ := Kd.R_slice HO536.out; subst eo28) | ((with_reducible refine gate_builtin (b := .append) (xs := #[.tmp 35, .tmp 38]) rfl ?_); at_builtin; refine Kd.R_append_rows (Kd.int .i64) (w0 := w) w.heap.size rfl (.tmp 35) (.tmp 38) 22 3 (.int .i64 0) 8 rfl Try.underlying22 info3 rfl (by decide) (by omega) (.slice (some ad529) x7_1.length co23) x7_1 t534 _ _ _ (fun k_ => some k_ ≠ (.slice Ao28 t534.length co28 : Value).ownBlock) (fun _ => False) rfl rfl ?aO ?aR (fun _ _ h => h) (fun _ h => h.elim) ?aF ?aB ?aS ?aL ?_; (case aR => repeat (first | exact (Kd.R_reads' HO536.out).2.2 | (with_reducible refine Kd.C_alloc ?_ _) | (with_reducible refine Kd.C_drewN ?_ _) | (with_reducible refine Kd.C_drew ?_))); (case aB => exact (by repeat (first | (with_reducible first | exact HB.out | apply below_alloc | apply pw_below_drewN | apply below_drew1) | exact HB.out))); (case aF => exact (fun k_ hk => Kd.fresh' (Kd.R_lt (by (with_reducible repeat (first | apply Kd.R_alloc | apply Kd.R_drewN | apply Kd.R_drew)); exact HO536.out)) k_ hk)); (case aO => exact (by (with_reducible repeat (first | apply Kd.R_alloc | apply Kd.R_drewN | apply Kd.R_drew)); exact Kd.R_mono HO_7.out (fun _ hk => hk.2))); (case aS => exact (below_size (by repeat (first | (with_reducible first | exact HB.out | apply below_alloc | apply pw_below_drewN | apply below_drew1) | exact HB.out)))); (case aL => have := LMc22.out; omega); intro v538 w27 ho hb hg hat; rw [← Ny537.out] at ho; have n0_ := az (Kd.R_after (ok := (fun _ => True)) (by (with_reducible repeat (first | apply Kd.R_alloc | apply Kd.R_drewN | apply Kd.R_drew)); exact HO536.out) hg hat); have n1_ := az (hb); have n2_ := az (ho); clear HO536; clear HB; clear HO_7; have HO536 := n0_; have HB := n1_; have HO539 := n2_; clear n0_ n1_ n2_; clear ho hb hg hat))
           go_roundg k1
           case measure => have := HK1.out; omega
           case rel => exact ⟨(y537), H', ⟨by have := HK1.out; omega⟩, ⟨by (with_reducible repeat (first | apply Kd.R_alloc | apply Kd.R_drewN | apply Kd.R_drew)); exact Kd.R_mono HO539.out (fun _ hk => trivial)⟩, ⟨by repeat (first | (with_reducible first | exact HB.out | apply below_alloc | apply pw_below_drewN | apply below_drew1) | exact HB.out)⟩⟩
          ·
           rw [if_neg c22] at H; exact absurd H (by simp)
        ·
         replace c15 := Bool.eq_false_iff.mpr c15; subst c15; have H1 : (some x7_1) = some r := by rw [if_neg (show ¬ (false = true) by decide)] at H; exact H
         clear H; have H := H1; clear H1; obtain rfl := Option.some.inj H; obtain ⟨Ao29, co29, eo29⟩ := Kd.R_slice HO_7.out; subst eo29; have p529 : 0 ≤ ((ji8) : Int) := of_decide_eq_true (by assumption); have q529 : (ji8) < (x7_1.length : Int) := of_decide_eq_true (by assumption); obtain ⟨ad529, e529, hx529_0⟩ := Kd.at_int (Kd.R_reads' HO_7.out).2.2 (ji8) p529 q529
         cases e529
         replace p529 := eq_true p529; replace q529 := eq_true q529; have p530 : 0 ≤ ((rd x7_1 (ji8)) : Int) := of_decide_eq_true (by assumption); have q530 : (rd x7_1 (ji8)) < (l0.length : Int) := of_decide_eq_true (by assumption); obtain ⟨ad530, e530, hx530_0⟩ := Kd.at_int HR0.out (rd x7_1 (ji8)) p530 q530
         cases e530
         replace hx530_0 := (HB.out.cell (World.block_lt_of_cell? w _ hx530_0)).trans hx530_0; replace p530 := eq_true p530; replace q530 := eq_true q530; go_wp2_with (first | ((with_reducible refine gate_callee (f := 20) rfl ?_); refine goesL_ (some 23) rfl rfl Try.func20 (by kernel_rfl) rfl #[.int .i64 (rd l0 (rd x7_1 (ji8)))] rfl (by (try simp only [List.map_toArray, List.map_cons, List.map_nil]); first | done | (simp only [hji8]; rfl) | rfl | (simp only [List.length_drop, List.length_take]; rfl)) ?_; (with_reducible refine (spec_RuneBidi.calls k1 (rd l0 (rd x7_1 (ji8))) t531 _ A13.out).mono ?_); rintro e w30 ⟨rfl, hb⟩; refine ⟨_, rfl, ?_⟩; have n0_ := az (Kd.R_below (by (with_reducible repeat (first | apply Kd.R_alloc | apply Kd.R_drewN | apply Kd.R_drew)); exact HO_7.out) hb); have n1_ := az (below_step (by repeat (first | (with_reducible first | exact HB.out | apply below_alloc | apply pw_below_drewN | apply below_drew1) | exact HB.out)) hb); clear HO_7; clear HB; have HO_7 := n0_; have HB := n1_; clear n0_ n1_; (try clear hb); (try clear hb2); (try clear hk); (try clear hi)) | ((with_reducible refine gate_callee (f := 86) rfl ?_); refine goesL_ (some 24) rfl rfl Try.func86 (by kernel_rfl) rfl #[.int .i64 t531] rfl (by (try simp only [List.map_toArray, List.map_cons, List.map_nil]); first | done | rfl) ?_; (with_reducible refine (spec_l3Opens.calls t531 false _ A14.out).mono ?_); rintro e w' ⟨rfl, ⟨nd, rfl⟩⟩; refine ⟨_, rfl, ?_⟩)); go_ret; exact ⟨_, by first | rfl | (simp [errW_none, errW_some] <;> rfl) | (simp only [← hji8]; first | rfl | (simp [errW_none, errW_some] <;> rfl)) | (simp [*, errW_none, errW_some] <;> rfl), by (with_reducible repeat (first | apply Kd.R_alloc | apply Kd.R_drewN | apply Kd.R_drew)); exact HO_7.out, by repeat (first | (with_reducible first | exact HB.out | apply below_alloc | apply pw_below_drewN | apply below_drew1) | exact HB.out)⟩
       ·
        rw [if_neg c12] at H; exact absurd H (by simp)
      ·
       rw [if_neg c11] at H; exact absurd H (by simp)
     ·
      rw [if_neg c10] at H; exact absurd H (by simp)
    ·
     rw [if_neg c9] at H; exact absurd H (by simp)
 ·
  rw [if_neg c4] at H; exact absurd H (by simp)
mutual
def spec_l3Runs.l0 : Nat → List Int → List Int → List (List Int) → Int → Option ((List (List Int)))
 | 0, _, _, _, _ => none
 | k + 1, x0, x1, x5, x6 => if x6 < (x0.length : Int) then ((spec_l3Run.f k x1 x6).bind fun t544 => (if 0 ≤ (wrap64 ((t544.length : Int) - 1)) then (if (wrap64 ((t544.length : Int) - 1)) < (t544.length : Int) then (if 0 ≤ x6 then ((spec_RuneBidi.f k (rd x0 x6)).bind fun t549 => (if t549 = 22 then ((spec_l3Closes.f k x0 x6).bind fun t550 => (spec_l3Runs.j1 k x0 x1 x5 t544 (rd t544 (wrap64 ((t544.length : Int) - 1))) (!t550))) else (spec_l3Runs.j1 k x0 x1 x5 t544 (rd t544 (wrap64 ((t544.length : Int) - 1))) true))) else (none)) else (none)) else (none))) else (some x5)
def spec_l3Runs.j1 : Nat → List Int → List Int → List (List Int) → List Int → Int → Bool → Option ((List (List Int)))
 | 0, _, _, _, _, _, _ => none
 | k + 1, x0, x1, x5, x7, x8, x36 => if x36 = true then ((spec_l3Chain.f k x0 x1 x7).bind fun t551 => (if x5.length < 5864062014805 then ((spec_l3Left.f k x1 (wrap64 (x8 + 1))).bind fun t557 => (spec_l3Runs.l0 k x0 x1 (x5 ++ [t551]) t557)) else (none))) else ((spec_l3Left.f k x1 (wrap64 (x8 + 1))).bind fun t558 => (spec_l3Runs.l0 k x0 x1 x5 t558))
end
def spec_l3Runs.f (k : Nat) (l0 : List Int) (l1 : List Int) : Option ((List (List Int))) := (spec_l3Left.f k l1 0).bind fun t543 => (spec_l3Runs.l0 k l0 l1 (([] : List (List Int))) t543)
theorem spec_l3Runs.mono_l : ∀ k, (∀ y0 y1 y2 y3, LeO (spec_l3Runs.l0 k y0 y1 y2 y3) (spec_l3Runs.l0 (k + 1) y0 y1 y2 y3)) ∧ (∀ y0 y1 y2 y3 y4 y5, LeO (spec_l3Runs.j1 k y0 y1 y2 y3 y4 y5) (spec_l3Runs.j1 (k + 1) y0 y1 y2 y3 y4 y5))
 | 0 => ⟨fun _ _ _ _ r h => by simp [spec_l3Runs.l0] at h, fun _ _ _ _ _ _ r h => by simp [spec_l3Runs.j1] at h⟩
 | k + 1 => by
  obtain ⟨ih0, ih1⟩ := spec_l3Runs.mono_l k; refine ⟨?_, ?_⟩
  ·
   intro y0 y1 y2 y3; unfold spec_l3Runs.l0
   repeat' first
   | (with_reducible exact ih0 _ _ _ _)
   | (with_reducible exact ih1 _ _ _ _ _ _)
   | (with_reducible exact spec_RuneBidi.mono _ _)
   | (with_reducible exact spec_l3Chain.mono _ _ _ _)
   | (with_reducible exact spec_l3Closes.mono _ _ _)
   | (with_reducible exact spec_l3Left.mono _ _ _)
   | (with_reducible exact spec_l3Run.mono _ _ _)
   | (with_reducible exact LeO.refl _)
   | (with_reducible exact LeO.none _)
   | (with_reducible refine LeO.ite ?_ ?_)
   | (with_reducible refine LeO.bind ?_ (fun _ => ?_))
   | exact ih0 _ _ _ _
   | exact ih1 _ _ _ _ _ _
   | exact spec_RuneBidi.mono _ _
   | exact spec_l3Chain.mono _ _ _ _
   | exact spec_l3Closes.mono _ _ _
   | exact spec_l3Left.mono _ _ _
   | exact spec_l3Run.mono _ _ _
   | exact LeO.none _
   | refine LeO.ite ?_ ?_
   | refine LeO.bind ?_ (fun _ => ?_)
  ·
   intro y0 y1 y2 y3 y4 y5; unfold spec_l3Runs.j1
   repeat' first
   | (with_reducible exact ih0 _ _ _ _)
   | (with_reducible exact ih1 _ _ _ _ _ _)
   | (with_reducible exact spec_RuneBidi.mono _ _)
   | (with_reducible exact spec_l3Chain.mono _ _ _ _)
   | (with_reducible exact spec_l3Closes.mono _ _ _)
   | (with_reducible exact spec_l3Left.mono _ _ _)
   | (with_reducible exact spec_l3Run.mono _ _ _)
   | (with_reducible exact LeO.refl _)
   | (with_reducible exact LeO.none _)
   | (with_reducible refine LeO.ite ?_ ?_)
   | (with_reducible refine LeO.bind ?_ (fun _ => ?_))
   | exact ih0 _ _ _ _
   | exact ih1 _ _ _ _ _ _
   | exact spec_RuneBidi.mono _ _
   | exact spec_l3Chain.mono _ _ _ _
   | exact spec_l3Closes.mono _ _ _
   | exact spec_l3Left.mono _ _ _
   | exact spec_l3Run.mono _ _ _
   | exact LeO.none _
   | refine LeO.ite ?_ ?_
   | refine LeO.bind ?_ (fun _ => ?_)
theorem spec_l3Runs.mono : ∀ a0 a1 k, LeO (spec_l3Runs.f k a0 a1) (spec_l3Runs.f (k + 1) a0 a1) := by
 intro a0 a1 k; obtain ⟨ih0, ih1⟩ := spec_l3Runs.mono_l k; unfold spec_l3Runs.f
 repeat' first
   | (with_reducible exact ih0 _ _ _ _)
   | (with_reducible exact ih1 _ _ _ _ _ _)
   | (with_reducible exact spec_RuneBidi.mono _ _)
   | (with_reducible exact spec_l3Chain.mono _ _ _ _)
   | (with_reducible exact spec_l3Closes.mono _ _ _)
   | (with_reducible exact spec_l3Left.mono _ _ _)
   | (with_reducible exact spec_l3Run.mono _ _ _)
   | (with_reducible exact LeO.refl _)
   | (with_reducible exact LeO.none _)
   | (with_reducible refine LeO.ite ?_ ?_)
   | (with_reducible refine LeO.bind ?_ (fun _ => ?_))
   | exact ih0 _ _ _ _
   | exact ih1 _ _ _ _ _ _
   | exact spec_RuneBidi.mono _ _
   | exact spec_l3Chain.mono _ _ _ _
   | exact spec_l3Closes.mono _ _ _
   | exact spec_l3Left.mono _ _ _
   | exact spec_l3Run.mono _ _ _
   | exact LeO.none _
   | refine LeO.ite ?_ ?_
   | refine LeO.bind ?_ (fun _ => ?_)
theorem spec_l3Runs.calls (k : Nat) (A0 : Option Addr) (c0 : Nat) (l0 : List Int) (A1 : Option Addr) (c1 : Nat) (l1 : List Int) (r : List (List Int)) (w : World) (hr0 : Kd.C (Kd.int .i64) w A0 l0.length l0) (hc0 : l0.length ≤ c0) (hr1 : Kd.C (Kd.int .i64) w A1 l1.length l1) (hc1 : l1.length ≤ c1) (h : spec_l3Runs.f k l0 l1 = some r) :
  Calls Try.prog 55 #[.slice A0 l0.length c0, .slice A1 l1.length c1] w fun e w' => ∃ v0_ : Value, e = .returned (v0_) ∧ Kd.S (Kd.slice 3 (Kd.int .i64)) 22 w' w.heap.size (fun _ => True) v0_ r ∧ Below w.heap.size w w' := by
 have HR0 := az hr0; have HC0 := az hc0; clear hr0 hc0; have HR1 := az hr1; have HC1 := az hc1; clear hr1 hc1; have HB := az (Below.refl w.heap.size w); have H : ((spec_l3Left.f k l1 0).bind fun t543 => (spec_l3Runs.l0 k l0 l1 (([] : List (List Int))) t543)) = some r := h; clear h; obtain ⟨y540, hy540⟩ : ∃ y_ : List (List Int), y_ = (([] : List (List Int))) := ⟨_, rfl⟩; replace H : ((spec_l3Left.f k l1 0).bind fun t543 => (spec_l3Runs.l0 k l0 l1 y540 t543)) = some r := by first | (rw [hy540]; with_reducible exact H) | (have H2_ := (Option.bind_some _ _).symm.trans H; rw [hy540]; with_reducible exact H2_) | (have H2_ := (Option.bind_some _ _).symm.trans H; with_reducible exact H2_) | with_reducible exact H | (rw [hy540]; exact H) | exact H
 have Ny540 := az hy540; clear hy540; replace H := Option.bind_eq_some_iff.mp H; obtain ⟨t543, A30, H⟩ := H; replace H : (spec_l3Runs.l0 k l0 l1 y540 t543) = some r := H; have A3 := az A30; clear A30; have H' := az H; clear H; go_enter Try.func55, Try.ntmps55; go_wp2_with (first | ((with_reducible refine gate_dst (N := 9) rfl ?_); refine Kd.S_lit (Kd.slice 3 (Kd.int .i64)) _ 22 ?hg (N := 9) ?hd (xs := ([] : List (List Int))) (inner := []) (ok := fun _ => True) (okp := fun _ => True) ?hr ?hp (fun _ hk => hk) trivial (Below.refl _ _) (Nat.le_refl _) (by simp) ?_; (case hd => rfl); (case hg => rfl); (case hr => first | (go_simp; done) | (go_simp; rfl)); (case hp => exact (Reps.none _ _)); intro v541 w4 ho5 hb hg_ hnew_; clear hg_ hnew_; (first | rw [← Ny540.out] at ho5 | (simp only [Int.reduceToNat] at ho5; rw [← Ny540.out] at ho5)); have n0_ := az (Kd.S_lower ho5 (below_size (by repeat (first | (with_reducible first | exact HB.out | apply below_alloc | apply pw_below_drewN | apply below_drew1) | exact HB.out)))); have n1_ := az (below_step (by repeat (first | (with_reducible first | exact HB.out | apply below_alloc | apply pw_below_drewN | apply below_drew1) | exact HB.out)) hb); clear HB; have HO542 := n0_; have HB := n1_; clear n0_ n1_; clear hb ho5) | ((with_reducible refine gate_callee (f := 81) rfl ?_); refine goesL_ (some 11) rfl rfl Try.func81 (by kernel_rfl) rfl #[.slice A1 l1.length c1, .int .i64 0] rfl (by (try simp only [List.map_toArray, List.map_cons, List.map_nil]); first | done | rfl) ?_; (with_reducible refine (spec_l3Left.calls k _ _ l1 0 t543 _ ?side1 ?side2 A3.out).mono ?_); (case side1 => repeat (first | exact (Kd.C_below HR1.out HB.out) | (with_reducible refine Kd.C_alloc ?_ _) | (with_reducible refine Kd.C_drewN ?_ _) | (with_reducible refine Kd.C_drew ?_))); (case side2 => exact HC1.out); rintro e w' ⟨rfl, ⟨nd, rfl⟩⟩; refine ⟨_, rfl, ?_⟩)); go_loopg [5, 6] k (fun kq v5 v6 w' => ∃ (x5_1 : List (List Int)) (x6_1 : Int), v6 = .int .i64 x6_1 ∧ Aside0 (spec_l3Runs.l0 kq l0 l1 x5_1 x6_1 = some r) ∧ Aside0 (kq ≤ k) ∧ Aside0 (Kd.S (Kd.slice 3 (Kd.int .i64)) 22 w' w.heap.size (fun _ => True) v5 x5_1) ∧ Aside0 (Below w.heap.size w w'))
 case atStart => exact ⟨(y540), (t543), (by first | rfl | (simp; done) | (simp [*]; done)), H', ⟨Nat.le_refl _⟩, ⟨by (with_reducible repeat (first | apply Kd.S_alloc | apply Kd.S_drewN | apply Kd.S_drew)); exact HO542.out⟩, ⟨by repeat (first | (with_reducible first | exact HB.out | apply below_alloc | apply pw_below_drewN | apply below_drew1) | exact HB.out)⟩⟩
 case round =>
  clear H'; (try clear c1); (try clear p2); (try clear c5); obtain ⟨x5_1, x6_1, rfl, HA, HK1, HO_5, HB⟩ := hrel
  cases gk with
  | zero => exact absurd HA.out (by simp [spec_l3Runs.l0])
  | succ k1 =>
   have H := HA.out; clear HA; simp only [spec_l3Runs.l0] at H; by_cases c6 : x6_1 < (l0.length : Int)
   ·
    rw [if_pos c6] at H; have c6b0 : decide (x6_1 < (l0.length : Int)) = true := decide_eq_true c6; clear c6; replace H := Option.bind_eq_some_iff.mp H; obtain ⟨t544, A70, H⟩ := H; replace H : (if 0 ≤ (wrap64 ((t544.length : Int) - 1)) then (if (wrap64 ((t544.length : Int) - 1)) < (t544.length : Int) then (if 0 ≤ x6_1 then ((spec_RuneBidi.f k1 (rd l0 x6_1)).bind fun t549 => (if t549 = 22 then ((spec_l3Closes.f k1 l0 x6_1).bind fun t550 => (spec_l3Runs.j1 k1 l0 l1 x5_1 t544 (rd t544 (wrap64 ((t544.length : Int) - 1))) (!t550))) else (spec_l3Runs.j1 k1 l0 l1 x5_1 t544 (rd t544 (wrap64 ((t544.length : Int) - 1))) true))) else (none)) else (none)) else (none)) = some r := H; have A7 := az A70; clear A70; obtain ⟨ji8, hji8⟩ : ∃ j_ : Int, (wrap64 ((t544.length : Int) - 1)) = j_ := ⟨_, rfl⟩; replace H : (if 0 ≤ (ji8) then (if (ji8) < (t544.length : Int) then (if 0 ≤ x6_1 then ((spec_RuneBidi.f k1 (rd l0 x6_1)).bind fun t549 => (if t549 = 22 then ((spec_l3Closes.f k1 l0 x6_1).bind fun t550 => (spec_l3Runs.j1 k1 l0 l1 x5_1 t544 (rd t544 (ji8)) (!t550))) else (spec_l3Runs.j1 k1 l0 l1 x5_1 t544 (rd t544 (ji8)) true))) else (none)) else (none)) else (none)) = some r := by first | (rw [hji8] at H; exact H) | (simp only [hji8] at H ⊢; exact H)
    (try rw [hji8] at A7); have hji8w : (IntKind.i64.wrap ((t544.length : Int) - 1)) = ji8 := (i64_w _).trans hji8; by_cases c9 : 0 ≤ (ji8)
    ·
     rw [if_pos c9] at H; have c9b0 : decide (0 ≤ (ji8)) = true := decide_eq_true c9; clear c9; by_cases c10 : (ji8) < (t544.length : Int)
     ·
      rw [if_pos c10] at H; have c10b0 : decide ((ji8) < (t544.length : Int)) = true := decide_eq_true c10; clear c10; have HC11 := az H; clear H; go_upto_region 6 with (first | ((with_reducible refine gate_callee (f := 82) rfl ?_); refine goesL_ (some 18) rfl rfl Try.func82 (by kernel_rfl) rfl #[.slice A1 l1.length c1, .int .i64 x6_1] rfl (by (try simp only [List.map_toArray, List.map_cons, List.map_nil]); first | done | rfl) ?_; (with_reducible refine (spec_l3Run.calls k1 _ _ l1 x6_1 t544 _ ?side1 ?side2 A7.out).mono ?_); (case side1 => repeat (first | exact (Kd.C_below HR1.out HB.out) | (with_reducible refine Kd.C_alloc ?_ _) | (with_reducible refine Kd.C_drewN ?_ _) | (with_reducible refine Kd.C_drew ?_))); (case side2 => exact HC1.out); rintro e w12 ⟨v545, rfl, ho0, hb⟩; refine ⟨_, rfl, ?_⟩; have n0_ := az (Kd.S_elder' (by (with_reducible repeat (first | apply Kd.S_alloc | apply Kd.S_drewN | apply Kd.S_drew)); exact HO_5.out) (Kd.R_base ho0) hb); have n1_ := az (Kd.R_lower ho0 (below_size (by repeat (first | (with_reducible first | exact HB.out | apply below_alloc | apply pw_below_drewN | apply below_drew1) | exact HB.out)))); have n2_ := az (below_step (by repeat (first | (with_reducible first | exact HB.out | apply below_alloc | apply pw_below_drewN | apply below_drew1) | exact HB.out)) hb); clear HO_5; clear HB; have HO_5 := n0_; have HO546 := n1_; have HB := n2_; clear n0_ n1_ n2_; (try clear hb); (try clear hb2); (try clear hk); (try clear hi); (try clear ho0); obtain ⟨Ao13, co13, eo13⟩ := Kd.R_slice HO546.out; subst eo13; have p547 : 0 ≤ ((ji8) : Int) := of_decide_eq_true (by assumption); have q547 : (ji8) < (t544.length : Int) := of_decide_eq_true (by assumption); obtain ⟨ad547, e547, hx547_0⟩ := Kd.at_int (Kd.R_reads' HO546.out).2.2 (ji8) p547 q547; cases e547; replace p547 := eq_true p547; replace q547 := eq_true q547))
      (try simp only [Act.put, List.setIfInBounds_toArray, List.set_cons_zero, List.set_cons_succ]); go_cut [36] (fun v36 wc => ∃ (kq : Nat) (x36_10 : Bool), v36 = .bool x36_10 ∧ Aside0 (spec_l3Runs.j1 kq l0 l1 x5_1 t544 (rd t544 (ji8)) x36_10 = some r) ∧ Aside0 (kq ≤ k1) ∧ Aside0 (Kd.S (Kd.slice 3 (Kd.int .i64)) 22 wc w.heap.size (fun k_ => some k_ ≠ ((.slice (some ad547) t544.length co13) : Value).ownBlock) u5 x5_1) ∧ Aside0 (Kd.R (Kd.int .i64) 3 wc w.heap.size (fun _ => True) (.slice (some ad547) t544.length co13) t544) ∧ Aside0 (Below w.heap.size w wc))
      case first =>
       have H := HC11.out; clear HC11; by_cases c14 : 0 ≤ x6_1
       ·
        rw [if_pos c14] at H; have c14b0 : decide (0 ≤ x6_1) = true := decide_eq_true c14; clear c14; (first | rw [c14b0] | (simp only [i64_w, i32_w]; rw [c14b0]) | skip); replace H := Option.bind_eq_some_iff.mp H; obtain ⟨t549, A150, H⟩ := H; replace H : (if t549 = 22 then ((spec_l3Closes.f k1 l0 x6_1).bind fun t550 => (spec_l3Runs.j1 k1 l0 l1 x5_1 t544 (rd t544 (ji8)) (!t550))) else (spec_l3Runs.j1 k1 l0 l1 x5_1 t544 (rd t544 (ji8)) true)) = some r := H; have A15 := az A150; clear A150; by_cases c16 : t549 = 22
        ·
         rw [if_pos c16] at H; have c16b0 : (t549 == 22) = true := beq_iff_eq.mpr c16; have c16b1 : (t549 != 22) = false := bne_eq_false_iff_eq.mpr c16; clear c16; replace H := Option.bind_eq_some_iff.mp H; obtain ⟨t550, A170, H⟩ := H; replace H : (spec_l3Runs.j1 k1 l0 l1 x5_1 t544 (rd t544 (ji8)) (!t550)) = some r := H; have A17 := az A170; clear A170; have H' := az H; clear H; have p548 : 0 ≤ (x6_1 : Int) := of_decide_eq_true (by assumption); have q548 : x6_1 < (l0.length : Int) := of_decide_eq_true (by assumption); obtain ⟨ad548, e548, hx548_0⟩ := Kd.at_int HR0.out x6_1 p548 q548
         cases e548
         replace hx548_0 := (HB.out.cell (World.block_lt_of_cell? w _ hx548_0)).trans hx548_0; replace p548 := eq_true p548; replace q548 := eq_true q548; go_wp2_with (first | ((with_reducible refine gate_callee (f := 20) rfl ?_); refine goesL_ (some 29) rfl rfl Try.func20 (by kernel_rfl) rfl #[.int .i64 (rd l0 x6_1)] rfl (by (try simp only [List.map_toArray, List.map_cons, List.map_nil]); first | done | rfl) ?_; (with_reducible refine (spec_RuneBidi.calls k1 (rd l0 x6_1) t549 _ A15.out).mono ?_); rintro e w18 ⟨rfl, hb⟩; refine ⟨_, rfl, ?_⟩; have n0_ := az (Kd.S_below (by (with_reducible repeat (first | apply Kd.S_alloc | apply Kd.S_drewN | apply Kd.S_drew)); exact HO_5.out) hb); have n1_ := az (Kd.R_below (by (with_reducible repeat (first | apply Kd.R_alloc | apply Kd.R_drewN | apply Kd.R_drew)); exact HO546.out) hb); have n2_ := az (below_step (by repeat (first | (with_reducible first | exact HB.out | apply below_alloc | apply pw_below_drewN | apply below_drew1) | exact HB.out)) hb); clear HO_5; clear HO546; clear HB; have HO_5 := n0_; have HO546 := n1_; have HB := n2_; clear n0_ n1_ n2_; (try clear hb); (try clear hb2); (try clear hk); (try clear hi)) | (go_at_call 83; (with_reducible refine (spec_l3Closes.calls k1 _ _ l0 x6_1 t550 _ ?side1 ?side2 A17.out).mono ?_); (case side1 => repeat (first | exact (Kd.C_below HR0.out HB.out) | (with_reducible refine Kd.C_alloc ?_ _) | (with_reducible refine Kd.C_drewN ?_ _) | (with_reducible refine Kd.C_drew ?_))); (case side2 => exact HC0.out); rintro e w19 ⟨rfl, hb⟩; have n0_ := az (Kd.S_below (by (with_reducible repeat (first | apply Kd.S_alloc | apply Kd.S_drewN | apply Kd.S_drew)); exact HO_5.out) hb); have n1_ := az (Kd.R_below (by (with_reducible repeat (first | apply Kd.R_alloc | apply Kd.R_drewN | apply Kd.R_drew)); exact HO546.out) hb); have n2_ := az (below_step (by repeat (first | (with_reducible first | exact HB.out | apply below_alloc | apply pw_below_drewN | apply below_drew1) | exact HB.out)) hb); clear HO_5; clear HO546; clear HB; have HO_5 := n0_; have HO546 := n1_; have HB := n2_; clear n0_ n1_ n2_; (try clear hb); (try clear hb2); (try clear hk); (try clear hi))); go_meet
         case rel => exact ⟨_, (!t550), (by first | rfl | (simp; done) | (simp [*]; done)), H', ⟨by have := HK1.out; first | omega | exact Nat.le_refl _⟩, ⟨by (with_reducible repeat (first | apply Kd.S_alloc | apply Kd.S_drewN | apply Kd.S_drew)); exact Kd.S_mono HO_5.out (fun _ hk => hk.2)⟩, ⟨by (with_reducible repeat (first | apply Kd.R_alloc | apply Kd.R_drewN | apply Kd.R_drew)); exact HO546.out⟩, ⟨by repeat (first | (with_reducible first | exact HB.out | apply below_alloc | apply pw_below_drewN | apply below_drew1) | exact HB.out)⟩⟩
        ·
         rw [if_neg c16] at H; have c16b0 : (t549 == 22) = false := beq_eq_false_iff_ne.mpr c16; have c16b1 : (t549 != 22) = true := bne_iff_ne.mpr c16; have H' := az H; clear H; have p548 : 0 ≤ (x6_1 : Int) := of_decide_eq_true (by assumption); have q548 : x6_1 < (l0.length : Int) := of_decide_eq_true (by assumption); obtain ⟨ad548, e548, hx548_0⟩ := Kd.at_int HR0.out x6_1 p548 q548
         cases e548
         replace hx548_0 := (HB.out.cell (World.block_lt_of_cell? w _ hx548_0)).trans hx548_0; replace p548 := eq_true p548; replace q548 := eq_true q548; go_wp2_with (first | ((with_reducible refine gate_callee (f := 20) rfl ?_); refine goesL_ (some 29) rfl rfl Try.func20 (by kernel_rfl) rfl #[.int .i64 (rd l0 x6_1)] rfl (by (try simp only [List.map_toArray, List.map_cons, List.map_nil]); first | done | rfl) ?_; (with_reducible refine (spec_RuneBidi.calls k1 (rd l0 x6_1) t549 _ A15.out).mono ?_); rintro e w20 ⟨rfl, hb⟩; refine ⟨_, rfl, ?_⟩; have n0_ := az (Kd.S_below (by (with_reducible repeat (first | apply Kd.S_alloc | apply Kd.S_drewN | apply Kd.S_drew)); exact HO_5.out) hb); have n1_ := az (Kd.R_below (by (with_reducible repeat (first | apply Kd.R_alloc | apply Kd.R_drewN | apply Kd.R_drew)); exact HO546.out) hb); have n2_ := az (below_step (by repeat (first | (with_reducible first | exact HB.out | apply below_alloc | apply pw_below_drewN | apply below_drew1) | exact HB.out)) hb); clear HO_5; clear HO546; clear HB; have HO_5 := n0_; have HO546 := n1_; have HB := n2_; clear n0_ n1_ n2_; (try clear hb); (try clear hb2); (try clear hk); (try clear hi))); go_meet
         case rel => exact ⟨_, (true), (by first | rfl | (simp; done) | (simp [*]; done)), H', ⟨by have := HK1.out; first | omega | exact Nat.le_refl _⟩, ⟨by (with_reducible repeat (first | apply Kd.S_alloc | apply Kd.S_drewN | apply Kd.S_drew)); exact Kd.S_mono HO_5.out (fun _ hk => hk.2)⟩, ⟨by (with_reducible repeat (first | apply Kd.R_alloc | apply Kd.R_drewN | apply Kd.R_drew)); exact HO546.out⟩, ⟨by repeat (first | (with_reducible first | exact HB.out | apply below_alloc | apply pw_below_drewN | apply below_drew1) | exact HB.out)⟩⟩
       ·
        rw [if_neg c14] at H; exact absurd H (by simp)
      case rest =>
       clear HC11; (try clear c1); (try clear c2); (try clear p2); (try clear c5); (try clear p5); (try clear q5); (try clear hx5); (try clear c6); (try clear c6b0); (try clear p6); (try clear c8); (try clear c9); (try clear c9b0); (try clear c10); (try clear c10b0); (try clear c14); (try clear c14b0); (try clear c16); (try clear c16b0); (try clear c16b1); (try clear c20); (try clear hx547_0); (try clear hx548_0); (try clear p2); (try clear p547); (try clear p548); (try clear q547); (try clear q548); obtain ⟨kq, x36_10, rfl, HA, HJ10, HO_5, HO_7, HB⟩ := hcut
       cases kq with
       | zero => exact absurd HA.out (by simp [spec_l3Runs.j1])
       | succ kj10 =>
        have H := HA.out; clear HA; simp only [spec_l3Runs.j1] at H; by_cases c21 : x36_10 = true
        ·
         subst c21; have H1 : ((spec_l3Chain.f kj10 l0 l1 t544).bind fun t551 => (if x5_1.length < 5864062014805 then ((spec_l3Left.f kj10 l1 (wrap64 ((rd t544 (ji8)) + 1))).bind fun t557 => (spec_l3Runs.l0 kj10 l0 l1 (x5_1 ++ [t551]) t557)) else (none))) = some r := by rw [if_pos rfl] at H; exact H
         clear H; have H := H1; clear H1; replace H := Option.bind_eq_some_iff.mp H; obtain ⟨t551, A220, H⟩ := H; replace H : (if x5_1.length < 5864062014805 then ((spec_l3Left.f kj10 l1 (wrap64 ((rd t544 (ji8)) + 1))).bind fun t557 => (spec_l3Runs.l0 kj10 l0 l1 (x5_1 ++ [t551]) t557)) else (none)) = some r := H; have A22 := az A220; clear A220; by_cases c23 : x5_1.length < 5864062014805
         ·
          rw [if_pos c23] at H; have LMc23 := az c23; clear c23; obtain ⟨y554, hy554⟩ : ∃ y_ : List (List Int), y_ = (x5_1 ++ [t551]) := ⟨_, rfl⟩; replace H : ((spec_l3Left.f kj10 l1 (wrap64 ((rd t544 (ji8)) + 1))).bind fun t557 => (spec_l3Runs.l0 kj10 l0 l1 y554 t557)) = some r := by first | (rw [hy554]; with_reducible exact H) | (have H2_ := (Option.bind_some _ _).symm.trans H; rw [hy554]; with_reducible exact H2_) | (have H2_ := (Option.bind_some _ _).symm.trans H; with_reducible exact H2_) | with_reducible exact H | (rw [hy554]; exact H) | exact H
          have Ny554 := az hy554; clear hy554; replace H := Option.bind_eq_some_iff.mp H; obtain ⟨t557, A240, H⟩ := H; replace H : (spec_l3Runs.l0 kj10 l0 l1 y554 t557) = some r := H; have A24 := az A240; clear A240; have H' := az H; clear H; go_wp2_with (first | ((with_reducible refine gate_callee (f := 84) rfl ?_); refine goesL_ (some 41) rfl rfl Try.func84 (by kernel_rfl) rfl #[.slice A0 l0.length c0, .slice A1 l1.length c1, .slice (some ad547) t544.length co13] rfl (by (try simp only [List.map_toArray, List.map_cons, List.map_nil]); first | done | rfl) ?_; (with_reducible refine (spec_l3Chain.calls kj10 _ _ l0 _ _ l1 _ _ t544 t551 _ ?side1 ?side2 ?side3 ?side4 ?side5 ?side6 A22.out).mono ?_); (case side1 => repeat (first | exact (Kd.C_below HR0.out HB.out) | (with_reducible refine Kd.C_alloc ?_ _) | (with_reducible refine Kd.C_drewN ?_ _) | (with_reducible refine Kd.C_drew ?_))); (case side2 => exact HC0.out); (case side3 => repeat (first | exact (Kd.C_below HR1.out HB.out) | (with_reducible refine Kd.C_alloc ?_ _) | (with_reducible refine Kd.C_drewN ?_ _) | (with_reducible refine Kd.C_drew ?_))); (case side4 => exact HC1.out); (case side5 => repeat (first | exact (Kd.R_reads' HO_7.out).2.2 | (with_reducible refine Kd.C_alloc ?_ _) | (with_reducible refine Kd.C_drewN ?_ _) | (with_reducible refine Kd.C_drew ?_))); (case side6 => exact (Kd.R_reads' HO_7.out).2.1); rintro e w25 ⟨v552, rfl, ho0, hb⟩; refine ⟨_, rfl, ?_⟩; have n0_ := az (Kd.S_elder' (by (with_reducible repeat (first | apply Kd.S_alloc | apply Kd.S_drewN | apply Kd.S_drew)); exact HO_5.out) (Kd.R_base ho0) hb); have n1_ := az (Kd.R_elder' (by (with_reducible repeat (first | apply Kd.R_alloc | apply Kd.R_drewN | apply Kd.R_drew)); exact HO_7.out) (Kd.R_base ho0) hb); have n2_ := az (Kd.R_lower (Kd.R_new' ho0 (Kd.R_lt (by (with_reducible repeat (first | apply Kd.R_alloc | apply Kd.R_drewN | apply Kd.R_drew)); exact HO_7.out))) (below_size (by repeat (first | (with_reducible first | exact HB.out | apply below_alloc | apply pw_below_drewN | apply below_drew1) | exact HB.out)))); have n3_ := az (below_step (by repeat (first | (with_reducible first | exact HB.out | apply below_alloc | apply pw_below_drewN | apply below_drew1) | exact HB.out)) hb); clear HO_5; clear HO_7; clear HB; have HO_5 := n0_; have HO_7 := n1_; have HO553 := n2_; have HB := n3_; clear n0_ n1_ n2_ n3_; (try clear hb); (try clear hb2); (try clear hk); (try clear hi); (try clear ho0); obtain ⟨Ao27, co27, eo27⟩ := Kd.R_slice HO553.out; subst eo27) | ((with_reducible refine gate_builtin (b := .append) (xs := #[.tmp 37, .tmp 42]) rfl ?_); at_builtin; refine Kd.S_append (Kd.slice 3 (Kd.int .i64)) (w0 := w) w.heap.size rfl (.tmp 37) (.tmp 42) 36 22 (.slice none 0 0) 24 rfl Try.underlying36 info22 rfl (by decide) (by omega) u5 x5_1 t551 [.slice Ao27 t551.length co27] (fun k_ => some k_ ≠ (.slice (some ad547) t544.length co13 : Value).ownBlock) (fun k_ => some k_ = (.slice Ao27 t551.length co27 : Value).ownBlock) rfl rfl ?aP (fun k_ hk_ => ((Kd.R_mono (ok' := fun k_ => ((fun k_ => some k_ ≠ (.slice (some ad547) t544.length co13 : Value).ownBlock)) k_ ∧ some k_ ≠ (u5 : Value).ownBlock) (Kd.R_apart' (HO553.out) (Kd.S_typed HO_5.out) (by decide)) (fun k_ hk => ⟨hk.1.2, hk.2⟩))).1 k_ hk_.symm) ?aF ?aO ?aB ?aS ?aL ?_; (case aP => exact Kd.M_row (Kd.R_mono (Kd.R_tight rfl (Kd.R_mono (ok' := fun k_ => ((fun k_ => some k_ ≠ (.slice (some ad547) t544.length co13 : Value).ownBlock)) k_ ∧ some k_ ≠ (u5 : Value).ownBlock) (Kd.R_apart' (HO553.out) (Kd.S_typed HO_5.out) (by decide)) (fun k_ hk => ⟨hk.1.2, hk.2⟩))) (fun _ h_ => h_))); (case aB => exact (by repeat (first | (with_reducible first | exact HB.out | apply below_alloc | apply pw_below_drewN | apply below_drew1) | exact HB.out))); (case aF => exact (fun k_ hk => Kd.fresh' (Kd.R_lt (by (with_reducible repeat (first | apply Kd.R_alloc | apply Kd.R_drewN | apply Kd.R_drew)); exact HO_7.out)) k_ hk)); (case aO => exact (by (with_reducible repeat (first | apply Kd.S_alloc | apply Kd.S_drewN | apply Kd.S_drew)); exact Kd.S_mono HO_5.out (fun k_ hk => ⟨hk.1, fun e_ => hk.2 e_⟩))); (case aS => exact (below_size (by repeat (first | (with_reducible first | exact HB.out | apply below_alloc | apply pw_below_drewN | apply below_drew1) | exact HB.out)))); (case aL => have := LMc23.out; omega); intro v555 w26 ho hb hg hat; rw [← Ny554.out] at ho; have n0_ := az (Kd.R_over' (by (with_reducible repeat (first | apply Kd.R_alloc | apply Kd.R_drewN | apply Kd.R_drew)); exact HO_7.out) (Kd.S_typed (by (with_reducible repeat (first | apply Kd.S_alloc | apply Kd.S_drewN | apply Kd.S_drew)); exact HO_5.out)) (by decide) hg); have n1_ := az (hb); have n2_ := az (ho); clear HO_7; clear HB; clear HO_5; clear HO553; have HO_7 := n0_; have HB := n1_; have HO556 := n2_; clear n0_ n1_ n2_; clear ho hb hg hat) | ((with_reducible refine gate_callee (f := 81) rfl ?_); refine goesL_ (some 47) rfl rfl Try.func81 (by kernel_rfl) rfl #[.slice A1 l1.length c1, .int .i64 (wrap64 ((rd t544 (ji8)) + 1))] rfl (by (try simp only [List.map_toArray, List.map_cons, List.map_nil]); first | done | (simp only [hji8]; rfl) | rfl | (simp only [List.length_drop, List.length_take]; rfl)) ?_; (with_reducible refine (spec_l3Left.calls kj10 _ _ l1 (wrap64 ((rd t544 (ji8)) + 1)) t557 _ ?side1 ?side2 A24.out).mono ?_); (case side1 => repeat (first | exact (Kd.C_below HR1.out HB.out) | (with_reducible refine Kd.C_alloc ?_ _) | (with_reducible refine Kd.C_drewN ?_ _) | (with_reducible refine Kd.C_drew ?_))); (case side2 => exact HC1.out); rintro e w' ⟨rfl, ⟨nd, rfl⟩⟩; refine ⟨_, rfl, ?_⟩))
          go_roundg kj10
          case measure => have := HK1.out; have := HJ10.out; omega
          case rel => exact ⟨(y554), (t557), (by first | rfl | (simp; done) | (simp [*]; done)), H', ⟨by have := HK1.out; have := HJ10.out; omega⟩, ⟨by (with_reducible repeat (first | apply Kd.S_alloc | apply Kd.S_drewN | apply Kd.S_drew)); exact Kd.S_mono HO556.out (fun _ hk => trivial)⟩, ⟨by repeat (first | (with_reducible first | exact HB.out | apply below_alloc | apply pw_below_drewN | apply below_drew1) | exact HB.out)⟩⟩
         ·
          rw [if_neg c23] at H; exact absurd H (by simp)
        ·
         replace c21 := Bool.eq_false_iff.mpr c21; subst c21; have H1 : ((spec_l3Left.f kj10 l1 (wrap64 ((rd t544 (ji8)) + 1))).bind fun t558 => (spec_l3Runs.l0 kj10 l0 l1 x5_1 t558)) = some r := by rw [if_neg (show ¬ (false = true) by decide)] at H; exact H
         clear H; have H := H1; clear H1; replace H := Option.bind_eq_some_iff.mp H; obtain ⟨t558, A280, H⟩ := H; replace H : (spec_l3Runs.l0 kj10 l0 l1 x5_1 t558) = some r := H; have A28 := az A280; clear A280; have H' := az H; clear H; go_wp2_with (first | ((with_reducible refine gate_callee (f := 81) rfl ?_); refine goesL_ (some 47) rfl rfl Try.func81 (by kernel_rfl) rfl #[.slice A1 l1.length c1, .int .i64 (wrap64 ((rd t544 (ji8)) + 1))] rfl (by (try simp only [List.map_toArray, List.map_cons, List.map_nil]); first | done | (simp only [hji8]; rfl) | rfl | (simp only [List.length_drop, List.length_take]; rfl)) ?_; (with_reducible refine (spec_l3Left.calls kj10 _ _ l1 (wrap64 ((rd t544 (ji8)) + 1)) t558 _ ?side1 ?side2 A28.out).mono ?_); (case side1 => repeat (first | exact (Kd.C_below HR1.out HB.out) | (with_reducible refine Kd.C_alloc ?_ _) | (with_reducible refine Kd.C_drewN ?_ _) | (with_reducible refine Kd.C_drew ?_))); (case side2 => exact HC1.out); rintro e w' ⟨rfl, ⟨nd, rfl⟩⟩; refine ⟨_, rfl, ?_⟩)); go_roundg kj10
         case measure => have := HK1.out; have := HJ10.out; omega
         case rel => exact ⟨(x5_1), (t558), (by first | rfl | (simp; done) | (simp [*]; done)), H', ⟨by have := HK1.out; have := HJ10.out; omega⟩, ⟨by (with_reducible repeat (first | apply Kd.S_alloc | apply Kd.S_drewN | apply Kd.S_drew)); exact Kd.S_mono HO_5.out (fun _ hk => trivial)⟩, ⟨by repeat (first | (with_reducible first | exact HB.out | apply below_alloc | apply pw_below_drewN | apply below_drew1) | exact HB.out)⟩⟩
     ·
      rw [if_neg c10] at H; exact absurd H (by simp)
    ·
     rw [if_neg c9] at H; exact absurd H (by simp)
   ·
    rw [if_neg c6] at H; have c6b0 : decide (x6_1 < (l0.length : Int)) = false := decide_eq_false c6; clear c6; obtain rfl := Option.some.inj H; go_wp2; go_ret; exact ⟨_, by first | rfl | (simp [errW_none, errW_some] <;> rfl) | (simp [*, errW_none, errW_some] <;> rfl), by (with_reducible repeat (first | apply Kd.S_alloc | apply Kd.S_drewN | apply Kd.S_drew)); exact HO_5.out, by repeat (first | (with_reducible first | exact HB.out | apply below_alloc | apply pw_below_drewN | apply below_drew1) | exact HB.out)⟩
def spec_LevelRuns.f (k : Nat) (l0 : List Int) (a1 : Int) : Option (List (List Int)) :=
 (spec_l3Ok.f k l0 a1).bind fun b => if b = true then (if l0.length ≤ 400 then (walkF k l0 a1 l0.length).bind fun s => spec_l3Runs.f k l0 s.lv else none) else some []
theorem spec_LevelRuns.mono : ∀ a0 a1 k, LeO (spec_LevelRuns.f k a0 a1) (spec_LevelRuns.f (k + 1) a0 a1) := by
 intro a0 a1 k
 unfold spec_LevelRuns.f
 refine LeO.bind (spec_l3Ok.mono _ _ _) (fun b => LeO.ite (LeO.ite (LeO.bind (walkF_mono _ _ _ _) (fun s => spec_l3Runs.mono _ _ _)) (LeO.refl _)) (LeO.refl _))
theorem spec_LevelRuns.calls (k : Nat) (A0 : Option Addr) (c0 : Nat) (l0 : List Int) (a1 : Int) (r : List (List Int)) (w : World) (hr0 : Kd.C (Kd.int .i64) w A0 l0.length l0) (hc0 : l0.length ≤ c0) (h : spec_LevelRuns.f k l0 a1 = some r) :
  Calls Try.prog 22 #[.slice A0 l0.length c0, .int .i64 a1] w fun e w' => ∃ v0_ : Value, e = .returned (v0_) ∧ Kd.S (Kd.slice 3 (Kd.int .i64)) 22 w' w.heap.size (fun _ => True) v0_ r ∧ Below w.heap.size w w' := by
 have HR := az hr0
 have HC := az hc0
 clear hr0 hc0
 unfold spec_LevelRuns.f at h
 obtain ⟨b, hb, h⟩ := Option.bind_eq_some_iff.mp h
 have HOK := az hb
 clear hb
 cases b with
 | false =>
  rw [if_neg (by decide)] at h
  obtain rfl := Option.some.inj h
  clear h
  go_enter Try.func22, Try.ntmps22
  go_wp2_with (first
   | (go_at_call 45; refine (spec_l3Ok.calls k _ _ l0 a1 false _ HR.out HC.out HOK.out).mono ?_; rintro e w1 ⟨rfl, ⟨nd, rfl⟩⟩)
   | ((with_reducible refine gate_dst (N := 10) rfl ?_); refine Kd.S_lit (Kd.slice 3 (Kd.int .i64)) _ 22 ?hg (N := 10) ?hd (xs := ([] : List (List Int))) (inner := []) (ok := fun _ => True) (okp := fun _ => True) ?hr ?hp (fun _ hk => hk) trivial (Below.refl _ _) (Nat.le_refl _) (by simp) ?_; (case hd => rfl); (case hg => rfl); (case hr => first | (go_simp; done) | (go_simp; rfl)); (case hp => exact (Reps.none _ _)); intro v5 w6 ho6 hb6 hg_ hnew_; have HO6 := az ho6; have HB6 := az hb6; clear hg_ hnew_ ho6 hb6))
  go_ret
  exact ⟨_, rfl, Kd.S_lower HO6.out (Nat.le_refl _), below_then (pw_below_drewN (Below.refl w.heap.size w) nd) (pw_below_drewN (Below.refl w.heap.size w) nd).size HB6.out⟩
 | true =>
  rw [if_pos rfl] at h
  by_cases hn : l0.length ≤ 400
  ·
   rw [if_pos hn] at h
   obtain ⟨s, hs, h⟩ := Option.bind_eq_some_iff.mp h
   have HS := az hs
   have HN := az hn
   have HF := az h
   clear h hs hn
   go_enter Try.func22, Try.ntmps22
   go_wp2_with (first
    | (go_at_call 45; refine (spec_l3Ok.calls k _ _ l0 a1 true _ HR.out HC.out HOK.out).mono ?_; rintro e w1 ⟨rfl, ⟨nd, rfl⟩⟩)
    | (go_at_call 46; refine (l3All_calls k A0 c0 l0 a1 s _ (Kd.C_below HR.out (pw_below_drewN (Below.refl _ _) nd)) HC.out HN.out HS.out).mono ?_; rintro e w2 ⟨gb, rfl, h2, hb2⟩; obtain ⟨vl, vc, vs, q1, q2, q3, q4, q5⟩ := h2; obtain ⟨Al, cl_, hvl, hll, hCl⟩ := Kd.R_reads q2; subst hvl; have hc1 := (blk_cell q1 1).trans (show _ = some (.slice Al s.lv.length cl_) from rfl); have QC := az hCl; have QL := az hll; have HB2 := az (below_then (pw_below_drewN (Below.refl w.heap.size w) nd) (pw_below_drewN (Below.refl w.heap.size w) nd).size hb2); clear q1 q2 q3 q4 q5 hb2 hll hCl)
    | (go_at_call 55; refine (spec_l3Runs.calls k A0 c0 l0 Al cl_ s.lv r _ (Kd.C_below HR.out HB2.out) HC.out QC.out QL.out HF.out).mono ?_; rintro e w3 ⟨v3, rfl, ho3, hb3⟩; have HO3 := az ho3; have HB3 := az (below_then HB2.out HB2.out.size hb3); clear ho3 hb3))
   go_ret
   exact ⟨_, rfl, Kd.S_lower HO3.out HB2.out.size, HB3.out⟩
  ·
   rw [if_neg hn] at h
   cases h
def fstP (x : S62) : Int := x.f0.getD 0 0
def lastI (l : List Int) : Int := l.getD (l.length - 1) 0
def byF (ps : List S62) : Nat → Int → Option Int
 | 0 => fun _ => none
 | i + 1 => fun a => if a = fstP (ps.getD i z62) then some (i : Int) else byF ps i a
def chainG (ps : List S62) (mt : Int → Option Int) : Nat → List Int → List Int
 | 0, l => l
 | g + 1, l => match mt (lastI l) with
  | none => l
  | some m => match byF ps ps.length m with
   | none => l
   | some x => chainG ps mt g (l ++ (ps.getD x.toNat z62).f0)
def runsF (ps : List S62) (mt cd : Int → Option Int) (N : Nat) : Nat → List S62
 | 0 => []
 | i + 1 => if (cd (fstP (ps.getD i z62))).isSome = true then runsF ps mt cd N i else runsF ps mt cd N i ++ [⟨chainG ps mt N (ps.getD i z62).f0, (ps.getD i z62).f1⟩]
theorem runsF_len (ps : List S62) (mt cd : Int → Option Int) (N : Nat) : ∀ i, (runsF ps mt cd N i).length ≤ i
 | 0 => Nat.le_refl _
 | i + 1 => by
  have := runsF_len ps mt cd N i
  rw [runsF]
  split
  · omega
  · rw [List.length_append, List.length_singleton]; omega
def PiecesOk (N : Nat) (ps : List S62) : Prop := ∀ x ∈ ps, 0 < x.f0.length ∧ x.f0.length ≤ 400 ∧ (∀ p ∈ x.f0, 0 ≤ p ∧ p < N) ∧ fstP x ≤ lastI x.f0
theorem byF_inv {ps : List S62} {a x : Int} : ∀ i, byF ps i a = some x → ∃ j : Nat, j < i ∧ x = j ∧ a = fstP (ps.getD j z62)
 | 0, h => by cases h
 | i + 1, h => by
  simp only [byF] at h
  split at h
  ·
   rename_i e
   exact ⟨i, by omega, (Option.some.inj h).symm, e⟩
  ·
   obtain ⟨j, h1, h2⟩ := byF_inv i h
   exact ⟨j, by omega, h2⟩
theorem lastI_app {l l2 : List Int} (h : 0 < l2.length) : lastI (l ++ l2) = lastI l2 := by
 unfold lastI
 rw [List.length_append, List.getD_eq_getElem?_getD, List.getElem?_append_right (by omega), List.getD_eq_getElem?_getD]
 congr 2
 omega
theorem lastI_mem {l : List Int} (h : 0 < l.length) : lastI l ∈ l := by
 unfold lastI
 rw [List.getD_eq_getElem?_getD, List.getElem?_eq_getElem (by omega), Option.getD_some]
 exact List.getElem_mem _
theorem getD_memP {ps : List S62} {i : Nat} (h : i < ps.length) : ps.getD i z62 ∈ ps := by
 rw [List.getD_eq_getElem?_getD, List.getElem?_eq_getElem h, Option.getD_some]
 exact List.getElem_mem _
theorem rd_nP (ps : List S62) (i : Nat) : rd_T62 ps (i : Int) = ps.getD i z62 := by simp [rd_T62]
theorem piece_at {w : World} {A : Option Addr} {ps : List S62} (h : Kd.C k62 w A ps.length ps) {i : Nat} (hi : i < ps.length) (x : S62) (hx : ps.getD i z62 = x) (h0 : 0 < x.f0.length) :
  ∃ ad A0 c0 a0, A = some ad ∧ w.cell? (ad.add (i * 2)) = some (.slice (some A0) x.f0.length c0) ∧ w.cell? ⟨(ad.add (i * 2)).block, (ad.add (i * 2)).off + 1, none⟩ = some (.int .i64 x.f1) ∧ x.f0.length ≤ c0 ∧ Kd.C (Kd.int .i64) w (some A0) x.f0.length x.f0 ∧ a0 = A0 ∧ w.cell? A0 = some (.int .i64 (fstP x)) := by
 obtain ⟨ad, A0, c0, e, x0, x1, hl, hc⟩ := at_T62 h (i : Int) (by omega) (by omega)
 rw [rd_nP, hx] at x0 x1 hl hc
 rw [Int.toNat_natCast] at x0 x1
 obtain ⟨a0, e0, hx0⟩ := Kd.at_int hc 0 (by omega) (by omega)
 subst e0
 refine ⟨ad, a0, c0, a0, e, x0, x1, hl, hc, rfl, ?_⟩
 have e2 : rd x.f0 0 = fstP x := by simp [rd, fstP]
 rw [e2, show a0.add (0 : Int).toNat = a0 from rfl] at hx0
 exact hx0
def impl_isLetter.f (a0 : Int) : Option (Bool) := if a0 ≥ 0 then (if a0 ≤ 1114111 then (if a0 < 55296 then (some true) else (some (decide (a0 > 57343)))) else (some false)) else (some false)
theorem impl_isLetter.calls (a0 : Int) (r : Bool) (w : World) (h : impl_isLetter.f a0 = some r) :
  Calls Try.prog 74 #[.int .i64 a0] w fun e w' => e = .returned (.bool r) ∧ Drawn0 w w' := by
 have H : (if a0 ≥ 0 then (if a0 ≤ 1114111 then (if a0 < 55296 then (some true) else (some (decide (a0 > 57343)))) else (some false)) else (some false)) = some r := h
 clear h
 by_cases c2 : a0 ≥ 0
 ·
  rw [if_pos c2] at H
  have c2b0 : decide (0 ≤ a0) = true := decide_eq_true c2
  clear c2
  by_cases c3 : a0 ≤ 1114111
  ·
   rw [if_pos c3] at H
   have c3b0 : decide (a0 ≤ 1114111) = true := decide_eq_true c3
   clear c3
   by_cases c4 : a0 < 55296
   ·
    rw [if_pos c4] at H
    have c4b0 : decide (a0 < 55296) = true := decide_eq_true c4
    clear c4
    obtain rfl := Option.some.inj H
    go_enter Try.func74, Try.ntmps74
    go_wp2
    go_ret
    exact ⟨by first | rfl | (simp; done) | (simp [*]; done), by repeat (first | exact Drawn0.refl _ | apply Drawn0.step)⟩
   ·
    rw [if_neg c4] at H
    have c4b0 : decide (a0 < 55296) = false := decide_eq_false c4
    clear c4
    obtain rfl := Option.some.inj H
    go_enter Try.func74, Try.ntmps74
    go_wp2
    go_ret
    exact ⟨by first | rfl | (simp; done) | (simp [*]; done), by repeat (first | exact Drawn0.refl _ | apply Drawn0.step)⟩
  ·
   rw [if_neg c3] at H
   have c3b0 : decide (a0 ≤ 1114111) = false := decide_eq_false c3
   clear c3
   obtain rfl := Option.some.inj H
   go_enter Try.func74, Try.ntmps74
   go_wp2
   go_ret
   exact ⟨by first | rfl | (simp; done) | (simp [*]; done), by repeat (first | exact Drawn0.refl _ | apply Drawn0.step)⟩
 ·
  rw [if_neg c2] at H
  have c2b0 : decide (0 ≤ a0) = false := decide_eq_false c2
  clear c2
  obtain rfl := Option.some.inj H
  go_enter Try.func74, Try.ntmps74
  go_wp2
  go_ret
  exact ⟨by first | rfl | (simp; done) | (simp [*]; done), by repeat (first | exact Drawn0.refl _ | apply Drawn0.step)⟩
def idxI (p : Int → Bool) (l : List Int) : Int := if l.any p then (l.findIdx p : Int) else -1
theorem idxI_hit {p : Int → Bool} {l : List Int} {k : Nat} (hk : k < l.length) (hp : p (l.getD k 0) = true) (hb : ∀ j, j < k → p (l.getD j 0) = false) : idxI p l = k := by
 have hm : l.getD k 0 = l[k] := by simp [List.getD_eq_getElem?_getD, hk]
 have ha : l.any p = true := List.any_eq_true.2 ⟨l[k], List.getElem_mem hk, by rw [← hm]; exact hp⟩
 have hf : l.findIdx p = k := by
  rw [List.findIdx_eq hk]
  refine ⟨by rw [← hm]; exact hp, fun j hj => ?_⟩
  have := hb j hj
  simpa [List.getD_eq_getElem?_getD, show j < l.length by omega] using this
 rw [idxI, if_pos ha, hf]
theorem idxI_miss {p : Int → Bool} {l : List Int} (hb : ∀ j, j < l.length → p (l.getD j 0) = false) : idxI p l = -1 := by
 have ha : ¬ l.any p = true := by
  rw [List.any_eq_true]
  rintro ⟨x, hx, hp⟩
  obtain ⟨j, hj, rfl⟩ := List.getElem_of_mem hx
  have := hb j hj
  simp [List.getD_eq_getElem?_getD, hj] at this
  rw [this] at hp
  cases hp
 rw [idxI, if_neg ha]
theorem idxI_nonneg (p : Int → Bool) (l : List Int) : decide (0 ≤ idxI p l) = l.any p := by
 unfold idxI
 cases l.any p <;> simp <;> omega
theorem idxI_calls (p : Int → Bool) (g : Nat) (lb : Array Value) (eg : ∀ args w, (callFunc g args).run Try.prog w = .ok (.enter g args) w) (A0 : Option Addr) (c0 : Nat) (l0 : List Int) (w : World) (hr0 : Kd.C (Kd.int .i64) w A0 l0.length l0)
  (hn : l0.length ≤ 9223372036854775806) (hp : ∀ W, Below w.heap.size w W → ∀ j, j < l0.length → Calls Try.prog g (#[.int .i64 (l0.getD j 0)] ++ lb) W fun e w' => e = .returned (.bool (p (l0.getD j 0))) ∧ Below w.heap.size w w') :
  Calls Try.prog 87 #[.slice A0 l0.length c0, .func (.func g) #[] lb] w fun e w' => e = .returned (.int .i64 (idxI p l0)) ∧ Below w.heap.size w w' := by
 have HR0 := az hr0
 have HP := az hp
 clear hr0 hp
 go_enter Try.func87, Try.ntmps87
 go_wp2
 go_loopg [5, 8] l0.length (fun gg _ s8 wr => ∃ kk : Nat, kk ≤ l0.length ∧ l0.length - kk ≤ gg ∧ s8 = .int .i64 kk ∧ Aside0 (Below w.heap.size w wr) ∧ Aside0 (∀ j, j < kk → p (l0.getD j 0) = false))
 case atStart => exact ⟨0, Nat.zero_le _, by omega, rfl, ⟨Below.refl _ w⟩, ⟨fun j hj => absurd hj (Nat.not_lt_zero _)⟩⟩
 case round =>
  obtain ⟨kk, hkk, hg, rfl, HB, HA⟩ := hrel
  by_cases hlt : kk < l0.length
  ·
   have hltz : (kk : Int) < (l0.length : Int) := by omega
   obtain ⟨ad, rfl, hx⟩ := Kd.at_int HR0.out (kk : Int) (by omega) hltz
   replace hx := (HB.out.cell (World.block_lt_of_cell? w _ hx)).trans hx
   have hcall := HP.out wr HB.out kk hlt
   simp only [rd, Int.toNat_natCast] at hx
   generalize hy : l0.getD kk 0 = y at hx hcall
   have HY := az hy
   clear hy
   cases hq : p y with
   | true =>
    have HQ := az hq
    rw [hq] at hcall
    clear hq
    go_wp2_with (go_at_fn g; refine hcall.mono ?_; rintro e w' ⟨rfl, hb'⟩)
    go_ret
    refine ⟨?_, hb'⟩
    rw [idxI_hit hlt (by rw [HY.out]; exact HQ.out) HA.out]
    rfl
   | false =>
    have HQ := az hq
    rw [hq] at hcall
    clear hq
    go_wp2_with (go_at_fn g; refine hcall.mono ?_; rintro e w' ⟨rfl, hb'⟩)
    go_roundg (l0.length - (kk + 1))
    case measure => omega
    case rel =>
     refine ⟨kk + 1, by omega, by omega, by go_num, ⟨hb'⟩, ⟨fun j hj => ?_⟩⟩
     by_cases e : j = kk
     ·
      subst e
      rw [HY.out]; exact HQ.out
     · exact HA.out j (by omega)
  ·
   have hltz : ¬ (kk : Int) < (l0.length : Int) := by omega
   have hk : kk = l0.length := by omega
   subst hk
   go_wp2
   go_ret
   refine ⟨?_, HB.out⟩
   rw [idxI_miss HA.out]
   rfl
def isLetV (r : Int) : Bool := decide (0 ≤ r) && decide (r ≤ 1114111) && (decide (r < 55296) || decide (57343 < r))
theorem isLet_f (r : Int) : impl_isLetter.f r = some (isLetV r) := by
 unfold impl_isLetter.f isLetV
 by_cases h0 : 0 ≤ r
 ·
  by_cases h1 : r ≤ 1114111
  ·
   by_cases h2 : r < 55296
   · simp [h0, h1, h2]
   · simp [h0, h1, h2]
  · simp [h0, h1]
 · simp [h0]
theorem hasI_calls (p : Int → Bool) (g : Nat) (lb : Array Value) (eg : ∀ args w, (callFunc g args).run Try.prog w = .ok (.enter g args) w) (A0 : Option Addr) (c0 : Nat) (l0 : List Int) (w : World) (hr0 : Kd.C (Kd.int .i64) w A0 l0.length l0)
  (hn : l0.length ≤ 9223372036854775806) (hp : ∀ W, Below w.heap.size w W → ∀ j, j < l0.length → Calls Try.prog g (#[.int .i64 (l0.getD j 0)] ++ lb) W fun e w' => e = .returned (.bool (p (l0.getD j 0))) ∧ Below w.heap.size w w') :
  Calls Try.prog 61 #[.slice A0 l0.length c0, .func (.func g) #[] lb] w fun e w' => e = .returned (.bool (l0.any p)) ∧ Below w.heap.size w w' := by
 rw [← idxI_nonneg]
 go_enter Try.func61, Try.ntmps61
 go_wp2_with (go_at_call 87; refine (idxI_calls p g lb eg A0 c0 l0 _ hr0 hn hp).mono ?_; rintro e w' ⟨rfl, hb'⟩)
 go_ret
 exact ⟨rfl, hb'⟩
def okV (l : List Int) : Bool := decide (l.length ≤ 80) && l.all isLetV
def impl_lettersOk.f (l0 : List Int) : Option Bool := some (okV l0)
theorem lettersOk_1_calls (x : Int) (W : World) : Calls Try.prog 73 #[.int .i64 x] W fun e w' => e = .returned (.bool (!isLetV x)) ∧ Drawn0 W w' := by
 go_enter Try.func73, Try.ntmps73
 go_wp2_with (go_at_call 74; refine (impl_isLetter.calls x (isLetV x) _ (isLet_f x)).mono ?_; rintro e w' ⟨rfl, ⟨nd, rfl⟩⟩)
 go_ret
 exact ⟨rfl, Drawn0.step (Drawn0.refl _) _⟩
theorem impl_lettersOk.calls (A0 : Option Addr) (c0 : Nat) (l0 : List Int) (r : Bool) (w : World) (hr0 : Kd.C (Kd.int .i64) w A0 l0.length l0) (hc0 : l0.length ≤ c0) (h : impl_lettersOk.f l0 = some r) :
  Calls Try.prog 47 #[.slice A0 l0.length c0] w fun e w' => e = .returned (.bool r) ∧ Below w.heap.size w w' := by
 obtain rfl := Option.some.inj h
 clear h
 by_cases hl : l0.length ≤ 80
 ·
  have hd : decide ((l0.length : Int) ≤ 80) = true := decide_eq_true (by omega)
  have e : okV l0 = !(l0.any fun x => !isLetV x) := by simp [okV, hl, List.all_eq_not_any_not]
  have HE := az e
  have HL := az hl
  clear e hl
  go_enter Try.func47, Try.ntmps47
  go_wp2_with (go_at_call 61; refine (hasI_calls (fun x => !isLetV x) 73 #[] (fun _ _ => by first | rfl | (go_simp; done)) A0 c0 l0 _ hr0 (by have := HL.out; omega) (fun W hb j hj => ((lettersOk_1_calls _ W).mono fun _ _ ⟨he, hd⟩ => ⟨he, hb.trans (hd.below.mono hb.size)⟩))).mono ?_; rintro e w' ⟨rfl, hb'⟩)
  go_ret
  exact ⟨by rw [HE.out]; rfl, hb'⟩
 ·
  have hd : decide ((l0.length : Int) ≤ 80) = false := decide_eq_false (by omega)
  have e : okV l0 = false := by simp [okV, hl]
  have HE := az e
  clear e hl
  go_enter Try.func47, Try.ntmps47
  go_wp2
  go_ret
  exact ⟨by rw [HE.out]; rfl, Below.refl _ _⟩
def impl_isBase.f (a0 : Int) : Option (Bool) := if a0 = 0 then (some true) else (some (a0 == 1))
theorem impl_isBase.calls (a0 : Int) (r : Bool) (w : World) (h : impl_isBase.f a0 = some r) :
  Calls Try.prog 48 #[.int .i64 a0] w fun e w' => e = .returned (.bool r) ∧ Drawn0 w w' := by
 have H : (if a0 = 0 then (some true) else (some (a0 == 1))) = some r := h
 clear h
 by_cases c2 : a0 = 0
 ·
  rw [if_pos c2] at H
  have c2b0 : (a0 == 0) = true := beq_iff_eq.mpr c2
  have c2b1 : (a0 != 0) = false := bne_eq_false_iff_eq.mpr c2
  clear c2
  obtain rfl := Option.some.inj H
  go_enter Try.func48, Try.ntmps48
  go_wp2
  go_ret
  exact ⟨by first | rfl | (simp; done) | (simp [*]; done), by repeat (first | exact Drawn0.refl _ | apply Drawn0.step)⟩
 ·
  rw [if_neg c2] at H
  have c2b0 : (a0 == 0) = false := beq_eq_false_iff_ne.mpr c2
  have c2b1 : (a0 != 0) = true := bne_iff_ne.mpr c2
  obtain rfl := Option.some.inj H
  go_enter Try.func48, Try.ntmps48
  go_wp2
  go_ret
  exact ⟨by first | rfl | (simp; done) | (simp [*]; done), by repeat (first | exact Drawn0.refl _ | apply Drawn0.step)⟩
def MapI (w : World) (b n : Nat) (f : Int → Option Int) : Prop := ∃ D : DataW Unit, w.ownsMap Try.prog 3 (plainElem (H := Unit) Try.prog 3) b n D ∧ Maps.IsMap D ∧ ∀ a, (Lit.int .i64 a).wf = true → ∀ zd, D.atKey (.int .i64 a) zd = (match f a with | some v => .lit (.int .i64 v) | none => zd)
theorem MapI.made (w : World) : MapI (w.alloc (.map #[] 0)) w.heap.size 0 (fun _ => none) :=
 ⟨_, World.ownsMap_made _ _ _ _, Maps.isMap_empty, fun _ _ _ => rfl⟩
theorem MapI.kept {w w' : World} {b n : Nat} {f : Int → Option Int} (h : MapI w b n f) {row : Option Nat} (hg : w.grownBy w' row) (hne : some b ≠ row) : MapI w' b n f := by
 obtain ⟨D, h1, h2, h3⟩ := h
 exact ⟨D, h1.kept hg hne, h2, h3⟩
theorem MapI.below {w w' : World} {b n : Nat} {f : Int → Option Int} (h : MapI w b n f) (hb : Below w.heap.size w w') : MapI w' b n f := h.kept (grown_of_below hb none) (by simp)
theorem mapI_zero (w : World) : (zeroValue 3).run Try.prog w = .ok (.int .i64 0) w := by kernel_rfl
theorem MapI.look {w : World} {b n : Nat} {f : Int → Option Int} (h : MapI w b n f) (a : Int) (ha : (Lit.int .i64 a).wf = true) :
  (Instr.lookup 76 (.map (some b)) (.int .i64 a) true).run Try.prog w = .ok (.tuple #[.int .i64 ((f a).getD 0), .bool (f a).isSome]) w := by
 obtain ⟨D, h1, h2, h3⟩ := h
 obtain ⟨es, clock, hb, F, _, rfl⟩ := h1
 have h3' := h3 a ha
 rcases Maps.fit_look true (Maps.int_keyed Try.underlying3) Try.underlying76 (mapI_zero w) hb F (Maps.keyOf_int_mk Try.underlying3 ha) with ⟨hrun, _, hat⟩ | ⟨e0, y, _, _, hrun, hRv, hat, _⟩
 ·
  cases hf : f a with
  | none => simpa using hrun
  | some v =>
   have e1 := (h3' .nil).symm.trans (hat .nil)
   rw [hf] at e1
   cases e1
 ·
  obtain ⟨c, hc, hc2, _⟩ := plainElem_int_inv Try.underlying3 hRv
  have e1 := (h3' .nil).symm.trans (hat .nil)
  subst hc2
  cases hf : f a with
  | none => rw [hf] at e1; cases e1
  | some v =>
   rw [hf] at e1
   simp at e1
   subst e1
   rw [hc] at hrun
   simpa using hrun
theorem MapI.put {w : World} {b n : Nat} {f : Int → Option Int} (h : MapI w b n f) (hn : n < 1000000) (k v : Int) (hk : (Lit.int .i64 k).wf = true) (hv : (Lit.int .i64 v).wf = true) :
  ∃ w', (Instr.mapUpdate 76 (.map (some b)) (.int .i64 k) (.int .i64 v)).run Try.prog w = .ok () w' ∧ MapI w' b (n + 1) (fun a => if a = k then some v else f a) ∧ w.grownBy w' (some b) := by
 obtain ⟨D, h1, h2, h3⟩ := h
 obtain ⟨w', hrun, r1, r2⟩ := h1.update (Maps.int_keyed Try.underlying3) Try.underlying76 (by unfold maxLen; omega) (Maps.keyOf_int_mk Try.underlying3 hk) (plainElem_int Try.underlying3 hv)
 refine ⟨w', hrun, ⟨_, r1, h2.put _ _, fun a ha zd => ?_⟩, r2⟩
 show _ = (match (if a = k then some v else f a) with | some v => DataW.lit (.int .i64 v) | none => zd)
 by_cases e : a = k
 ·
  subst e
  rw [if_pos rfl, Maps.atKey_put_same h2 (show WideAt.IsKeyLit (.int .i64 a) from trivial)]
 · rw [if_neg e, Maps.atKey_put_other (fun h => e (by injection h)), h3 a ha]
structure TeS where
 st : List S87
 lost : Int
 sk : Int
def IsTe (w : World) (base tb : Nat) (s : TeS) : Prop := ∃ gl l, w.heap[tb]? = some (.cells #[.pointer (some ⟨gl, 0, none⟩), .int .i64 s.lost, .int .i64 s.sk] 83 (0, 0)) ∧ IsRing w base gl l ∧ l.map (·.2) = s.st ∧ base ≤ tb
theorem IsTe.below {w w' : World} {base tb : Nat} {s : TeS} (h : IsTe w base tb s) (hb : Below w.heap.size w w') : IsTe w' base tb s := by
 obtain ⟨gl, l, h1, h2, h3⟩ := h
 exact ⟨gl, l, blk_below h1 hb, h2.below hb, h3⟩
theorem IsTe.cons {w : World} {base tb : Nat} {s : TeS} {e : S87} {r : List S87} (h : IsTe w base tb s) (hst : s.st = e :: r) : ∃ gl b l, w.heap[tb]? = some (.cells #[.pointer (some ⟨gl, 0, none⟩), .int .i64 s.lost, .int .i64 s.sk] 83 (0, 0)) ∧ IsRing w base gl ((b, e) :: l) ∧ l.map (·.2) = r ∧ base ≤ tb := by
 obtain ⟨gl, l, h1, h2, h3, h4⟩ := h
 rw [hst] at h3
 cases l with
 | nil => simp at h3
 | cons p l =>
  obtain ⟨b, e1⟩ := p
  simp only [List.map_cons, List.cons.injEq] at h3
  obtain ⟨rfl, h3⟩ := h3
  exact ⟨gl, b, l, h1, h2, h3, h4⟩
theorem as86 (v : Value) (w : World) : (Instr.typeAssert (.iface 87 v) 20 87 false).run Try.prog w = .ok v w := by kernel_rfl
theorem fld0 (a b : Int) (c : Bool) (w : World) : (Instr.field 87 (.agg #[.int .i64 a, .int .i64 b, .bool c]) 0).run Try.prog w = .ok (.int .i64 a) w := by kernel_rfl
theorem fld2 (a b : Int) (c : Bool) (w : World) : (Instr.field 87 (.agg #[.int .i64 a, .int .i64 b, .bool c]) 2).run Try.prog w = .ok (.bool c) w := by kernel_rfl
attribute [local go_sem] as86
theorem last_calls (w : World) (base tb : Nat) (s : TeS) (e : S87) (r : List S87) (hst : s.st = e :: r) (hs : IsTe w base tb s) (hl : r.length < 1000) : Calls Try.prog 103 #[.pointer (some ⟨tb, 0, none⟩)] w fun x w' => x = .returned (.agg #[.int .i64 e.f0, .int .i64 e.f1, .bool e.f2]) ∧ Below w.heap.size w w' := by
 obtain ⟨gl, b, l, h1, hr, hm, hb⟩ := hs.cons hst
 have hll : l.length < 1000 := by rw [← hm, List.length_map] at hl; exact hl
 obtain ⟨g1, _⟩ := hr.2.1
 have hc0 := (blk_cell h1 0).trans (show _ = some (.pointer (some ⟨gl, 0, none⟩)) from rfl)
 have hb3 := (blk_cell g1 3).trans (show _ = some (.iface 87 (.agg #[.int .i64 e.f0, .int .i64 e.f1, .bool e.f2])) from rfl)
 have hd0 := fun o => (blk_cell (blk_alloc h1 o) 0).trans (show _ = some (.pointer (some ⟨gl, 0, none⟩)) from rfl)
 have he3 := fun o => (blk_cell (blk_alloc g1 o) 3).trans (show _ = some (.iface 87 (.agg #[.int .i64 e.f0, .int .i64 e.f1, .bool e.f2])) from rfl)
 have hlt1 := blk_lt h1
 have hlt2 := blk_lt g1
 have hne1 : ¬ tb = w.heap.size := by omega
 have hne2 : ¬ w.heap.size = tb := by omega
 have hne3 : ¬ b = w.heap.size := by simp only at hlt2; omega
 have hne4 : ¬ w.heap.size = b := by simp only at hlt2; omega
 have HR := az hr
 clear h1 hr hm hb g1 hlt1 hlt2 hst hs
 go_enter Try.func103, Try.ntmps103
 go_wp2_with (go_at_call 114; refine (listBack_calls _ _ gl (b, e) l (HR.out.below (below_alloc (Below.refl _ _) _)) hll).mono ?_; rintro x w1 ⟨rfl, rfl⟩)
 refine bodyPost_ret (results_cell_row rfl _ _ w.heap.size 87 #[.int .i64 e.f0, .int .i64 e.f1, .bool e.f2] (0, 0) _ rfl (blk_new w _) Try.underlying87 rfl (by kernel_rfl)) rfl ?_
 exact ⟨rfl, below_alloc (Below.refl _ _) _⟩
theorem IsRing.far {w : World} {base gl tb : Nat} {l : List (Nat × S87)} {cs : Array Value} (h : IsRing w base gl l) (h1 : w.heap[tb]? = some (.cells cs 83 (0, 0))) (j : Nat) (v : Value) : IsRing (w.setCell ⟨tb, j, none⟩ v) base gl l := by
 obtain ⟨g1, g2, g3⟩ := h
 have hne : gl ≠ tb := blk_ne g1 h1 (by decide)
 refine ⟨(heap_setCell_ne hne).trans g1, g2.move (fun p hp => ?_), g3⟩
 obtain ⟨cs, hc⟩ := g2.typed p hp
 have hp : p.1 ≠ tb := blk_ne hc h1 (by decide)
 exact heap_setCell_ne hp
theorem FrT.set {ts : List Nat} {w w1 : World} {tb : Nat} {cs : Array Value} {t : TypeId} (h : FrT ts w w1) (h1 : w.heap[tb]? = some (.cells cs t (0, 0))) (ht : t ∈ ts) (j : Nat) (v : Value) : FrT ts w (w1.setCell ⟨tb, j, none⟩ v) := by
 refine ⟨Nat.le_trans h.1 (Nat.le_of_eq (by simp)), fun k o hk ho => ?_⟩
 have hne : k ≠ tb := fun e => by subst e; rw [h1] at hk; exact ho t ht _ (Option.some.inj hk).symm
 exact (heap_setCell_ne hne).trans (h.2 k o hk ho)
theorem FrT.wide {ts us : List Nat} {w w' : World} (h : FrT ts w w') (hs : ∀ t ∈ ts, t ∈ us) : FrT us w w' := ⟨h.1, fun k o hk ho => h.2 k o hk (fun t ht => ho t (hs t ht))⟩
theorem IsTe.drew {w : World} {base tb : Nat} {s : TeS} (h : IsTe w base tb s) : IsTe w.drew base tb s := by
 obtain ⟨gl, l, h1, h2, h3⟩ := h
 exact ⟨gl, l, h1, ring_drew h2, h3⟩
def teT : List Nat := [99, 101, 83]
theorem FrT.same {ts : List Nat} {w w' : World} (h : FrT ts w w') {tb : Nat} {cs : Array Value} {t : TypeId} (h1 : w.heap[tb]? = some (.cells cs t (0, 0))) (ht : t ∉ ts) : w'.heap[tb]? = some (.cells cs t (0, 0)) :=
 h.2 tb _ h1 (fun u hu c e => by injection e with _ e _; exact ht (e ▸ hu))
theorem dropT_post {w0 w w1 : World} {gl tb : Nat} {s : TeS} {e3 : S87} {b2 : Nat} {r : List S87} {l : List (Nat × S87)} (h1 : w.heap[tb]? = some (.cells #[.pointer (some ⟨gl, 0, none⟩), .int .i64 s.lost, .int .i64 s.sk] 83 (0, 0))) (hb : w0.heap.size ≤ tb) (hm : l.map (·.2) = r) (hr : IsRing w1 w0.heap.size gl ((b2, e3) :: l)) (hB : Below w0.heap.size w0 w1) (hF : FrT [99, 101] w.drew w1) :
  Ending.returned (.tuple #[]) = Ending.returned (.tuple #[]) ∧ IsTe w1 w0.heap.size tb ⟨e3 :: r, s.lost, s.sk⟩ ∧ Below w0.heap.size w0 w1 ∧ FrT teT w w1 := by
 refine ⟨rfl, ⟨gl, (b2, e3) :: l, FrT.same (w := w.drew) hF h1 (by decide), hr, ?_, hb⟩, hB, FrT.wide (show FrT [99, 101] w w1 from hF) (by decide)⟩
 rw [List.map_cons, hm]
theorem drop_calls (w0 w : World) (tb : Nat) (s : TeS) (e e2 : S87) (r : List S87) (hst : s.st = e :: e2 :: r) (hB : Below w0.heap.size w0 w) (hs : IsTe w w0.heap.size tb s) (hl : r.length < 900) : Calls Try.prog 112 #[.pointer (some ⟨tb, 0, none⟩)] w fun x w' => x = .returned (.tuple #[]) ∧ IsTe w' w0.heap.size tb { s with st := e2 :: r } ∧ Below w0.heap.size w0 w' ∧ FrT teT w w' := by
 obtain ⟨gl, b, l, h1, hr, hm, hb⟩ := hs.cons hst
 obtain ⟨⟨b2, e3⟩, l, rfl⟩ : ∃ p l', l = p :: l' := by
  cases l with
  | nil => simp at hm
  | cons p l => exact ⟨p, l, rfl⟩
 simp only [List.map_cons, List.cons.injEq] at hm
 obtain ⟨rfl, hm⟩ := hm
 have hll : l.length < 900 := by rw [← hm, List.length_map] at hl; exact hl
 have hll1 : l.length < 1000 := by omega
 have hll2 : ((b2, e3) :: l).length < 1000 := by rw [List.length_cons]; omega
 have hc0 := (blk_cell h1 0).trans (show _ = some (.pointer (some ⟨gl, 0, none⟩)) from rfl)
 have HR := az hr
 have HB := az hB
 have H1 := az h1
 have HM := az hm
 clear h1 hr hm hst hs hB
 go_enter Try.func112, Try.ntmps112
 go_region_with (first | (go_at_call 114; refine (listBack_calls _ _ gl (b, e) ((b2, e3) :: l) (ring_drew HR.out) hll2).mono ?_; rintro x w1 ⟨rfl, rfl⟩) | (go_at_call 116; refine (listRemove_calls w0 _ gl (b, e) (b2, e3) l (below_drew HB.out) (ring_drew HR.out) hll1).mono ?_; rintro x w1 ⟨⟨v, rfl⟩, hr1, hb1, hf1⟩; have HR1 := az hr1; have HB1 := az hb1; have HF1 := az hf1; clear hr1 hb1 hf1))
 all_goals (go_end0; exact dropT_post H1.out hb HM.out HR1.out HB1.out HF1.out)
attribute [local go_sem] as86 fld0 fld2
def upT (l : Int) (r : Bool) : Int := if ((!((l + 1) % 2 == 1) == r) = true) then l + 1 + 1 else l + 1
def topT (s : TeS) : Int := match s.st with | [] => 0 | e :: _ => e.f0
def pushT (right : Bool) (side : Int) (alone : Bool) (s : TeS) : TeS :=
  if upT (topT s) right ≤ 20 ∧ s.lost = 0 ∧ s.sk = 0 then { s with st := ⟨upT (topT s) right, side, alone⟩ :: s.st } else if alone = true then { s with lost := s.lost + 1 } else if s.lost = 0 then { s with sk := s.sk + 1 } else s
theorem postPush {w0 w w1 w2 : World} {gl tb n b : Nat} {s : TeS} {e e0 : S87} {r : List S87} {l : List (Nat × S87)} (h1 : w1.heap[tb]? = some (.cells #[.pointer (some ⟨gl, 0, none⟩), .int .i64 s.lost, .int .i64 s.sk] 83 (0, 0))) (hb : w0.heap.size ≤ tb) (hm : l.map (·.2) = r) (hst : s.st = e :: r) (hF1 : FrT teT w w1) (hr : IsRing w2 w0.heap.size gl ((n, e0) :: (b, e) :: l)) (hB : Below w0.heap.size w0 w2) (hF : FrT [99, 101] w1 w2) :
    Ending.returned (.tuple #[]) = Ending.returned (.tuple #[]) ∧ IsTe w2 w0.heap.size tb { s with st := e0 :: s.st } ∧ Below w0.heap.size w0 w2 ∧ FrT teT w w2 := by
  refine ⟨rfl, ⟨gl, _, hF.same h1 (by decide), hr, ?_, hb⟩, hB, hF1.trans (hF.wide (by decide))⟩
  rw [hst, List.map_cons, List.map_cons, hm]
theorem postCell {w0 w w1 : World} {gl tb : Nat} {st : List S87} {lost sk : Int} {l : List (Nat × S87)} (h1 : w1.heap[tb]? = some (.cells #[.pointer (some ⟨gl, 0, none⟩), .int .i64 lost, .int .i64 sk] 83 (0, 0))) (hb : w0.heap.size ≤ tb) (hm : l.map (·.2) = st) (hF1 : FrT teT w w1) (hr : IsRing w1 w0.heap.size gl l) (hB : Below w0.heap.size w0 w1) (x : Int) :
    (Ending.returned (.tuple #[]) = Ending.returned (.tuple #[]) ∧ IsTe (w1.setCell ⟨tb, 1, none⟩ (.int .i64 x)) w0.heap.size tb ⟨st, x, sk⟩ ∧ Below w0.heap.size w0 (w1.setCell ⟨tb, 1, none⟩ (.int .i64 x)) ∧ FrT teT w (w1.setCell ⟨tb, 1, none⟩ (.int .i64 x))) ∧
    (Ending.returned (.tuple #[]) = Ending.returned (.tuple #[]) ∧ IsTe (w1.setCell ⟨tb, 2, none⟩ (.int .i64 x)) w0.heap.size tb ⟨st, lost, x⟩ ∧ Below w0.heap.size w0 (w1.setCell ⟨tb, 2, none⟩ (.int .i64 x)) ∧ FrT teT w (w1.setCell ⟨tb, 2, none⟩ (.int .i64 x))) :=
  ⟨⟨rfl, ⟨gl, l, blk_set h1 1 _, hr.far h1 1 _, hm, hb⟩, hB.setCell (p := ⟨tb, 1, none⟩) hb _, hF1.trans ((FrT.refl teT w1).set h1 (by decide) 1 _)⟩,
   ⟨rfl, ⟨gl, l, blk_set h1 2 _, hr.far h1 2 _, hm, hb⟩, hB.setCell (p := ⟨tb, 2, none⟩) hb _, hF1.trans ((FrT.refl teT w1).set h1 (by decide) 2 _)⟩⟩
theorem pushT_calls (w0 w : World) (tb : Nat) (s : TeS) (e : S87) (r : List S87) (right : Bool) (side : Int) (alone : Bool) (hst : s.st = e :: r) (hB : Below w0.heap.size w0 w) (hs : IsTe w w0.heap.size tb s) (hl9 : r.length < 900) (he0 : 0 ≤ e.f0) (he1 : e.f0 ≤ 1000) (q1 : 0 ≤ s.lost) (q2 : s.lost ≤ 1000) (q3 : 0 ≤ s.sk) (q4 : s.sk ≤ 1000) : Calls Try.prog 100 #[.pointer (some ⟨tb, 0, none⟩), .bool right, .int .i64 side, .bool alone] w fun x w' => x = .returned (.tuple #[]) ∧ IsTe w' w0.heap.size tb (pushT right side alone s) ∧ Below w0.heap.size w0 w' ∧ FrT teT w w' := by
  have hl : r.length < 1000 := by omega
  have HS := az hs
  have HB := az hB
  clear hs hB
  have htop : topT s = e.f0 := by unfold topT; rw [hst]
  have hmst : ∀ (b : Nat) (l : List (Nat × S87)), l.map (·.2) = r → ((b, e) :: l).map (·.2) = e :: r := fun b l h => by rw [List.map_cons, h]
  have hbd : upT e.f0 right = e.f0 + 1 + 1 ∨ upT e.f0 right = e.f0 + 1 := by
    unfold upT
    split
    · exact .inl rfl
    · exact .inr rfl
  unfold pushT
  rw [htop]
  by_cases c1 : upT e.f0 right ≤ 20 ∧ s.lost = 0 ∧ s.sk = 0
  · rw [if_pos c1]
    obtain ⟨c2, c3, c4⟩ := c1
    have c3b : (s.lost == 0) = true := by rw [c3]; rfl
    have c4b : (s.sk == 0) = true := by rw [c4]; rfl
    by_cases u1 : (!((e.f0 + 1) % 2 == 1) == right) = true
    · have hup : upT e.f0 right = e.f0 + 1 + 1 := if_pos u1
      rw [hup] at c2 ⊢
      clear c3 c4 hup hbd htop
      go_enter Try.func100, Try.ntmps100
      go_wp2_with (first | (go_at_call 103; refine (last_calls _ _ tb s e r hst HS.out hl).mono ?_; rintro x w1 ⟨rfl, hb1⟩; have n0 := az (HS.out.below hb1); have n1 := az (below_then HB.out HB.out.size hb1); have n2 := az (FrT.below (ts := teT) hb1); obtain ⟨gl, b, l, h1, hr, hm, htb⟩ := n0.out.cons hst; have hll : l.length < 900 := (by rw [← hm, List.length_map] at hl9; exact hl9); have hc0 := (blk_cell h1 0).trans (show _ = some (.pointer (some ⟨gl, 0, none⟩)) from rfl); have hc1 := (blk_cell h1 1).trans (show _ = some (.int .i64 s.lost) from rfl); have hc2 := (blk_cell h1 2).trans (show _ = some (.int .i64 s.sk) from rfl); have hf1 := blk_frozen h1 1; have hf2 := blk_frozen h1 2; have H1 := az h1; have HR := az hr; have HM := az hm; clear hb1 h1 hr hm) | (go_at_call 77; refine (listPush_calls w0 _ gl (b, e) l ⟨e.f0 + 1 + 1, side, alone⟩ n1.out HR.out (by omega)).mono ?_; rintro x w2 ⟨⟨v, rfl⟩, hr2, hb2, hf2⟩; have HR2 := az hr2; have HB2 := az hb2; have HF2 := az hf2; clear hr2 hb2 hf2))
      all_goals (go_end0; exact postPush H1.out htb HM.out hst n2.out HR2.out HB2.out HF2.out)
    · have hup : upT e.f0 right = e.f0 + 1 := if_neg u1
      have u1 := Bool.eq_false_iff.mpr u1
      rw [hup] at c2 ⊢
      clear c3 c4 hup hbd htop
      go_enter Try.func100, Try.ntmps100
      go_wp2_with (first | (go_at_call 103; refine (last_calls _ _ tb s e r hst HS.out hl).mono ?_; rintro x w1 ⟨rfl, hb1⟩; have n0 := az (HS.out.below hb1); have n1 := az (below_then HB.out HB.out.size hb1); have n2 := az (FrT.below (ts := teT) hb1); obtain ⟨gl, b, l, h1, hr, hm, htb⟩ := n0.out.cons hst; have hll : l.length < 900 := (by rw [← hm, List.length_map] at hl9; exact hl9); have hc0 := (blk_cell h1 0).trans (show _ = some (.pointer (some ⟨gl, 0, none⟩)) from rfl); have hc1 := (blk_cell h1 1).trans (show _ = some (.int .i64 s.lost) from rfl); have hc2 := (blk_cell h1 2).trans (show _ = some (.int .i64 s.sk) from rfl); have hf1 := blk_frozen h1 1; have hf2 := blk_frozen h1 2; have H1 := az h1; have HR := az hr; have HM := az hm; clear hb1 h1 hr hm) | (go_at_call 77; refine (listPush_calls w0 _ gl (b, e) l ⟨e.f0 + 1, side, alone⟩ n1.out HR.out (by omega)).mono ?_; rintro x w2 ⟨⟨v, rfl⟩, hr2, hb2, hf2⟩; have HR2 := az hr2; have HB2 := az hb2; have HF2 := az hf2; clear hr2 hb2 hf2))
      all_goals (go_end0; exact postPush H1.out htb HM.out hst n2.out HR2.out HB2.out HF2.out)
  · rw [if_neg c1]
    have hcs : ((s.lost == 0) = false ∧ ¬ s.lost = 0) ∨ ((s.lost == 0) = true ∧ s.lost = 0 ∧ (s.sk == 0) = false) ∨ ((s.lost == 0) = true ∧ s.lost = 0 ∧ (s.sk == 0) = true ∧ 20 < upT e.f0 right) := by
      by_cases c2 : s.lost = 0
      · have d2 : (s.lost == 0) = true := by rw [c2]; rfl
        by_cases c3 : s.sk = 0
        · exact .inr (.inr ⟨d2, c2, by rw [c3]; rfl, by omega⟩)
        · exact .inr (.inl ⟨d2, c2, beq_eq_false_iff_ne.mpr c3⟩)
      · exact .inl ⟨beq_eq_false_iff_ne.mpr c2, c2⟩
    clear c1 htop
    cases alone
    · rw [if_neg (by decide)]
      rcases hcs with ⟨d1, d2⟩ | ⟨d1, d2, d3⟩ | ⟨d1, d2, d3, d4⟩
      · rw [if_neg d2]
        clear d2
        by_cases u1 : (!((e.f0 + 1) % 2 == 1) == right) = true
        · have hup : upT e.f0 right = e.f0 + 1 + 1 := if_pos u1
          clear hup hbd
          go_enter Try.func100, Try.ntmps100
          go_wp2_with (go_at_call 103; refine (last_calls _ _ tb s e r hst HS.out hl).mono ?_; rintro x w1 ⟨rfl, hb1⟩; have n0 := az (HS.out.below hb1); have n1 := az (below_then HB.out HB.out.size hb1); have n2 := az (FrT.below (ts := teT) hb1); obtain ⟨gl, b, l, h1, hr, hm, htb⟩ := n0.out.cons hst; have hll : l.length < 900 := (by rw [← hm, List.length_map] at hl9; exact hl9); have hc0 := (blk_cell h1 0).trans (show _ = some (.pointer (some ⟨gl, 0, none⟩)) from rfl); have hc1 := (blk_cell h1 1).trans (show _ = some (.int .i64 s.lost) from rfl); have hc2 := (blk_cell h1 2).trans (show _ = some (.int .i64 s.sk) from rfl); have hf1 := blk_frozen h1 1; have hf2 := blk_frozen h1 2; have H1 := az h1; have HR := az hr; have HM := az hm; clear hb1 h1 hr hm)
          all_goals (go_end0; (try rw [hst]); exact ⟨rfl, n0.out, n1.out, n2.out⟩)
        · have hup : upT e.f0 right = e.f0 + 1 := if_neg u1
          have u1 := Bool.eq_false_iff.mpr u1
          clear hup hbd
          go_enter Try.func100, Try.ntmps100
          go_wp2_with (go_at_call 103; refine (last_calls _ _ tb s e r hst HS.out hl).mono ?_; rintro x w1 ⟨rfl, hb1⟩; have n0 := az (HS.out.below hb1); have n1 := az (below_then HB.out HB.out.size hb1); have n2 := az (FrT.below (ts := teT) hb1); obtain ⟨gl, b, l, h1, hr, hm, htb⟩ := n0.out.cons hst; have hll : l.length < 900 := (by rw [← hm, List.length_map] at hl9; exact hl9); have hc0 := (blk_cell h1 0).trans (show _ = some (.pointer (some ⟨gl, 0, none⟩)) from rfl); have hc1 := (blk_cell h1 1).trans (show _ = some (.int .i64 s.lost) from rfl); have hc2 := (blk_cell h1 2).trans (show _ = some (.int .i64 s.sk) from rfl); have hf1 := blk_frozen h1 1; have hf2 := blk_frozen h1 2; have H1 := az h1; have HR := az hr; have HM := az hm; clear hb1 h1 hr hm)
          all_goals (go_end0; (try rw [hst]); exact ⟨rfl, n0.out, n1.out, n2.out⟩)
      · rw [if_pos d2]
        clear d2
        by_cases u1 : (!((e.f0 + 1) % 2 == 1) == right) = true
        · have hup : upT e.f0 right = e.f0 + 1 + 1 := if_pos u1
          clear hup hbd
          go_enter Try.func100, Try.ntmps100
          go_wp2_with (go_at_call 103; refine (last_calls _ _ tb s e r hst HS.out hl).mono ?_; rintro x w1 ⟨rfl, hb1⟩; have n0 := az (HS.out.below hb1); have n1 := az (below_then HB.out HB.out.size hb1); have n2 := az (FrT.below (ts := teT) hb1); obtain ⟨gl, b, l, h1, hr, hm, htb⟩ := n0.out.cons hst; have hll : l.length < 900 := (by rw [← hm, List.length_map] at hl9; exact hl9); have hc0 := (blk_cell h1 0).trans (show _ = some (.pointer (some ⟨gl, 0, none⟩)) from rfl); have hc1 := (blk_cell h1 1).trans (show _ = some (.int .i64 s.lost) from rfl); have hc2 := (blk_cell h1 2).trans (show _ = some (.int .i64 s.sk) from rfl); have hf1 := blk_frozen h1 1; have hf2 := blk_frozen h1 2; have H1 := az h1; have HR := az hr; have HM := az hm; clear hb1 h1 hr hm)
          all_goals (go_end0; (try rw [hst]); exact (postCell H1.out htb (hmst b l HM.out) n2.out HR.out n1.out _).2)
        · have hup : upT e.f0 right = e.f0 + 1 := if_neg u1
          have u1 := Bool.eq_false_iff.mpr u1
          clear hup hbd
          go_enter Try.func100, Try.ntmps100
          go_wp2_with (go_at_call 103; refine (last_calls _ _ tb s e r hst HS.out hl).mono ?_; rintro x w1 ⟨rfl, hb1⟩; have n0 := az (HS.out.below hb1); have n1 := az (below_then HB.out HB.out.size hb1); have n2 := az (FrT.below (ts := teT) hb1); obtain ⟨gl, b, l, h1, hr, hm, htb⟩ := n0.out.cons hst; have hll : l.length < 900 := (by rw [← hm, List.length_map] at hl9; exact hl9); have hc0 := (blk_cell h1 0).trans (show _ = some (.pointer (some ⟨gl, 0, none⟩)) from rfl); have hc1 := (blk_cell h1 1).trans (show _ = some (.int .i64 s.lost) from rfl); have hc2 := (blk_cell h1 2).trans (show _ = some (.int .i64 s.sk) from rfl); have hf1 := blk_frozen h1 1; have hf2 := blk_frozen h1 2; have H1 := az h1; have HR := az hr; have HM := az hm; clear hb1 h1 hr hm)
          all_goals (go_end0; (try rw [hst]); exact (postCell H1.out htb (hmst b l HM.out) n2.out HR.out n1.out _).2)
      · rw [if_pos d2]
        clear d2
        by_cases u1 : (!((e.f0 + 1) % 2 == 1) == right) = true
        · have hup : upT e.f0 right = e.f0 + 1 + 1 := if_pos u1
          rw [hup] at d4
          clear hup hbd
          go_enter Try.func100, Try.ntmps100
          go_wp2_with (go_at_call 103; refine (last_calls _ _ tb s e r hst HS.out hl).mono ?_; rintro x w1 ⟨rfl, hb1⟩; have n0 := az (HS.out.below hb1); have n1 := az (below_then HB.out HB.out.size hb1); have n2 := az (FrT.below (ts := teT) hb1); obtain ⟨gl, b, l, h1, hr, hm, htb⟩ := n0.out.cons hst; have hll : l.length < 900 := (by rw [← hm, List.length_map] at hl9; exact hl9); have hc0 := (blk_cell h1 0).trans (show _ = some (.pointer (some ⟨gl, 0, none⟩)) from rfl); have hc1 := (blk_cell h1 1).trans (show _ = some (.int .i64 s.lost) from rfl); have hc2 := (blk_cell h1 2).trans (show _ = some (.int .i64 s.sk) from rfl); have hf1 := blk_frozen h1 1; have hf2 := blk_frozen h1 2; have H1 := az h1; have HR := az hr; have HM := az hm; clear hb1 h1 hr hm)
          all_goals (go_end0; (try rw [hst]); exact (postCell H1.out htb (hmst b l HM.out) n2.out HR.out n1.out _).2)
        · have hup : upT e.f0 right = e.f0 + 1 := if_neg u1
          have u1 := Bool.eq_false_iff.mpr u1
          rw [hup] at d4
          clear hup hbd
          go_enter Try.func100, Try.ntmps100
          go_wp2_with (go_at_call 103; refine (last_calls _ _ tb s e r hst HS.out hl).mono ?_; rintro x w1 ⟨rfl, hb1⟩; have n0 := az (HS.out.below hb1); have n1 := az (below_then HB.out HB.out.size hb1); have n2 := az (FrT.below (ts := teT) hb1); obtain ⟨gl, b, l, h1, hr, hm, htb⟩ := n0.out.cons hst; have hll : l.length < 900 := (by rw [← hm, List.length_map] at hl9; exact hl9); have hc0 := (blk_cell h1 0).trans (show _ = some (.pointer (some ⟨gl, 0, none⟩)) from rfl); have hc1 := (blk_cell h1 1).trans (show _ = some (.int .i64 s.lost) from rfl); have hc2 := (blk_cell h1 2).trans (show _ = some (.int .i64 s.sk) from rfl); have hf1 := blk_frozen h1 1; have hf2 := blk_frozen h1 2; have H1 := az h1; have HR := az hr; have HM := az hm; clear hb1 h1 hr hm)
          all_goals (go_end0; (try rw [hst]); exact (postCell H1.out htb (hmst b l HM.out) n2.out HR.out n1.out _).2)
    · rw [if_pos (by decide)]
      rcases hcs with ⟨d1, d2⟩ | ⟨d1, d2, d3⟩ | ⟨d1, d2, d3, d4⟩
      · clear d2
        by_cases u1 : (!((e.f0 + 1) % 2 == 1) == right) = true
        · have hup : upT e.f0 right = e.f0 + 1 + 1 := if_pos u1
          clear hup hbd
          go_enter Try.func100, Try.ntmps100
          go_wp2_with (go_at_call 103; refine (last_calls _ _ tb s e r hst HS.out hl).mono ?_; rintro x w1 ⟨rfl, hb1⟩; have n0 := az (HS.out.below hb1); have n1 := az (below_then HB.out HB.out.size hb1); have n2 := az (FrT.below (ts := teT) hb1); obtain ⟨gl, b, l, h1, hr, hm, htb⟩ := n0.out.cons hst; have hll : l.length < 900 := (by rw [← hm, List.length_map] at hl9; exact hl9); have hc0 := (blk_cell h1 0).trans (show _ = some (.pointer (some ⟨gl, 0, none⟩)) from rfl); have hc1 := (blk_cell h1 1).trans (show _ = some (.int .i64 s.lost) from rfl); have hc2 := (blk_cell h1 2).trans (show _ = some (.int .i64 s.sk) from rfl); have hf1 := blk_frozen h1 1; have hf2 := blk_frozen h1 2; have H1 := az h1; have HR := az hr; have HM := az hm; clear hb1 h1 hr hm)
          all_goals (go_end0; (try rw [hst]); exact (postCell H1.out htb (hmst b l HM.out) n2.out HR.out n1.out _).1)
        · have hup : upT e.f0 right = e.f0 + 1 := if_neg u1
          have u1 := Bool.eq_false_iff.mpr u1
          clear hup hbd
          go_enter Try.func100, Try.ntmps100
          go_wp2_with (go_at_call 103; refine (last_calls _ _ tb s e r hst HS.out hl).mono ?_; rintro x w1 ⟨rfl, hb1⟩; have n0 := az (HS.out.below hb1); have n1 := az (below_then HB.out HB.out.size hb1); have n2 := az (FrT.below (ts := teT) hb1); obtain ⟨gl, b, l, h1, hr, hm, htb⟩ := n0.out.cons hst; have hll : l.length < 900 := (by rw [← hm, List.length_map] at hl9; exact hl9); have hc0 := (blk_cell h1 0).trans (show _ = some (.pointer (some ⟨gl, 0, none⟩)) from rfl); have hc1 := (blk_cell h1 1).trans (show _ = some (.int .i64 s.lost) from rfl); have hc2 := (blk_cell h1 2).trans (show _ = some (.int .i64 s.sk) from rfl); have hf1 := blk_frozen h1 1; have hf2 := blk_frozen h1 2; have H1 := az h1; have HR := az hr; have HM := az hm; clear hb1 h1 hr hm)
          all_goals (go_end0; (try rw [hst]); exact (postCell H1.out htb (hmst b l HM.out) n2.out HR.out n1.out _).1)
      · clear d2
        by_cases u1 : (!((e.f0 + 1) % 2 == 1) == right) = true
        · have hup : upT e.f0 right = e.f0 + 1 + 1 := if_pos u1
          clear hup hbd
          go_enter Try.func100, Try.ntmps100
          go_wp2_with (go_at_call 103; refine (last_calls _ _ tb s e r hst HS.out hl).mono ?_; rintro x w1 ⟨rfl, hb1⟩; have n0 := az (HS.out.below hb1); have n1 := az (below_then HB.out HB.out.size hb1); have n2 := az (FrT.below (ts := teT) hb1); obtain ⟨gl, b, l, h1, hr, hm, htb⟩ := n0.out.cons hst; have hll : l.length < 900 := (by rw [← hm, List.length_map] at hl9; exact hl9); have hc0 := (blk_cell h1 0).trans (show _ = some (.pointer (some ⟨gl, 0, none⟩)) from rfl); have hc1 := (blk_cell h1 1).trans (show _ = some (.int .i64 s.lost) from rfl); have hc2 := (blk_cell h1 2).trans (show _ = some (.int .i64 s.sk) from rfl); have hf1 := blk_frozen h1 1; have hf2 := blk_frozen h1 2; have H1 := az h1; have HR := az hr; have HM := az hm; clear hb1 h1 hr hm)
          all_goals (go_end0; (try rw [hst]); exact (postCell H1.out htb (hmst b l HM.out) n2.out HR.out n1.out _).1)
        · have hup : upT e.f0 right = e.f0 + 1 := if_neg u1
          have u1 := Bool.eq_false_iff.mpr u1
          clear hup hbd
          go_enter Try.func100, Try.ntmps100
          go_wp2_with (go_at_call 103; refine (last_calls _ _ tb s e r hst HS.out hl).mono ?_; rintro x w1 ⟨rfl, hb1⟩; have n0 := az (HS.out.below hb1); have n1 := az (below_then HB.out HB.out.size hb1); have n2 := az (FrT.below (ts := teT) hb1); obtain ⟨gl, b, l, h1, hr, hm, htb⟩ := n0.out.cons hst; have hll : l.length < 900 := (by rw [← hm, List.length_map] at hl9; exact hl9); have hc0 := (blk_cell h1 0).trans (show _ = some (.pointer (some ⟨gl, 0, none⟩)) from rfl); have hc1 := (blk_cell h1 1).trans (show _ = some (.int .i64 s.lost) from rfl); have hc2 := (blk_cell h1 2).trans (show _ = some (.int .i64 s.sk) from rfl); have hf1 := blk_frozen h1 1; have hf2 := blk_frozen h1 2; have H1 := az h1; have HR := az hr; have HM := az hm; clear hb1 h1 hr hm)
          all_goals (go_end0; (try rw [hst]); exact (postCell H1.out htb (hmst b l HM.out) n2.out HR.out n1.out _).1)
      · clear d2
        by_cases u1 : (!((e.f0 + 1) % 2 == 1) == right) = true
        · have hup : upT e.f0 right = e.f0 + 1 + 1 := if_pos u1
          rw [hup] at d4
          clear hup hbd
          go_enter Try.func100, Try.ntmps100
          go_wp2_with (go_at_call 103; refine (last_calls _ _ tb s e r hst HS.out hl).mono ?_; rintro x w1 ⟨rfl, hb1⟩; have n0 := az (HS.out.below hb1); have n1 := az (below_then HB.out HB.out.size hb1); have n2 := az (FrT.below (ts := teT) hb1); obtain ⟨gl, b, l, h1, hr, hm, htb⟩ := n0.out.cons hst; have hll : l.length < 900 := (by rw [← hm, List.length_map] at hl9; exact hl9); have hc0 := (blk_cell h1 0).trans (show _ = some (.pointer (some ⟨gl, 0, none⟩)) from rfl); have hc1 := (blk_cell h1 1).trans (show _ = some (.int .i64 s.lost) from rfl); have hc2 := (blk_cell h1 2).trans (show _ = some (.int .i64 s.sk) from rfl); have hf1 := blk_frozen h1 1; have hf2 := blk_frozen h1 2; have H1 := az h1; have HR := az hr; have HM := az hm; clear hb1 h1 hr hm)
          all_goals (go_end0; (try rw [hst]); exact (postCell H1.out htb (hmst b l HM.out) n2.out HR.out n1.out _).1)
        · have hup : upT e.f0 right = e.f0 + 1 := if_neg u1
          have u1 := Bool.eq_false_iff.mpr u1
          rw [hup] at d4
          clear hup hbd
          go_enter Try.func100, Try.ntmps100
          go_wp2_with (go_at_call 103; refine (last_calls _ _ tb s e r hst HS.out hl).mono ?_; rintro x w1 ⟨rfl, hb1⟩; have n0 := az (HS.out.below hb1); have n1 := az (below_then HB.out HB.out.size hb1); have n2 := az (FrT.below (ts := teT) hb1); obtain ⟨gl, b, l, h1, hr, hm, htb⟩ := n0.out.cons hst; have hll : l.length < 900 := (by rw [← hm, List.length_map] at hl9; exact hl9); have hc0 := (blk_cell h1 0).trans (show _ = some (.pointer (some ⟨gl, 0, none⟩)) from rfl); have hc1 := (blk_cell h1 1).trans (show _ = some (.int .i64 s.lost) from rfl); have hc2 := (blk_cell h1 2).trans (show _ = some (.int .i64 s.sk) from rfl); have hf1 := blk_frozen h1 1; have hf2 := blk_frozen h1 2; have H1 := az h1; have HR := az hr; have HM := az hm; clear hb1 h1 hr hm)
          all_goals (go_end0; (try rw [hst]); exact (postCell H1.out htb (hmst b l HM.out) n2.out HR.out n1.out _).1)
attribute [local go_sem] as86 fld0 fld2
def popT (s : TeS) : TeS :=
 if 0 < s.lost then s else if 0 < s.sk then { s with sk := s.sk - 1 } else match s.st with
  | e :: e2 :: r => if e.f2 = false then { s with st := e2 :: r } else s
  | _ => s
theorem popT_calls (w0 w : World) (tb : Nat) (s : TeS) (e : S87) (r : List S87) (hst : s.st = e :: r) (hB : Below w0.heap.size w0 w) (hs : IsTe w w0.heap.size tb s) (hl9 : r.length < 900) (q1 : 0 ≤ s.lost) (q2 : s.lost ≤ 1000) (q3 : 0 ≤ s.sk) (q4 : s.sk ≤ 1000) : Calls Try.prog 101 #[.pointer (some ⟨tb, 0, none⟩)] w fun x w' => x = .returned (.tuple #[]) ∧ IsTe w' w0.heap.size tb (popT s) ∧ Below w0.heap.size w0 w' ∧ FrT teT w w' := by
 have hl : r.length < 1000 := by omega
 have HS := az hs
 have HB := az hB
 clear hB
 unfold popT
 by_cases c1 : 0 < s.lost
 ·
  rw [if_pos c1]
  obtain ⟨gl, b, l, h1, hr, hm, hb⟩ := hs.cons hst
  have hc1 := (blk_cell h1 1).trans (show _ = some (.int .i64 s.lost) from rfl)
  clear h1 hr hm hs
  go_enter Try.func101, Try.ntmps101
  go_wp2
  go_end0
  exact ⟨rfl, HS.out, HB.out, FrT.refl _ _⟩
 ·
  rw [if_neg c1]
  have c1 : s.lost ≤ 0 := by omega
  by_cases c2 : 0 < s.sk
  ·
   rw [if_pos c2]
   obtain ⟨gl, b, l, h1, hr, hm, hb⟩ := hs.cons hst
   have hc1 := (blk_cell h1 1).trans (show _ = some (.int .i64 s.lost) from rfl)
   have hc2 := (blk_cell h1 2).trans (show _ = some (.int .i64 s.sk) from rfl)
   have hf2 := blk_frozen h1 2
   have H1 := az h1
   have HR := az hr
   have HM := az (show ((b, e) :: l).map (·.2) = e :: r by rw [List.map_cons, hm])
   clear h1 hr hm hs
   go_enter Try.func101, Try.ntmps101
   go_wp2
   go_end0
   try rw [hst]
   exact (postCell H1.out hb HM.out (FrT.refl _ _) HR.out HB.out _).2
  ·
   rw [if_neg c2, hst]
   have c2 : s.sk ≤ 0 := by omega
   obtain ⟨gl0, b0, l0, h1, hr, hm, hb⟩ := hs.cons hst
   have hc1 := (blk_cell h1 1).trans (show _ = some (.int .i64 s.lost) from rfl)
   have hc2 := (blk_cell h1 2).trans (show _ = some (.int .i64 s.sk) from rfl)
   clear h1 hr hm hs hb
   cases he : e.f2 with
   | true =>
    have hg : (match e :: r with | e :: e2 :: r => if e.f2 = false then ({ s with st := e2 :: r } : TeS) else s | _ => s) = s := by
     cases r with
     | nil => rfl
     | cons e2 r => exact if_neg (by rw [he]; decide)
    rw [hg]
    go_enter Try.func101, Try.ntmps101
    go_wp2_with (go_at_call 103; refine (last_calls _ _ tb s e r hst HS.out hl).mono ?_; rintro x w1 ⟨rfl, hb1⟩; have n0 := az (HS.out.below hb1); have n1 := az (below_then HB.out HB.out.size hb1); have n2 := az (FrT.below (ts := teT) hb1); obtain ⟨gl, b, l, h1, hr, hm, htb⟩ := n0.out.cons hst; have hll : l.length < 900 := (by rw [← hm, List.length_map] at hl9; exact hl9); have hc0 := (blk_cell h1 0).trans (show _ = some (.pointer (some ⟨gl, 0, none⟩)) from rfl); have hc1 := (blk_cell h1 1).trans (show _ = some (.int .i64 s.lost) from rfl); have hc2 := (blk_cell h1 2).trans (show _ = some (.int .i64 s.sk) from rfl); have hf1 := blk_frozen h1 1; have hf2 := blk_frozen h1 2; have H1 := az h1; have HR := az hr; have HM := az hm; clear hb1 h1 hr hm)
    all_goals (go_end0; exact ⟨rfl, n0.out, n1.out, n2.out⟩)
   | false =>
    cases r with
    | nil =>
     go_enter Try.func101, Try.ntmps101
     go_wp2_with (first | (go_at_call 103; refine (last_calls _ _ tb s e [] hst HS.out hl).mono ?_; rintro x w1 ⟨rfl, hb1⟩; have n0 := az (HS.out.below hb1); have n1 := az (below_then HB.out HB.out.size hb1); have n2 := az (FrT.below (ts := teT) hb1); obtain ⟨gl, b, l, h1, hr, hm, htb⟩ := n0.out.cons hst; have hll : l.length < 900 := (by rw [← hm, List.length_map] at hl9; exact hl9); have hc0 := (blk_cell h1 0).trans (show _ = some (.pointer (some ⟨gl, 0, none⟩)) from rfl); have hc1 := (blk_cell h1 1).trans (show _ = some (.int .i64 s.lost) from rfl); have hc2 := (blk_cell h1 2).trans (show _ = some (.int .i64 s.sk) from rfl); have hf1 := blk_frozen h1 1; have hf2 := blk_frozen h1 2; obtain rfl : l = [] := List.map_eq_nil_iff.mp hm; have H1 := az h1; have HR := az hr; have HM := az hm; clear hb1 h1 hr hm) | (go_at_call 111; refine (listLen_calls _ _ gl _ HR.out).mono ?_; rintro x w2 ⟨rfl, rfl⟩))
     all_goals (go_end0; exact ⟨rfl, n0.out, n1.out, n2.out⟩)
    | cons e2 r =>
     have hg : (match e :: e2 :: r with | e :: e2 :: r => if e.f2 = false then ({ s with st := e2 :: r } : TeS) else s | _ => s) = { s with st := e2 :: r } := if_pos he
     rw [hg]
     go_enter Try.func101, Try.ntmps101
     go_wp2_with (first | (go_at_call 103; refine (last_calls _ _ tb s e (e2 :: r) hst HS.out hl).mono ?_; rintro x w1 ⟨rfl, hb1⟩; have n0 := az (HS.out.below hb1); have n1 := az (below_then HB.out HB.out.size hb1); have n2 := az (FrT.below (ts := teT) hb1); obtain ⟨gl, b, l, h1, hr, hm, htb⟩ := n0.out.cons hst; have hll : l.length < 900 := (by rw [← hm, List.length_map] at hl9; exact hl9); have hc0 := (blk_cell h1 0).trans (show _ = some (.pointer (some ⟨gl, 0, none⟩)) from rfl); have hc1 := (blk_cell h1 1).trans (show _ = some (.int .i64 s.lost) from rfl); have hc2 := (blk_cell h1 2).trans (show _ = some (.int .i64 s.sk) from rfl); have hf1 := blk_frozen h1 1; have hf2 := blk_frozen h1 2; have hlen : 1 < ((((b, e) :: l).length : Nat) : Int) := (by have := congrArg List.length hm; rw [List.length_map, List.length_cons] at this; rw [List.length_cons]; omega); have H1 := az h1; have HR := az hr; have HM := az hm; clear hb1 h1 hr hm) | (go_at_call 111; refine (listLen_calls _ _ gl _ HR.out).mono ?_; rintro x w2 ⟨rfl, rfl⟩) | (go_at_call 112; refine (drop_calls w0 _ tb s e e2 r hst n1.out n0.out (by rw [List.length_cons] at hl9; omega)).mono ?_; rintro x w2 ⟨rfl, hd1, hd2, hd3⟩; have D1 := az hd1; have D2 := az hd2; have D3 := az hd3; clear hd1 hd2 hd3))
     all_goals first | (exfalso; rw [List.length_cons] at hlen; omega) | (go_end0; exact ⟨rfl, D1.out, D2.out, n2.out.trans D3.out⟩)
attribute [local go_sem] as86 fld0 fld2
theorem botA_last (gl : Nat) : ∀ (l : List (Nat × S87)), l ≠ [] → some (botA gl l) = l.getLast?.map fun q => (⟨q.1, 0, none⟩ : Addr)
 | [], h => absurd rfl h
 | [p], _ => by simp [botA]
 | p :: q :: r, _ => by
  rw [show botA gl (p :: q :: r) = botA gl (q :: r) from if_neg (by simp), botA_last gl (q :: r) (by simp), List.getLast?_cons_cons]
theorem hasAlone_calls (w : World) (base tb : Nat) (s : TeS) (h0 : s.st ≠ []) (hs : IsTe w base tb s) : Calls Try.prog 113 #[.pointer (some ⟨tb, 0, none⟩)] w fun x w' => x = .returned (.bool (s.st.any (·.f2))) ∧ w' = w := by
 obtain ⟨gl, l, h1, hr, hm, hb⟩ := hs
 have hl0 : l ≠ [] := by
  rintro rfl
  exact h0 hm.symm
 have hc0 := (blk_cell h1 0).trans (show _ = some (.pointer (some ⟨gl, 0, none⟩)) from rfl)
 have HR := az hr
 have HM := az (show s.st.any (·.f2) = l.any (·.2.f2) by rw [← hm, List.any_map]; rfl)
 have HL0 := az hl0
 have hnil := fun pp => run_neq_pointer_nil (P := Try.prog) w 84 (some pp) (by rw [Try.underlying84]; rfl)
 clear h1 hr hm hb h0
 go_enter Try.func113, Try.ntmps113
 go_wp2_with (go_at_call 117; refine (listFront_calls _ _ gl l HR.out HL0.out).mono ?_; rintro x w ⟨rfl, rfl⟩)
 go_loopg [3] (l.length + 1) (fun gg s3 wr => ∃ (u v : List (Nat × S87)), s3 = .pointer (u.getLast?.map fun q => (⟨q.1, 0, none⟩ : Addr)) ∧ u.length + 1 ≤ gg ∧ wr = w ∧ Aside0 (l = u ++ v) ∧ Aside0 (∀ p ∈ v, p.2.f2 = false))
 case atStart => exact ⟨l, [], by rw [← botA_last gl l HL0.out], Nat.le_refl _, rfl, ⟨by simp⟩, ⟨by simp⟩⟩
 case round =>
  obtain ⟨u, v, rfl, hg, hwr, HL, HV⟩ := hrel
  subst hwr
  rcases (List.eq_nil_or_concat u) with rfl | ⟨u', q, hu⟩
  ·
   go_wp2
   go_ret
   refine ⟨?_, rfl⟩
   have e0 : l.any (·.2.f2) = false := by
    rw [HL.out, List.nil_append]
    exact List.any_eq_false.mpr fun p hp => by rw [HV.out p hp]; decide
   rw [HM.out, e0]
   rfl
  ·
   rw [List.concat_eq_append] at hu
   subst hu
   have hl2 : l = u' ++ q :: v := by rw [HL.out]; simp
   have hgb := (hl2 ▸ HR.out : IsRing _ base gl (u' ++ q :: v)).2.1.at_.1
   have HQ := az (hl2 ▸ HR.out : IsRing _ base gl (u' ++ q :: v))
   have HL2 := az hl2
   have hq3 := (blk_cell hgb 3).trans (show _ = some (.iface 87 (.agg #[.int .i64 q.2.f0, .int .i64 q.2.f1, .bool q.2.f2])) from rfl)
   have hq0 : (u' ++ [q]).getLast?.map (fun q => (⟨q.1, 0, none⟩ : Addr)) = some ⟨q.1, 0, none⟩ := by simp
   have hgl : u'.length + 2 ≤ gk := by rw [List.length_append] at hg; exact hg
   clear hgb hl2 hg
   rw [hq0]
   clear hq0
   cases hq : q.2.f2 with
   | true =>
    rw [hq] at hq3
    go_wp2
    go_ret
    refine ⟨?_, rfl⟩
    have e0 : l.any (·.2.f2) = true := by
     rw [HL2.out]
     exact List.any_eq_true.mpr ⟨q, by simp, hq⟩
    rw [HM.out, e0]
    rfl
   | false =>
    rw [hq] at hq3
    go_wp2_with (go_at_call 118; refine (listNext_calls _ base gl q u' v HQ.out).mono ?_; rintro x w ⟨rfl, rfl⟩)
    go_roundg (u'.length + 1)
    case measure => omega
    case rel => exact ⟨u', q :: v, rfl, Nat.le_refl _, rfl, HL2, ⟨fun p hp => (List.mem_cons.mp hp).elim (fun h => h ▸ hq) (fun h => HV.out p h)⟩⟩
attribute [local go_sem] as86 fld0 fld2
def popAl : List S87 → List S87
 | [] => []
 | e :: r => if e.f2 = true then r else popAl r
def closeT (s : TeS) : TeS :=
 if 0 < s.lost then { s with lost := s.lost - 1 } else if s.st.any (·.f2) = true then { s with sk := 0, st := popAl s.st } else s
theorem any_two {e : S87} {r : List S87} (h1 : (e :: r).any (·.f2) = true) (h2 : ∃ r' b, e :: r = r' ++ [b] ∧ b.f2 = false) : ∃ e2 r2, r = e2 :: r2 ∧ (∃ r' b, r = r' ++ [b] ∧ b.f2 = false) := by
 obtain ⟨r', b, h3, h4⟩ := h2
 cases r' with
 | nil =>
  simp only [List.nil_append, List.cons.injEq] at h3
  obtain ⟨rfl, rfl⟩ := h3
  simp [h4] at h1
 | cons p r' =>
  simp only [List.cons_append, List.cons.injEq] at h3
  obtain ⟨rfl, rfl⟩ := h3
  cases r' with
  | nil => exact ⟨b, [], rfl, [], b, rfl, h4⟩
  | cons q r' => exact ⟨q, r' ++ [b], rfl, q :: r', b, rfl, h4⟩
theorem closeT_calls (w0 w : World) (tb : Nat) (s : TeS) (e : S87) (r : List S87) (hst : s.st = e :: r) (hbt : ∃ r' b, s.st = r' ++ [b] ∧ b.f2 = false) (hB : Below w0.heap.size w0 w) (hs : IsTe w w0.heap.size tb s) (hl9 : r.length < 900) (q1 : 0 ≤ s.lost) (q2 : s.lost ≤ 1000) : Calls Try.prog 102 #[.pointer (some ⟨tb, 0, none⟩)] w fun x w' => x = .returned (.tuple #[]) ∧ IsTe w' w0.heap.size tb (closeT s) ∧ Below w0.heap.size w0 w' ∧ FrT teT w w' := by
 have HS := az hs
 have HB := az hB
 have hs0 : s.st ≠ [] := by rw [hst]; simp
 obtain ⟨gl, b, l, h1, hr, hm, htb⟩ := hs.cons hst
 have hc1 := (blk_cell h1 1).trans (show _ = some (.int .i64 s.lost) from rfl)
 have hc2 := (blk_cell h1 2).trans (show _ = some (.int .i64 s.sk) from rfl)
 have hf1 := blk_frozen h1 1
 have hf2 := blk_frozen h1 2
 have H1 := az h1
 have HR := az hr
 have HM := az (show ((b, e) :: l).map (·.2) = s.st by rw [hst, List.map_cons, hm])
 have HST := az hst
 have HBT := az hbt
 have HS0 := az hs0
 clear hB hs hs0 hst hbt h1 hr hm
 unfold closeT
 by_cases c1 : 0 < s.lost
 ·
  rw [if_pos c1]
  go_enter Try.func102, Try.ntmps102
  go_wp2
  go_end0
  exact (postCell H1.out htb HM.out (FrT.refl _ _) HR.out HB.out _).1
 ·
  rw [if_neg c1]
  have c1 : s.lost ≤ 0 := by omega
  have HCP := az (postCell H1.out htb HM.out (FrT.refl _ _) HR.out HB.out 0).2
  cases ha : s.st.any (·.f2) with
  | false =>
   rw [if_neg (by decide)]
   go_enter Try.func102, Try.ntmps102
   go_wp2_with (go_at_call 113; refine (hasAlone_calls _ _ tb s HS0.out HS.out).mono ?_; rw [ha]; rintro x w ⟨rfl, rfl⟩)
   all_goals (go_end0; exact ⟨rfl, HS.out, HB.out, FrT.refl _ _⟩)
  | true =>
   rw [if_pos rfl]
   have HAN := az ha
   clear H1 HM HR
   go_enter Try.func102, Try.ntmps102
   go_wp2_with (go_at_call 113; refine (hasAlone_calls _ _ tb s HS0.out HS.out).mono ?_; rw [ha]; rintro x w ⟨rfl, rfl⟩)
   go_loopg [] (s.st.length + 1) (fun gg wr => ∃ st : List S87, st.length ≤ gg ∧ st.length < 902 ∧ Aside0 (IsTe wr w0.heap.size tb ⟨st, s.lost, 0⟩) ∧ Aside0 (Below w0.heap.size w0 wr) ∧ Aside0 (FrT teT w wr) ∧ Aside0 (popAl st = popAl s.st) ∧ Aside0 (st.any (·.f2) = true) ∧ Aside0 (∃ r' b, st = r' ++ [b] ∧ b.f2 = false))
   case atStart => exact ⟨s.st, by omega, by rw [HST.out, List.length_cons]; omega, ⟨HCP.out.2.1⟩, ⟨HCP.out.2.2.1⟩, ⟨HCP.out.2.2.2⟩, ⟨rfl⟩, HAN, HBT⟩
   case round =>
    clear ha hc1 hc2 hf1 hf2 hl9 HCP HAN HBT HST HS HB HS0
    obtain ⟨st, hg, hl8, HT, HTB, HTF, HP, HAN, HBT⟩ := hrel
    obtain ⟨e, r, rfl⟩ : ∃ e r, st = e :: r := by
     cases st with
     | nil => exact absurd HAN.out (by simp)
     | cons e r => exact ⟨e, r, rfl⟩
    obtain ⟨e2, r2, hr0, hbt⟩ := any_two HAN.out HBT.out
    have HBT2 := az hbt
    subst hr0
    clear hbt HBT
    have hl : (e2 :: r2).length < 1000 := by rw [List.length_cons] at hl8; omega
    have hr2 : r2.length < 900 := by rw [List.length_cons, List.length_cons] at hl8; omega
    have hgl : r2.length + 2 ≤ gk := by rw [List.length_cons, List.length_cons] at hg; exact hg
    clear hl8 hg
    cases he : e.f2 with
    | true =>
     have HE := az (show e2 :: r2 = popAl s.st by rw [← HP.out, popAl, if_pos he])
     go_wp2_with (first | (go_at_call 103; refine (last_calls _ _ tb ⟨e :: e2 :: r2, s.lost, 0⟩ e (e2 :: r2) rfl HT.out hl).mono ?_; rintro x w1 ⟨rfl, hb1⟩; have n0 := az (HT.out.below hb1); have n1 := az (below_then HTB.out HTB.out.size hb1); have n2 := az (HTF.out.trans (FrT.below (ts := teT) hb1)); clear hb1) | (go_at_call 112; refine (drop_calls w0 _ tb ⟨e :: e2 :: r2, s.lost, 0⟩ e e2 r2 rfl n1.out n0.out hr2).mono ?_; rintro x w2 ⟨rfl, hd1, hd2, hd3⟩; have D1 := az hd1; have D2 := az hd2; have D3 := az (n2.out.trans hd3); clear hd1 hd2 hd3))
     all_goals (go_end0; rw [← HE.out]; exact ⟨rfl, D1.out, D2.out, D3.out⟩)
    | false =>
     have HE := az (show popAl (e2 :: r2) = popAl s.st by rw [← HP.out, popAl.eq_2 e, if_neg (by rw [he]; decide)])
     have HA2 := az (show (e2 :: r2).any (·.f2) = true by have := HAN.out; rw [List.any_cons, he, Bool.false_or] at this; exact this)
     go_wp2_with (first | (go_at_call 103; refine (last_calls _ _ tb ⟨e :: e2 :: r2, s.lost, 0⟩ e (e2 :: r2) rfl HT.out hl).mono ?_; rintro x w1 ⟨rfl, hb1⟩; have n0 := az (HT.out.below hb1); have n1 := az (below_then HTB.out HTB.out.size hb1); have n2 := az (HTF.out.trans (FrT.below (ts := teT) hb1)); clear hb1) | (go_at_call 112; refine (drop_calls w0 _ tb ⟨e :: e2 :: r2, s.lost, 0⟩ e e2 r2 rfl n1.out n0.out hr2).mono ?_; rintro x w2 ⟨rfl, hd1, hd2, hd3⟩; have D1 := az hd1; have D2 := az hd2; have D3 := az (n2.out.trans hd3); clear hd1 hd2 hd3))
     go_roundg (r2.length + 1)
     case measure => omega
     case rel => exact ⟨e2 :: r2, by simp, by rw [List.length_cons]; omega, D1, D2, D3, HE, HA2, HBT2⟩
def impl_opens.f (a0 : Int) : Option (Bool) := if a0 = 19 then (some true) else (if a0 = 20 then (some true) else (some (a0 == 21)))
theorem impl_opens.calls (a0 : Int) (r : Bool) (w : World) (h : impl_opens.f a0 = some r) :
  Calls Try.prog 63 #[.int .i64 a0] w fun e w' => e = .returned (.bool r) ∧ Drawn0 w w' := by
 have H : (if a0 = 19 then (some true) else (if a0 = 20 then (some true) else (some (a0 == 21)))) = some r := h
 clear h
 by_cases c2 : a0 = 19
 ·
  rw [if_pos c2] at H
  have c2b0 : (a0 == 19) = true := beq_iff_eq.mpr c2
  have c2b1 : (a0 != 19) = false := bne_eq_false_iff_eq.mpr c2
  clear c2
  obtain rfl := Option.some.inj H
  go_enter Try.func63, Try.ntmps63
  go_wp2
  go_ret
  exact ⟨by first | rfl | (simp; done) | (simp [*]; done), by repeat (first | exact Drawn0.refl _ | apply Drawn0.step)⟩
 ·
  rw [if_neg c2] at H
  have c2b0 : (a0 == 19) = false := beq_eq_false_iff_ne.mpr c2
  have c2b1 : (a0 != 19) = true := bne_iff_ne.mpr c2
  by_cases c3 : a0 = 20
  ·
   rw [if_pos c3] at H
   have c3b0 : (a0 == 20) = true := beq_iff_eq.mpr c3
   have c3b1 : (a0 != 20) = false := bne_eq_false_iff_eq.mpr c3
   clear c3
   obtain rfl := Option.some.inj H
   go_enter Try.func63, Try.ntmps63
   go_wp2
   go_ret
   exact ⟨by first | rfl | (simp; done) | (simp [*]; done), by repeat (first | exact Drawn0.refl _ | apply Drawn0.step)⟩
  ·
   rw [if_neg c3] at H
   have c3b0 : (a0 == 20) = false := beq_eq_false_iff_ne.mpr c3
   have c3b1 : (a0 != 20) = true := bne_iff_ne.mpr c3
   obtain rfl := Option.some.inj H
   go_enter Try.func63, Try.ntmps63
   go_wp2
   go_ret
   exact ⟨by first | rfl | (simp; done) | (simp [*]; done), by repeat (first | exact Drawn0.refl _ | apply Drawn0.step)⟩
theorem MapI.heap {w w' : World} {b n : Nat} {f : Int → Option Int} (h : MapI w b n f) (he : ∀ es c, w.heap[b]? = some (.map es c) → w'.heap[b]? = some (.map es c)) : MapI w' b n f := by
 obtain ⟨D, ⟨es, clock, hb, F⟩, h2⟩ := h
 exact ⟨D, ⟨es, clock, he _ _ hb, F⟩, h2⟩
def IsPara (w : World) (base pb : Nat) (Ar : Option Addr) (cr n : Nat) (cls : List Int) (mt cd : Int → Option Int) : Prop := ∃ vc bm bc nm nc, w.heap[pb]? = some (.cells #[.slice Ar n cr, vc, .map (some bm), .map (some bc)] 78 (0, 0)) ∧ Kd.R (Kd.int .i64) 3 w base (fun _ => True) vc cls ∧ MapI w bm nm mt ∧ MapI w bc nc cd ∧ base ≤ pb
theorem IsPara.below {w w' : World} {base pb : Nat} {Ar : Option Addr} {cr n : Nat} {cls : List Int} {mt cd : Int → Option Int} (h : IsPara w base pb Ar cr n cls mt cd) (hb : Below w.heap.size w w') : IsPara w' base pb Ar cr n cls mt cd := by
 obtain ⟨vc, bm, bc, nm, nc, h1, h2, h3, h4, h5⟩ := h
 exact ⟨vc, bm, bc, nm, nc, blk_below h1 hb, Kd.R_below h2 hb, h3.below hb, h4.below hb, h5⟩
theorem IsPara.drewN {w : World} {base pb : Nat} {Ar : Option Addr} {cr n : Nat} {cls : List Int} {mt cd : Int → Option Int} (h : IsPara w base pb Ar cr n cls mt cd) (m : Nat) : IsPara (w.drewN m) base pb Ar cr n cls mt cd := h.below (pw_below_drewN (Below.refl _ _) m)
theorem IsPara.fr {ts : List Nat} {w w' : World} {base pb : Nat} {Ar : Option Addr} {cr n : Nat} {cls : List Int} {mt cd : Int → Option Int} (h : IsPara w base pb Ar cr n cls mt cd) (hf : FrT ts w w') (h3 : 3 ∉ ts) (hp : 78 ∉ ts) : IsPara w' base pb Ar cr n cls mt cd := by
 obtain ⟨vc, bm, bc, nm, nc, h1, h2, h4, h5, h6⟩ := h
 exact ⟨vc, bm, bc, nm, nc, hf.2 pb _ h1 (fun t ht cs e => by injection e with _ e _; exact hp (e ▸ ht)), hf.R h2 h3, h4.heap (fun es c he => hf.2 bm _ he (fun _ _ _ e => by cases e)), h5.heap (fun es c he => hf.2 bc _ he (fun _ _ _ e => by cases e)), h6⟩
def opensB (c : Int) : Bool := c == 19 || c == 20 || c == 21
theorem opensB_f (c : Int) : impl_opens.f c = some (opensB c) := by
 unfold impl_opens.f opensB
 by_cases h1 : c = 19
 · subst h1; rfl
 ·
  by_cases h2 : c = 20
  · subst h2; rfl
  · rw [if_neg h1, if_neg h2, beq_eq_false_iff_ne.mpr h1, beq_eq_false_iff_ne.mpr h2]; rfl
theorem opensQ (c : Int) (w : World) (n : Nat) : Calls Try.prog 63 #[.int .i64 c] (w.drewN n) fun e w'' => e = .returned (.bool (opensB c)) ∧ ∃ m, w'' = w.drewN m :=
 Calls.quiet_of ((impl_opens.calls c (opensB c) (w.drewN n) (opensB_f c)).mono fun _ _ ⟨he, hd⟩ => ⟨he, hd.out⟩)
def sideF (cls : List Int) (mt : Int → Option Int) (tg : Nat) : Nat → Nat → Int
 | 0, _ => 0
 | g + 1, k => if k < tg then (if cls.getD k 0 = 1 then 0 else if cls.getD k 0 = 2 ∨ cls.getD k 0 = 3 then 1 else if opensB (cls.getD k 0) = true then (match mt k with | none => 0 | some m => sideF cls mt tg g (m.toNat + 1)) else sideF cls mt tg g (k + 1)) else 0
theorem wf_small {a : Int} (h0 : 0 ≤ a) (h1 : a < 1000000) : (Lit.int .i64 a).wf = true := by
 exact WalkArith.wf_i64 (by omega)
theorem side_calls (w : World) (base pb : Nat) (Ar : Option Addr) (cr n : Nat) (cls : List Int) (mt cd : Int → Option Int) (k0 tg : Nat) (hs : IsPara w base pb Ar cr n cls mt cd) (hl : cls.length ≤ 1000) (hk0 : k0 ≤ cls.length) (hto : tg ≤ cls.length) (hmt : ∀ k m, mt k = some m → k < m ∧ m < cls.length) :
  Calls Try.prog 104 #[.pointer (some ⟨pb, 0, none⟩), .int .i64 k0, .int .i64 tg] w fun x w' => x = .returned (.int .i64 (sideF cls mt tg (cls.length + 1) k0)) ∧ ∃ m, w' = w.drewN m := by
 obtain ⟨vc, bm, bc, nm, nc, h1, h2, h3, h4, h5⟩ := hs
 obtain ⟨A, c, rfl, hlc, hC⟩ := Kd.R_reads h2
 have hp1 := (blk_cell h1 1).trans (show _ = some (.slice A cls.length c) from rfl)
 have hp2 := (blk_cell h1 2).trans (show _ = some (.map (some bm)) from rfl)
 have HC := az hC
 have HM := az h3
 have HMT := az hmt
 clear h1 h2 h3 h4 h5 hC hmt
 obtain ⟨R, hR⟩ : ∃ R, sideF cls mt tg (cls.length + 1) k0 = R := ⟨_, rfl⟩
 rw [hR]
 have HR := az hR
 clear hR
 go_enter Try.func104, Try.ntmps104
 go_wp2
 go_loopg [7] (cls.length + 1) (fun gg s7 wr => ∃ k n : Nat, s7 = .int .i64 k ∧ k ≤ cls.length ∧ cls.length + 1 ≤ gg + k ∧ wr = w.drewN n ∧ Aside0 (sideF cls mt tg gg k = R))
 case atStart => exact ⟨k0, 0, rfl, hk0, by omega, rfl, HR⟩
 case round =>
  obtain ⟨k, nd, rfl, hk, hg, rfl, HF⟩ := hrel
  obtain ⟨g, rfl⟩ : ∃ g, gk = g + 1 := ⟨gk - 1, by omega⟩
  by_cases hlt : k < tg
  ·
   have hltz : (k : Int) < (tg : Int) := by omega
   obtain ⟨ad, e1, hx⟩ := Kd.at_int HC.out (k : Int) (by omega) (by omega)
   subst e1
   rw [Int.toNat_natCast, show rd cls (k : Int) = cls.getD k 0 by simp [rd]] at hx
   have hf := HF.out
   rw [sideF, if_pos hlt] at hf
   generalize hy : cls.getD k 0 = y at hx hf
   have hk9 : k < 2000 := by omega
   have hkl : (k : Int) < (cls.length : Int) := by omega
   clear hy HF
   by_cases c1 : y = 1
   ·
    rw [if_pos c1] at hf
    subst c1 hf
    go_wp2
    go_ret
    exact ⟨rfl, _, rfl⟩
   ·
    rw [if_neg c1] at hf
    have d1 : (y == 1) = false := beq_eq_false_iff_ne.mpr c1
    by_cases c2 : y = 2 ∨ y = 3
    ·
     rw [if_pos c2] at hf
     subst hf
     clear c1
     rcases c2 with rfl | rfl
     ·
      go_wp2
      go_ret
      exact ⟨rfl, _, rfl⟩
     ·
      go_wp2
      go_ret
      exact ⟨rfl, _, rfl⟩
    ·
     rw [if_neg c2] at hf
     have d2 : (y == 2) = false := beq_eq_false_iff_ne.mpr (fun h => c2 (.inl h))
     have d3 : (y == 3) = false := beq_eq_false_iff_ne.mpr (fun h => c2 (.inr h))
     clear c1 c2
     cases ho : opensB y with
     | false =>
      rw [ho, if_neg (by decide)] at hf
      have HF2 := az hf
      clear hf
      go_wp2_with (go_at_call 63; refine (opensQ y w nd).mono ?_; rw [ho]; rintro e w1 ⟨rfl, m1, rfl⟩)
      go_roundg g
      case measure => omega
      case rel => exact ⟨k + 1, m1, by go_num, by omega, by omega, rfl, HF2⟩
     | true =>
      rw [ho, if_pos rfl] at hf
      cases hm : mt k with
      | none =>
       rw [hm] at hf
       simp only at hf
       subst hf
       have hlk : ∀ n, (Instr.lookup 76 (.map (some bm)) (.int .i64 k) true).run Try.prog (w.drewN n) = .ok (.tuple #[.int .i64 0, .bool false]) (w.drewN n) := fun n => by
        have h := MapI.look (w := w.drewN n) HM.out k (wf_small (by omega) (by omega))
        rw [hm] at h
        exact h
       clear hm
       go_wp2_with (go_at_call 63; refine (opensQ y w nd).mono ?_; rw [ho]; rintro e w1 ⟨rfl, m1, rfl⟩)
       go_ret
       exact ⟨rfl, _, rfl⟩
      | some m =>
       rw [hm] at hf
       simp only at hf
       obtain ⟨m1', m2'⟩ := HMT.out _ _ hm
       have HF2 := az hf
       clear hf
       have hlk : ∀ n, (Instr.lookup 76 (.map (some bm)) (.int .i64 k) true).run Try.prog (w.drewN n) = .ok (.tuple #[.int .i64 m, .bool true]) (w.drewN n) := fun n => by
        have h := MapI.look (w := w.drewN n) HM.out k (wf_small (by omega) (by omega))
        rw [hm] at h
        exact h
       clear hm
       go_wp2_with (go_at_call 63; refine (opensQ y w nd).mono ?_; rw [ho]; rintro e w1 ⟨rfl, m1, rfl⟩)
       go_roundg g
       case measure => omega
       case rel => exact ⟨m.toNat + 1, m1, by rw [show m + 1 = ((m.toNat + 1 : Nat) : Int) by omega], by omega, by omega, rfl, HF2⟩
  ·
   have hltz : ¬ (k : Int) < (tg : Int) := by omega
   have hf := HF.out
   rw [sideF, if_neg hlt] at hf
   subst hf
   clear HF HR
   go_wp2
   go_ret
   exact ⟨rfl, _, rfl⟩
attribute [local go_sem] as86 fld0 fld2
theorem side_calls' (w : World) (base pb : Nat) (Ar : Option Addr) (cr n : Nat) (cls : List Int) (mt cd : Int → Option Int) (k0 tg : Nat) (x y : Int) (hx : x = k0) (hy : y = tg) (hs : IsPara w base pb Ar cr n cls mt cd) (hl : cls.length ≤ 1000) (hk0 : k0 ≤ cls.length) (hto : tg ≤ cls.length) (hmt : ∀ k m, mt k = some m → k < m ∧ m < cls.length) :
  Calls Try.prog 104 #[.pointer (some ⟨pb, 0, none⟩), .int .i64 x, .int .i64 y] w fun x w' => x = .returned (.int .i64 (sideF cls mt tg (cls.length + 1) k0)) ∧ ∃ m, w' = w.drewN m := by
 subst hx hy
 exact side_calls w base pb Ar cr n cls mt cd k0 tg hs hl hk0 hto hmt
def endP (cls : List Int) (mt : Int → Option Int) (k : Nat) : Nat := match mt k with | none => cls.length | some m => m.toNat
def topE (s : TeS) : S87 := match s.st with | [] => ⟨0, 0, false⟩ | e :: _ => e
def tellS (cls : List Int) (mt : Int → Option Int) (k : Nat) (s : TeS) : TeS :=
 if cls.getD k 0 = 14 then pushT false 0 false s else if cls.getD k 0 = 15 then pushT true 0 false s else if cls.getD k 0 = 17 then pushT false 1 false s else if cls.getD k 0 = 18 then pushT true 2 false s
 else if cls.getD k 0 = 16 then popT s else if cls.getD k 0 = 10 then s else if cls.getD k 0 = 22 then closeT s
 else if cls.getD k 0 = 19 then pushT false 0 true s else if cls.getD k 0 = 20 then pushT true 0 true s
 else if cls.getD k 0 = 21 then pushT (sideF cls mt (endP cls mt k) (cls.length + 1) (k + 1) == 1) 0 true s else s
def noLv (c : Int) : Bool := c == 14 || c == 15 || c == 17 || c == 18 || c == 16 || c == 10
def tellL (c : Int) (s : TeS) : Int := if noLv c = true then -1 else (topE (if c = 22 then closeT s else s)).f0
def tellC (c : Int) (s : TeS) : Int := if noLv c = true then 0 else if (topE (if c = 22 then closeT s else s)).f1 = 0 then c else (topE (if c = 22 then closeT s else s)).f1
theorem popAl_le : ∀ (l : List S87), (popAl l).length ≤ l.length
 | [] => Nat.le_refl _
 | e :: r => by
  rw [popAl]
  split
  · simp
  · exact Nat.le_trans (popAl_le r) (by simp)
theorem popAl_ne : ∀ {l : List S87}, l.any (·.f2) = true → (∃ r' b, l = r' ++ [b] ∧ b.f2 = false) → ∃ e r, popAl l = e :: r ∧ r.length + 1 ≤ l.length - 1 ∧ ∃ r' b, popAl l = r' ++ [b] ∧ b.f2 = false
 | [], h, _ => by simp at h
 | e :: r, h1, h2 => by
  obtain ⟨e2, r2, hr, hb⟩ := any_two h1 h2
  rw [popAl]
  cases he : e.f2 with
  | true =>
   rw [if_pos rfl]
   subst hr
   exact ⟨e2, r2, rfl, by simp, hb⟩
  | false =>
   rw [if_neg (by decide)]
   have h3 : r.any (·.f2) = true := by rw [List.any_cons, he, Bool.false_or] at h1; exact h1
   obtain ⟨e3, r3, h4, h5, h6⟩ := popAl_ne h3 hb
   exact ⟨e3, r3, h4, by rw [List.length_cons]; omega, h6⟩
theorem closeT_st {s : TeS} {e : S87} {r : List S87} (hst : s.st = e :: r) (hbt : ∃ r' b, s.st = r' ++ [b] ∧ b.f2 = false) : ∃ e' r', (closeT s).st = e' :: r' ∧ r'.length ≤ r.length := by
 unfold closeT
 split
 · exact ⟨e, r, hst, Nat.le_refl _⟩
 ·
  split
  ·
   rename_i h
   obtain ⟨e3, r3, h4, h5, _⟩ := popAl_ne h hbt
   rw [hst, List.length_cons] at h5
   exact ⟨e3, r3, h4, by omega⟩
  · exact ⟨e, r, hst, Nat.le_refl _⟩
theorem BB (w : World) (o : Obj) (m : Nat) : Below w.heap.size w ((w.alloc o).drewN m) := pw_below_drewN (below_alloc (Below.refl _ _) o) m
theorem tell_calls (w0 w : World) (tb bp pb : Nat) (Ar : Option Addr) (cr : Nat) (cls : List Int) (mt cd : Int → Option Int) (k : Nat) (s : TeS) (e : S87) (r : List S87) (hst : s.st = e :: r) (hbt : ∃ r' b, s.st = r' ++ [b] ∧ b.f2 = false) (hB : Below w0.heap.size w0 w) (hs : IsTe w w0.heap.size tb s) (hp : IsPara w bp pb Ar cr cls.length cls mt cd) (hl : cls.length ≤ 1000) (hk : k < cls.length) (hmt : ∀ k m, mt k = some m → k < m ∧ m < cls.length) (hl9 : r.length < 900) (q1 : 0 ≤ s.lost) (q2 : s.lost ≤ 1000) (q3 : 0 ≤ s.sk) (q4 : s.sk ≤ 1000) (q5 : 0 ≤ e.f0) (q6 : e.f0 ≤ 1000) :
  Calls Try.prog 78 #[.pointer (some ⟨tb, 0, none⟩), .pointer (some ⟨pb, 0, none⟩), .int .i64 k] w fun x w' => x = .returned (.tuple #[.int .i64 (tellL (cls.getD k 0) s), .int .i64 (tellC (cls.getD k 0) s)]) ∧ IsTe w' w0.heap.size tb (tellS cls mt k s) ∧ Below w0.heap.size w0 w' ∧ FrT teT w w' := by
 have HP := az hp
 obtain ⟨vc, bm, bc, nm, nc, h1, h2, h3, h4, h5⟩ := hp
 obtain ⟨A, c, rfl, hlc, hC⟩ := Kd.R_reads h2
 have hp1 := (blk_cell h1 1).trans (show _ = some (.slice A cls.length c) from rfl)
 obtain ⟨ad, e1, hx⟩ := Kd.at_int hC (k : Int) (by omega) (by omega)
 subst e1
 rw [Int.toNat_natCast, show rd cls (k : Int) = cls.getD k 0 by simp [rd]] at hx
 have hkl : (k : Int) < (cls.length : Int) := by omega
 obtain ⟨y, hy⟩ : ∃ y, cls.getD k 0 = y := ⟨_, rfl⟩
 rw [hy] at hx ⊢
 have HY := az hy
 have HS := az hs
 have HB := az hB
 have HST := az hst
 have HBT := az hbt
 have HMT := az hmt
 clear hy hs hB hst hbt hmt h1 h2 h3 h4 h5 hC
 by_cases k14 : y = 14
 ·
  subst k14
  rw [show tellS cls mt k s = pushT false 0 false s by unfold tellS; rw [HY.out]; rfl, show tellL 14 s = -1 from rfl, show tellC 14 s = 0 from rfl]
  clear HY
  go_enter Try.func78, Try.ntmps78
  go_wp2_with (go_at_call 100; refine (pushT_calls w0 _ tb s e r false 0 false HST.out HB.out HS.out hl9 q5 q6 q1 q2 q3 q4).mono ?_; rintro x w3 ⟨rfl, p1, p2, p3⟩; have P1 := az p1; have P2 := az p2; have P3 := az p3; clear p1 p2 p3)
  go_ret2
  exact ⟨rfl, P1.out, P2.out, P3.out⟩
 have d14 : (y == 14) = false := beq_eq_false_iff_ne.mpr k14
 by_cases k15 : y = 15
 ·
  subst k15
  rw [show tellS cls mt k s = pushT true 0 false s by unfold tellS; rw [HY.out]; rfl, show tellL 15 s = -1 from rfl, show tellC 15 s = 0 from rfl]
  clear HY
  go_enter Try.func78, Try.ntmps78
  go_wp2_with (go_at_call 100; refine (pushT_calls w0 _ tb s e r true 0 false HST.out HB.out HS.out hl9 q5 q6 q1 q2 q3 q4).mono ?_; rintro x w3 ⟨rfl, p1, p2, p3⟩; have P1 := az p1; have P2 := az p2; have P3 := az p3; clear p1 p2 p3)
  go_ret2
  exact ⟨rfl, P1.out, P2.out, P3.out⟩
 have d15 : (y == 15) = false := beq_eq_false_iff_ne.mpr k15
 by_cases k17 : y = 17
 ·
  subst k17
  rw [show tellS cls mt k s = pushT false 1 false s by unfold tellS; rw [HY.out]; rfl, show tellL 17 s = -1 from rfl, show tellC 17 s = 0 from rfl]
  clear HY
  go_enter Try.func78, Try.ntmps78
  go_wp2_with (go_at_call 100; refine (pushT_calls w0 _ tb s e r false 1 false HST.out HB.out HS.out hl9 q5 q6 q1 q2 q3 q4).mono ?_; rintro x w3 ⟨rfl, p1, p2, p3⟩; have P1 := az p1; have P2 := az p2; have P3 := az p3; clear p1 p2 p3)
  go_ret2
  exact ⟨rfl, P1.out, P2.out, P3.out⟩
 have d17 : (y == 17) = false := beq_eq_false_iff_ne.mpr k17
 by_cases k18 : y = 18
 ·
  subst k18
  rw [show tellS cls mt k s = pushT true 2 false s by unfold tellS; rw [HY.out]; rfl, show tellL 18 s = -1 from rfl, show tellC 18 s = 0 from rfl]
  clear HY
  go_enter Try.func78, Try.ntmps78
  go_wp2_with (go_at_call 100; refine (pushT_calls w0 _ tb s e r true 2 false HST.out HB.out HS.out hl9 q5 q6 q1 q2 q3 q4).mono ?_; rintro x w3 ⟨rfl, p1, p2, p3⟩; have P1 := az p1; have P2 := az p2; have P3 := az p3; clear p1 p2 p3)
  go_ret2
  exact ⟨rfl, P1.out, P2.out, P3.out⟩
 have d18 : (y == 18) = false := beq_eq_false_iff_ne.mpr k18
 by_cases k16 : y = 16
 ·
  subst k16
  rw [show tellS cls mt k s = popT s by unfold tellS; rw [HY.out]; rfl, show tellL 16 s = -1 from rfl, show tellC 16 s = 0 from rfl]
  clear HY
  go_enter Try.func78, Try.ntmps78
  go_wp2_with (go_at_call 101; refine (popT_calls w0 _ tb s e r HST.out HB.out HS.out hl9 q1 q2 q3 q4).mono ?_; rintro x w3 ⟨rfl, p1, p2, p3⟩; have P1 := az p1; have P2 := az p2; have P3 := az p3; clear p1 p2 p3)
  go_ret2
  exact ⟨rfl, P1.out, P2.out, P3.out⟩
 have d16 : (y == 16) = false := beq_eq_false_iff_ne.mpr k16
 by_cases k10 : y = 10
 ·
  subst k10
  rw [show tellS cls mt k s = s by unfold tellS; rw [HY.out]; rfl, show tellL 10 s = -1 from rfl, show tellC 10 s = 0 from rfl]
  clear HY
  go_enter Try.func78, Try.ntmps78
  go_wp2
  go_ret2
  exact ⟨rfl, HS.out, HB.out, FrT.refl _ _⟩
 have d10 : (y == 10) = false := beq_eq_false_iff_ne.mpr k10
 have hlr : r.length < 1000 := by omega
 have hnl : noLv y = false := by unfold noLv; rw [d14, d15, d17, d18, d16, d10]; rfl
 have hL : tellL y s = (topE (if y = 22 then closeT s else s)).f0 := by unfold tellL; rw [hnl]; rfl
 have hC : tellC y s = if (topE (if y = 22 then closeT s else s)).f1 = 0 then y else (topE (if y = 22 then closeT s else s)).f1 := by unfold tellC; rw [hnl]; rfl
 rw [hL, hC]
 clear hnl hL hC
 have hS0 : tellS cls mt k s = if y = 22 then closeT s else if y = 19 then pushT false 0 true s else if y = 20 then pushT true 0 true s else if y = 21 then pushT (sideF cls mt (endP cls mt k) (cls.length + 1) (k + 1) == 1) 0 true s else s := by
  unfold tellS; rw [HY.out, if_neg k14, if_neg k15, if_neg k17, if_neg k18, if_neg k16, if_neg k10]
 rw [hS0]
 clear hS0 HY k14 k15 k17 k18 k16 k10
 by_cases k22 : y = 22
 ·
  subst k22
  rw [if_pos rfl, if_pos rfl]
  obtain ⟨e', r', hst', hl'⟩ := closeT_st HST.out HBT.out
  have hte : topE (closeT s) = e' := by unfold topE; rw [hst']
  rw [hte]
  have HST' := az hst'
  have hl2 : r'.length < 1000 := by omega
  clear hst' hte hl'
  have ho : opensB 22 = false := rfl
  by_cases f1 : e'.f1 = 0
  ·
   rw [if_pos f1]
   have f2 : (e'.f1 == 0) = true := by rw [f1]; rfl
   clear f1
   go_enter Try.func78, Try.ntmps78
   go_wp2_with (first | (go_at_call 102; refine (closeT_calls w0 _ tb s e r HST.out HBT.out HB.out HS.out hl9 q1 q2).mono ?_; rintro x w3 ⟨rfl, p1, p2, p3⟩; have P1 := az p1; have P2 := az p2; have P3 := az p3; clear p1 p2 p3) | (go_at_call 103; refine (last_calls _ _ tb (closeT s) e' r' HST'.out P1.out hl2).mono ?_; rintro x w1 ⟨rfl, hb1⟩; have n0 := az (IsTe.below P1.out hb1); have n1 := az (below_then P2.out (Below.size P2.out) hb1); have n2 := az (FrT.trans P3.out (FrT.below (ts := teT) hb1)); clear hb1) | (go_at_call 63; refine (opensQ 22 (w1.alloc _) 0).mono ?_; rw [ho]; rintro x w2 ⟨rfl, m1, rfl⟩))
   go_ret2
   exact ⟨rfl, IsTe.below n0.out (BB w1 _ m1), below_then n1.out (Below.size n1.out) (BB w1 _ m1), n2.out.trans (FrT.below (BB w1 _ m1))⟩
  ·
   rw [if_neg f1]
   have f2 : (e'.f1 == 0) = false := beq_eq_false_iff_ne.mpr f1
   clear f1
   go_enter Try.func78, Try.ntmps78
   go_wp2_with (first | (go_at_call 102; refine (closeT_calls w0 _ tb s e r HST.out HBT.out HB.out HS.out hl9 q1 q2).mono ?_; rintro x w3 ⟨rfl, p1, p2, p3⟩; have P1 := az p1; have P2 := az p2; have P3 := az p3; clear p1 p2 p3) | (go_at_call 103; refine (last_calls _ _ tb (closeT s) e' r' HST'.out P1.out hl2).mono ?_; rintro x w1 ⟨rfl, hb1⟩; have n0 := az (IsTe.below P1.out hb1); have n1 := az (below_then P2.out (Below.size P2.out) hb1); have n2 := az (FrT.trans P3.out (FrT.below (ts := teT) hb1)); clear hb1) | (go_at_call 63; refine (opensQ 22 (w1.alloc _) 0).mono ?_; rw [ho]; rintro x w2 ⟨rfl, m1, rfl⟩))
   go_ret2
   exact ⟨rfl, IsTe.below n0.out (BB w1 _ m1), below_then n1.out (Below.size n1.out) (BB w1 _ m1), n2.out.trans (FrT.below (BB w1 _ m1))⟩
 have d22 : (y == 22) = false := beq_eq_false_iff_ne.mpr k22
 rw [if_neg k22, if_neg k22]
 have hte : topE s = e := by unfold topE; rw [HST.out]
 rw [hte]
 clear hte k22
 cases ho : opensB y with
 | false =>
  have z19 : ¬ y = 19 := fun h => by subst h; revert ho; decide
  have z20 : ¬ y = 20 := fun h => by subst h; revert ho; decide
  have z21 : ¬ y = 21 := fun h => by subst h; revert ho; decide
  rw [if_neg z19, if_neg z20, if_neg z21]
  clear z19 z20 z21
  by_cases f1 : e.f1 = 0
  ·
   rw [if_pos f1]
   have f2 : (e.f1 == 0) = true := by rw [f1]; rfl
   clear f1
   go_enter Try.func78, Try.ntmps78
   go_wp2_with (first | (go_at_call 103; refine (last_calls _ _ tb s e r HST.out HS.out hlr).mono ?_; rintro x w1 ⟨rfl, hb1⟩; have n0 := az (IsTe.below HS.out hb1); have n1 := az (below_then HB.out (Below.size HB.out) hb1); have n2 := az (FrT.trans (FrT.refl _ _) (FrT.below (ts := teT) hb1)); clear hb1) | (go_at_call 63; refine (opensQ y (w1.alloc _) 0).mono ?_; rw [ho]; rintro x w2 ⟨rfl, m1, rfl⟩))
   go_ret2
   exact ⟨rfl, IsTe.below n0.out (BB w1 _ m1), below_then n1.out (Below.size n1.out) (BB w1 _ m1), n2.out.trans (FrT.below (BB w1 _ m1))⟩
  ·
   rw [if_neg f1]
   have f2 : (e.f1 == 0) = false := beq_eq_false_iff_ne.mpr f1
   clear f1
   go_enter Try.func78, Try.ntmps78
   go_wp2_with (first | (go_at_call 103; refine (last_calls _ _ tb s e r HST.out HS.out hlr).mono ?_; rintro x w1 ⟨rfl, hb1⟩; have n0 := az (IsTe.below HS.out hb1); have n1 := az (below_then HB.out (Below.size HB.out) hb1); have n2 := az (FrT.trans (FrT.refl _ _) (FrT.below (ts := teT) hb1)); clear hb1) | (go_at_call 63; refine (opensQ y (w1.alloc _) 0).mono ?_; rw [ho]; rintro x w2 ⟨rfl, m1, rfl⟩))
   go_ret2
   exact ⟨rfl, IsTe.below n0.out (BB w1 _ m1), below_then n1.out (Below.size n1.out) (BB w1 _ m1), n2.out.trans (FrT.below (BB w1 _ m1))⟩
 | true =>
  have hor : y = 19 ∨ y = 20 ∨ y = 21 := by
   unfold opensB at ho
   simp only [Bool.or_eq_true, beq_iff_eq] at ho
   omega
  clear d14 d15 d17 d18 d16 d10 d22
  rcases hor with rfl | rfl | rfl
  ·
   rw [if_pos rfl]
   cases hm : mt k with
   | none =>
    by_cases f1 : e.f1 = 0
    ·
     rw [if_pos f1]
     have f2 : (e.f1 == 0) = true := by rw [f1]; rfl
     clear f1
     go_enter Try.func78, Try.ntmps78
     go_wp2_with (first | (go_at_call 103; refine (last_calls _ _ tb s e r HST.out HS.out hlr).mono ?_; rintro x w1 ⟨rfl, hb1⟩; have n0 := az (IsTe.below HS.out hb1); have n1 := az (below_then HB.out (Below.size HB.out) hb1); have n2 := az (FrT.trans (FrT.refl _ _) (FrT.below (ts := teT) hb1)); have np := az (IsPara.below HP.out hb1); obtain ⟨vc2, bm2, bc2, nm2, nc2, g1, g2, g3, g4, g5⟩ := np.out; have hp0 := fun o => (blk_cell (blk_alloc g1 o) 0).trans (show _ = some (.slice Ar cls.length cr) from rfl); have hp2 := fun o => (blk_cell (blk_alloc g1 o) 2).trans (show _ = some (.map (some bm2)) from rfl); have hlk : ∀ (o : Obj) (n : Nat), (Instr.lookup 76 (.map (some bm2)) (.int .i64 k) true).run Try.prog ((w1.alloc o).drewN n) = .ok (.tuple #[.int .i64 0, .bool false]) ((w1.alloc o).drewN n) := (fun o n => by have h := MapI.look (w := (w1.alloc o).drewN n) (MapI.below g3 (BB w1 o n)) k (wf_small (by omega) (by omega)); rw [hm] at h; exact h); clear g1 g2 g3 g4 g5; clear hb1) | (go_at_call 63; refine (opensQ 19 (w1.alloc _) 0).mono ?_; rw [ho]; rintro x w2 ⟨rfl, m1, rfl⟩) | (go_at_call 100; refine (pushT_calls w0 _ tb s e r false 0 true HST.out (below_then n1.out (Below.size n1.out) (BB w1 _ m1)) (IsTe.below n0.out (BB w1 _ m1)) hl9 q5 q6 q1 q2 q3 q4).mono ?_; rintro x w3 ⟨rfl, p1, p2, p3⟩; have P1 := az p1; have P2 := az p2; have P3 := az p3; clear p1 p2 p3; have hn := P3.out.same (tb := w1.heap.size) (t := 87) (cs := #[.int .i64 e.f0, .int .i64 e.f1, .bool e.f2]) (blk_new w1 _) (by decide); have hq := (blk_cell hn 0).trans (show _ = some (.int .i64 e.f0) from rfl); clear hn))
     go_ret2
     exact ⟨rfl, P1.out, P2.out, n2.out.trans ((FrT.below (BB w1 _ m1)).trans P3.out)⟩
    ·
     rw [if_neg f1]
     have f2 : (e.f1 == 0) = false := beq_eq_false_iff_ne.mpr f1
     clear f1
     go_enter Try.func78, Try.ntmps78
     go_wp2_with (first | (go_at_call 103; refine (last_calls _ _ tb s e r HST.out HS.out hlr).mono ?_; rintro x w1 ⟨rfl, hb1⟩; have n0 := az (IsTe.below HS.out hb1); have n1 := az (below_then HB.out (Below.size HB.out) hb1); have n2 := az (FrT.trans (FrT.refl _ _) (FrT.below (ts := teT) hb1)); have np := az (IsPara.below HP.out hb1); obtain ⟨vc2, bm2, bc2, nm2, nc2, g1, g2, g3, g4, g5⟩ := np.out; have hp0 := fun o => (blk_cell (blk_alloc g1 o) 0).trans (show _ = some (.slice Ar cls.length cr) from rfl); have hp2 := fun o => (blk_cell (blk_alloc g1 o) 2).trans (show _ = some (.map (some bm2)) from rfl); have hlk : ∀ (o : Obj) (n : Nat), (Instr.lookup 76 (.map (some bm2)) (.int .i64 k) true).run Try.prog ((w1.alloc o).drewN n) = .ok (.tuple #[.int .i64 0, .bool false]) ((w1.alloc o).drewN n) := (fun o n => by have h := MapI.look (w := (w1.alloc o).drewN n) (MapI.below g3 (BB w1 o n)) k (wf_small (by omega) (by omega)); rw [hm] at h; exact h); clear g1 g2 g3 g4 g5; clear hb1) | (go_at_call 63; refine (opensQ 19 (w1.alloc _) 0).mono ?_; rw [ho]; rintro x w2 ⟨rfl, m1, rfl⟩) | (go_at_call 100; refine (pushT_calls w0 _ tb s e r false 0 true HST.out (below_then n1.out (Below.size n1.out) (BB w1 _ m1)) (IsTe.below n0.out (BB w1 _ m1)) hl9 q5 q6 q1 q2 q3 q4).mono ?_; rintro x w3 ⟨rfl, p1, p2, p3⟩; have P1 := az p1; have P2 := az p2; have P3 := az p3; clear p1 p2 p3; have hn := P3.out.same (tb := w1.heap.size) (t := 87) (cs := #[.int .i64 e.f0, .int .i64 e.f1, .bool e.f2]) (blk_new w1 _) (by decide); have hq := (blk_cell hn 0).trans (show _ = some (.int .i64 e.f0) from rfl); clear hn))
     go_ret2
     exact ⟨rfl, P1.out, P2.out, n2.out.trans ((FrT.below (BB w1 _ m1)).trans P3.out)⟩
   | some m =>
    obtain ⟨hm1, hm2⟩ := HMT.out _ _ hm
    by_cases f1 : e.f1 = 0
    ·
     rw [if_pos f1]
     have f2 : (e.f1 == 0) = true := by rw [f1]; rfl
     clear f1
     go_enter Try.func78, Try.ntmps78
     go_wp2_with (first | (go_at_call 103; refine (last_calls _ _ tb s e r HST.out HS.out hlr).mono ?_; rintro x w1 ⟨rfl, hb1⟩; have n0 := az (IsTe.below HS.out hb1); have n1 := az (below_then HB.out (Below.size HB.out) hb1); have n2 := az (FrT.trans (FrT.refl _ _) (FrT.below (ts := teT) hb1)); have np := az (IsPara.below HP.out hb1); obtain ⟨vc2, bm2, bc2, nm2, nc2, g1, g2, g3, g4, g5⟩ := np.out; have hp0 := fun o => (blk_cell (blk_alloc g1 o) 0).trans (show _ = some (.slice Ar cls.length cr) from rfl); have hp2 := fun o => (blk_cell (blk_alloc g1 o) 2).trans (show _ = some (.map (some bm2)) from rfl); have hlk : ∀ (o : Obj) (n : Nat), (Instr.lookup 76 (.map (some bm2)) (.int .i64 k) true).run Try.prog ((w1.alloc o).drewN n) = .ok (.tuple #[.int .i64 m, .bool true]) ((w1.alloc o).drewN n) := (fun o n => by have h := MapI.look (w := (w1.alloc o).drewN n) (MapI.below g3 (BB w1 o n)) k (wf_small (by omega) (by omega)); rw [hm] at h; exact h); clear g1 g2 g3 g4 g5; clear hb1) | (go_at_call 63; refine (opensQ 19 (w1.alloc _) 0).mono ?_; rw [ho]; rintro x w2 ⟨rfl, m1, rfl⟩) | (go_at_call 100; refine (pushT_calls w0 _ tb s e r false 0 true HST.out (below_then n1.out (Below.size n1.out) (BB w1 _ m1)) (IsTe.below n0.out (BB w1 _ m1)) hl9 q5 q6 q1 q2 q3 q4).mono ?_; rintro x w3 ⟨rfl, p1, p2, p3⟩; have P1 := az p1; have P2 := az p2; have P3 := az p3; clear p1 p2 p3; have hn := P3.out.same (tb := w1.heap.size) (t := 87) (cs := #[.int .i64 e.f0, .int .i64 e.f1, .bool e.f2]) (blk_new w1 _) (by decide); have hq := (blk_cell hn 0).trans (show _ = some (.int .i64 e.f0) from rfl); clear hn))
     go_ret2
     exact ⟨rfl, P1.out, P2.out, n2.out.trans ((FrT.below (BB w1 _ m1)).trans P3.out)⟩
    ·
     rw [if_neg f1]
     have f2 : (e.f1 == 0) = false := beq_eq_false_iff_ne.mpr f1
     clear f1
     go_enter Try.func78, Try.ntmps78
     go_wp2_with (first | (go_at_call 103; refine (last_calls _ _ tb s e r HST.out HS.out hlr).mono ?_; rintro x w1 ⟨rfl, hb1⟩; have n0 := az (IsTe.below HS.out hb1); have n1 := az (below_then HB.out (Below.size HB.out) hb1); have n2 := az (FrT.trans (FrT.refl _ _) (FrT.below (ts := teT) hb1)); have np := az (IsPara.below HP.out hb1); obtain ⟨vc2, bm2, bc2, nm2, nc2, g1, g2, g3, g4, g5⟩ := np.out; have hp0 := fun o => (blk_cell (blk_alloc g1 o) 0).trans (show _ = some (.slice Ar cls.length cr) from rfl); have hp2 := fun o => (blk_cell (blk_alloc g1 o) 2).trans (show _ = some (.map (some bm2)) from rfl); have hlk : ∀ (o : Obj) (n : Nat), (Instr.lookup 76 (.map (some bm2)) (.int .i64 k) true).run Try.prog ((w1.alloc o).drewN n) = .ok (.tuple #[.int .i64 m, .bool true]) ((w1.alloc o).drewN n) := (fun o n => by have h := MapI.look (w := (w1.alloc o).drewN n) (MapI.below g3 (BB w1 o n)) k (wf_small (by omega) (by omega)); rw [hm] at h; exact h); clear g1 g2 g3 g4 g5; clear hb1) | (go_at_call 63; refine (opensQ 19 (w1.alloc _) 0).mono ?_; rw [ho]; rintro x w2 ⟨rfl, m1, rfl⟩) | (go_at_call 100; refine (pushT_calls w0 _ tb s e r false 0 true HST.out (below_then n1.out (Below.size n1.out) (BB w1 _ m1)) (IsTe.below n0.out (BB w1 _ m1)) hl9 q5 q6 q1 q2 q3 q4).mono ?_; rintro x w3 ⟨rfl, p1, p2, p3⟩; have P1 := az p1; have P2 := az p2; have P3 := az p3; clear p1 p2 p3; have hn := P3.out.same (tb := w1.heap.size) (t := 87) (cs := #[.int .i64 e.f0, .int .i64 e.f1, .bool e.f2]) (blk_new w1 _) (by decide); have hq := (blk_cell hn 0).trans (show _ = some (.int .i64 e.f0) from rfl); clear hn))
     go_ret2
     exact ⟨rfl, P1.out, P2.out, n2.out.trans ((FrT.below (BB w1 _ m1)).trans P3.out)⟩
  ·
   rw [if_neg (by decide : ¬ (20 : Int) = 19), if_pos rfl]
   cases hm : mt k with
   | none =>
    by_cases f1 : e.f1 = 0
    ·
     rw [if_pos f1]
     have f2 : (e.f1 == 0) = true := by rw [f1]; rfl
     clear f1
     go_enter Try.func78, Try.ntmps78
     go_wp2_with (first | (go_at_call 103; refine (last_calls _ _ tb s e r HST.out HS.out hlr).mono ?_; rintro x w1 ⟨rfl, hb1⟩; have n0 := az (IsTe.below HS.out hb1); have n1 := az (below_then HB.out (Below.size HB.out) hb1); have n2 := az (FrT.trans (FrT.refl _ _) (FrT.below (ts := teT) hb1)); have np := az (IsPara.below HP.out hb1); obtain ⟨vc2, bm2, bc2, nm2, nc2, g1, g2, g3, g4, g5⟩ := np.out; have hp0 := fun o => (blk_cell (blk_alloc g1 o) 0).trans (show _ = some (.slice Ar cls.length cr) from rfl); have hp2 := fun o => (blk_cell (blk_alloc g1 o) 2).trans (show _ = some (.map (some bm2)) from rfl); have hlk : ∀ (o : Obj) (n : Nat), (Instr.lookup 76 (.map (some bm2)) (.int .i64 k) true).run Try.prog ((w1.alloc o).drewN n) = .ok (.tuple #[.int .i64 0, .bool false]) ((w1.alloc o).drewN n) := (fun o n => by have h := MapI.look (w := (w1.alloc o).drewN n) (MapI.below g3 (BB w1 o n)) k (wf_small (by omega) (by omega)); rw [hm] at h; exact h); clear g1 g2 g3 g4 g5; clear hb1) | (go_at_call 63; refine (opensQ 20 (w1.alloc _) 0).mono ?_; rw [ho]; rintro x w2 ⟨rfl, m1, rfl⟩) | (go_at_call 100; refine (pushT_calls w0 _ tb s e r true 0 true HST.out (below_then n1.out (Below.size n1.out) (BB w1 _ m1)) (IsTe.below n0.out (BB w1 _ m1)) hl9 q5 q6 q1 q2 q3 q4).mono ?_; rintro x w3 ⟨rfl, p1, p2, p3⟩; have P1 := az p1; have P2 := az p2; have P3 := az p3; clear p1 p2 p3; have hn := P3.out.same (tb := w1.heap.size) (t := 87) (cs := #[.int .i64 e.f0, .int .i64 e.f1, .bool e.f2]) (blk_new w1 _) (by decide); have hq := (blk_cell hn 0).trans (show _ = some (.int .i64 e.f0) from rfl); clear hn))
     go_ret2
     exact ⟨rfl, P1.out, P2.out, n2.out.trans ((FrT.below (BB w1 _ m1)).trans P3.out)⟩
    ·
     rw [if_neg f1]
     have f2 : (e.f1 == 0) = false := beq_eq_false_iff_ne.mpr f1
     clear f1
     go_enter Try.func78, Try.ntmps78
     go_wp2_with (first | (go_at_call 103; refine (last_calls _ _ tb s e r HST.out HS.out hlr).mono ?_; rintro x w1 ⟨rfl, hb1⟩; have n0 := az (IsTe.below HS.out hb1); have n1 := az (below_then HB.out (Below.size HB.out) hb1); have n2 := az (FrT.trans (FrT.refl _ _) (FrT.below (ts := teT) hb1)); have np := az (IsPara.below HP.out hb1); obtain ⟨vc2, bm2, bc2, nm2, nc2, g1, g2, g3, g4, g5⟩ := np.out; have hp0 := fun o => (blk_cell (blk_alloc g1 o) 0).trans (show _ = some (.slice Ar cls.length cr) from rfl); have hp2 := fun o => (blk_cell (blk_alloc g1 o) 2).trans (show _ = some (.map (some bm2)) from rfl); have hlk : ∀ (o : Obj) (n : Nat), (Instr.lookup 76 (.map (some bm2)) (.int .i64 k) true).run Try.prog ((w1.alloc o).drewN n) = .ok (.tuple #[.int .i64 0, .bool false]) ((w1.alloc o).drewN n) := (fun o n => by have h := MapI.look (w := (w1.alloc o).drewN n) (MapI.below g3 (BB w1 o n)) k (wf_small (by omega) (by omega)); rw [hm] at h; exact h); clear g1 g2 g3 g4 g5; clear hb1) | (go_at_call 63; refine (opensQ 20 (w1.alloc _) 0).mono ?_; rw [ho]; rintro x w2 ⟨rfl, m1, rfl⟩) | (go_at_call 100; refine (pushT_calls w0 _ tb s e r true 0 true HST.out (below_then n1.out (Below.size n1.out) (BB w1 _ m1)) (IsTe.below n0.out (BB w1 _ m1)) hl9 q5 q6 q1 q2 q3 q4).mono ?_; rintro x w3 ⟨rfl, p1, p2, p3⟩; have P1 := az p1; have P2 := az p2; have P3 := az p3; clear p1 p2 p3; have hn := P3.out.same (tb := w1.heap.size) (t := 87) (cs := #[.int .i64 e.f0, .int .i64 e.f1, .bool e.f2]) (blk_new w1 _) (by decide); have hq := (blk_cell hn 0).trans (show _ = some (.int .i64 e.f0) from rfl); clear hn))
     go_ret2
     exact ⟨rfl, P1.out, P2.out, n2.out.trans ((FrT.below (BB w1 _ m1)).trans P3.out)⟩
   | some m =>
    obtain ⟨hm1, hm2⟩ := HMT.out _ _ hm
    by_cases f1 : e.f1 = 0
    ·
     rw [if_pos f1]
     have f2 : (e.f1 == 0) = true := by rw [f1]; rfl
     clear f1
     go_enter Try.func78, Try.ntmps78
     go_wp2_with (first | (go_at_call 103; refine (last_calls _ _ tb s e r HST.out HS.out hlr).mono ?_; rintro x w1 ⟨rfl, hb1⟩; have n0 := az (IsTe.below HS.out hb1); have n1 := az (below_then HB.out (Below.size HB.out) hb1); have n2 := az (FrT.trans (FrT.refl _ _) (FrT.below (ts := teT) hb1)); have np := az (IsPara.below HP.out hb1); obtain ⟨vc2, bm2, bc2, nm2, nc2, g1, g2, g3, g4, g5⟩ := np.out; have hp0 := fun o => (blk_cell (blk_alloc g1 o) 0).trans (show _ = some (.slice Ar cls.length cr) from rfl); have hp2 := fun o => (blk_cell (blk_alloc g1 o) 2).trans (show _ = some (.map (some bm2)) from rfl); have hlk : ∀ (o : Obj) (n : Nat), (Instr.lookup 76 (.map (some bm2)) (.int .i64 k) true).run Try.prog ((w1.alloc o).drewN n) = .ok (.tuple #[.int .i64 m, .bool true]) ((w1.alloc o).drewN n) := (fun o n => by have h := MapI.look (w := (w1.alloc o).drewN n) (MapI.below g3 (BB w1 o n)) k (wf_small (by omega) (by omega)); rw [hm] at h; exact h); clear g1 g2 g3 g4 g5; clear hb1) | (go_at_call 63; refine (opensQ 20 (w1.alloc _) 0).mono ?_; rw [ho]; rintro x w2 ⟨rfl, m1, rfl⟩) | (go_at_call 100; refine (pushT_calls w0 _ tb s e r true 0 true HST.out (below_then n1.out (Below.size n1.out) (BB w1 _ m1)) (IsTe.below n0.out (BB w1 _ m1)) hl9 q5 q6 q1 q2 q3 q4).mono ?_; rintro x w3 ⟨rfl, p1, p2, p3⟩; have P1 := az p1; have P2 := az p2; have P3 := az p3; clear p1 p2 p3; have hn := P3.out.same (tb := w1.heap.size) (t := 87) (cs := #[.int .i64 e.f0, .int .i64 e.f1, .bool e.f2]) (blk_new w1 _) (by decide); have hq := (blk_cell hn 0).trans (show _ = some (.int .i64 e.f0) from rfl); clear hn))
     go_ret2
     exact ⟨rfl, P1.out, P2.out, n2.out.trans ((FrT.below (BB w1 _ m1)).trans P3.out)⟩
    ·
     rw [if_neg f1]
     have f2 : (e.f1 == 0) = false := beq_eq_false_iff_ne.mpr f1
     clear f1
     go_enter Try.func78, Try.ntmps78
     go_wp2_with (first | (go_at_call 103; refine (last_calls _ _ tb s e r HST.out HS.out hlr).mono ?_; rintro x w1 ⟨rfl, hb1⟩; have n0 := az (IsTe.below HS.out hb1); have n1 := az (below_then HB.out (Below.size HB.out) hb1); have n2 := az (FrT.trans (FrT.refl _ _) (FrT.below (ts := teT) hb1)); have np := az (IsPara.below HP.out hb1); obtain ⟨vc2, bm2, bc2, nm2, nc2, g1, g2, g3, g4, g5⟩ := np.out; have hp0 := fun o => (blk_cell (blk_alloc g1 o) 0).trans (show _ = some (.slice Ar cls.length cr) from rfl); have hp2 := fun o => (blk_cell (blk_alloc g1 o) 2).trans (show _ = some (.map (some bm2)) from rfl); have hlk : ∀ (o : Obj) (n : Nat), (Instr.lookup 76 (.map (some bm2)) (.int .i64 k) true).run Try.prog ((w1.alloc o).drewN n) = .ok (.tuple #[.int .i64 m, .bool true]) ((w1.alloc o).drewN n) := (fun o n => by have h := MapI.look (w := (w1.alloc o).drewN n) (MapI.below g3 (BB w1 o n)) k (wf_small (by omega) (by omega)); rw [hm] at h; exact h); clear g1 g2 g3 g4 g5; clear hb1) | (go_at_call 63; refine (opensQ 20 (w1.alloc _) 0).mono ?_; rw [ho]; rintro x w2 ⟨rfl, m1, rfl⟩) | (go_at_call 100; refine (pushT_calls w0 _ tb s e r true 0 true HST.out (below_then n1.out (Below.size n1.out) (BB w1 _ m1)) (IsTe.below n0.out (BB w1 _ m1)) hl9 q5 q6 q1 q2 q3 q4).mono ?_; rintro x w3 ⟨rfl, p1, p2, p3⟩; have P1 := az p1; have P2 := az p2; have P3 := az p3; clear p1 p2 p3; have hn := P3.out.same (tb := w1.heap.size) (t := 87) (cs := #[.int .i64 e.f0, .int .i64 e.f1, .bool e.f2]) (blk_new w1 _) (by decide); have hq := (blk_cell hn 0).trans (show _ = some (.int .i64 e.f0) from rfl); clear hn))
     go_ret2
     exact ⟨rfl, P1.out, P2.out, n2.out.trans ((FrT.below (BB w1 _ m1)).trans P3.out)⟩
  ·
   rw [if_neg (by decide : ¬ (21 : Int) = 19), if_neg (by decide : ¬ (21 : Int) = 20), if_pos rfl]
   cases hm : mt k with
   | none =>
    rw [show endP cls mt k = cls.length by unfold endP; rw [hm]]
    by_cases f1 : e.f1 = 0
    ·
     rw [if_pos f1]
     have f2 : (e.f1 == 0) = true := by rw [f1]; rfl
     clear f1
     go_enter Try.func78, Try.ntmps78
     go_wp2_with (first | (go_at_call 103; refine (last_calls _ _ tb s e r HST.out HS.out hlr).mono ?_; rintro x w1 ⟨rfl, hb1⟩; have n0 := az (IsTe.below HS.out hb1); have n1 := az (below_then HB.out (Below.size HB.out) hb1); have n2 := az (FrT.trans (FrT.refl _ _) (FrT.below (ts := teT) hb1)); have np := az (IsPara.below HP.out hb1); obtain ⟨vc2, bm2, bc2, nm2, nc2, g1, g2, g3, g4, g5⟩ := np.out; have hp0 := fun o => (blk_cell (blk_alloc g1 o) 0).trans (show _ = some (.slice Ar cls.length cr) from rfl); have hp2 := fun o => (blk_cell (blk_alloc g1 o) 2).trans (show _ = some (.map (some bm2)) from rfl); have hlk : ∀ (o : Obj) (n : Nat), (Instr.lookup 76 (.map (some bm2)) (.int .i64 k) true).run Try.prog ((w1.alloc o).drewN n) = .ok (.tuple #[.int .i64 0, .bool false]) ((w1.alloc o).drewN n) := (fun o n => by have h := MapI.look (w := (w1.alloc o).drewN n) (MapI.below g3 (BB w1 o n)) k (wf_small (by omega) (by omega)); rw [hm] at h; exact h); clear g1 g2 g3 g4 g5; clear hb1) | (go_at_call 63; refine (opensQ 21 (w1.alloc _) 0).mono ?_; rw [ho]; rintro x w2 ⟨rfl, m1, rfl⟩) | (go_at_call 100; refine (pushT_calls w0 _ tb s e r (sideF cls mt cls.length (cls.length + 1) (k + 1) == 1) 0 true HST.out (below_then n1.out (Below.size n1.out) (BB w1 _ (m1 + m2))) (IsTe.below n0.out (BB w1 _ (m1 + m2))) hl9 q5 q6 q1 q2 q3 q4).mono ?_; rintro x w3 ⟨rfl, p1, p2, p3⟩; have P1 := az p1; have P2 := az p2; have P3 := az p3; clear p1 p2 p3; have hn := P3.out.same (tb := w1.heap.size) (t := 87) (cs := #[.int .i64 e.f0, .int .i64 e.f1, .bool e.f2]) (blk_new w1 _) (by decide); have hq := (blk_cell hn 0).trans (show _ = some (.int .i64 e.f0) from rfl); clear hn) | (go_at_call 104; refine (side_calls' ((w1.alloc _).drewN m1) _ pb Ar cr cls.length cls mt cd (k + 1) cls.length _ _ (by omega) (by omega) (IsPara.below np.out (BB w1 _ m1)) hl (by omega) (by omega) HMT.out).mono ?_; rintro x w2 ⟨rfl, m2, rfl⟩))
     go_ret2
     exact ⟨rfl, P1.out, P2.out, n2.out.trans ((FrT.below (BB w1 _ (m1 + m2))).trans P3.out)⟩
    ·
     rw [if_neg f1]
     have f2 : (e.f1 == 0) = false := beq_eq_false_iff_ne.mpr f1
     clear f1
     go_enter Try.func78, Try.ntmps78
     go_wp2_with (first | (go_at_call 103; refine (last_calls _ _ tb s e r HST.out HS.out hlr).mono ?_; rintro x w1 ⟨rfl, hb1⟩; have n0 := az (IsTe.below HS.out hb1); have n1 := az (below_then HB.out (Below.size HB.out) hb1); have n2 := az (FrT.trans (FrT.refl _ _) (FrT.below (ts := teT) hb1)); have np := az (IsPara.below HP.out hb1); obtain ⟨vc2, bm2, bc2, nm2, nc2, g1, g2, g3, g4, g5⟩ := np.out; have hp0 := fun o => (blk_cell (blk_alloc g1 o) 0).trans (show _ = some (.slice Ar cls.length cr) from rfl); have hp2 := fun o => (blk_cell (blk_alloc g1 o) 2).trans (show _ = some (.map (some bm2)) from rfl); have hlk : ∀ (o : Obj) (n : Nat), (Instr.lookup 76 (.map (some bm2)) (.int .i64 k) true).run Try.prog ((w1.alloc o).drewN n) = .ok (.tuple #[.int .i64 0, .bool false]) ((w1.alloc o).drewN n) := (fun o n => by have h := MapI.look (w := (w1.alloc o).drewN n) (MapI.below g3 (BB w1 o n)) k (wf_small (by omega) (by omega)); rw [hm] at h; exact h); clear g1 g2 g3 g4 g5; clear hb1) | (go_at_call 63; refine (opensQ 21 (w1.alloc _) 0).mono ?_; rw [ho]; rintro x w2 ⟨rfl, m1, rfl⟩) | (go_at_call 100; refine (pushT_calls w0 _ tb s e r (sideF cls mt cls.length (cls.length + 1) (k + 1) == 1) 0 true HST.out (below_then n1.out (Below.size n1.out) (BB w1 _ (m1 + m2))) (IsTe.below n0.out (BB w1 _ (m1 + m2))) hl9 q5 q6 q1 q2 q3 q4).mono ?_; rintro x w3 ⟨rfl, p1, p2, p3⟩; have P1 := az p1; have P2 := az p2; have P3 := az p3; clear p1 p2 p3; have hn := P3.out.same (tb := w1.heap.size) (t := 87) (cs := #[.int .i64 e.f0, .int .i64 e.f1, .bool e.f2]) (blk_new w1 _) (by decide); have hq := (blk_cell hn 0).trans (show _ = some (.int .i64 e.f0) from rfl); clear hn) | (go_at_call 104; refine (side_calls' ((w1.alloc _).drewN m1) _ pb Ar cr cls.length cls mt cd (k + 1) cls.length _ _ (by omega) (by omega) (IsPara.below np.out (BB w1 _ m1)) hl (by omega) (by omega) HMT.out).mono ?_; rintro x w2 ⟨rfl, m2, rfl⟩))
     go_ret2
     exact ⟨rfl, P1.out, P2.out, n2.out.trans ((FrT.below (BB w1 _ (m1 + m2))).trans P3.out)⟩
   | some m =>
    obtain ⟨hm1, hm2⟩ := HMT.out _ _ hm
    rw [show endP cls mt k = m.toNat by unfold endP; rw [hm]]
    by_cases f1 : e.f1 = 0
    ·
     rw [if_pos f1]
     have f2 : (e.f1 == 0) = true := by rw [f1]; rfl
     clear f1
     go_enter Try.func78, Try.ntmps78
     go_wp2_with (first | (go_at_call 103; refine (last_calls _ _ tb s e r HST.out HS.out hlr).mono ?_; rintro x w1 ⟨rfl, hb1⟩; have n0 := az (IsTe.below HS.out hb1); have n1 := az (below_then HB.out (Below.size HB.out) hb1); have n2 := az (FrT.trans (FrT.refl _ _) (FrT.below (ts := teT) hb1)); have np := az (IsPara.below HP.out hb1); obtain ⟨vc2, bm2, bc2, nm2, nc2, g1, g2, g3, g4, g5⟩ := np.out; have hp0 := fun o => (blk_cell (blk_alloc g1 o) 0).trans (show _ = some (.slice Ar cls.length cr) from rfl); have hp2 := fun o => (blk_cell (blk_alloc g1 o) 2).trans (show _ = some (.map (some bm2)) from rfl); have hlk : ∀ (o : Obj) (n : Nat), (Instr.lookup 76 (.map (some bm2)) (.int .i64 k) true).run Try.prog ((w1.alloc o).drewN n) = .ok (.tuple #[.int .i64 m, .bool true]) ((w1.alloc o).drewN n) := (fun o n => by have h := MapI.look (w := (w1.alloc o).drewN n) (MapI.below g3 (BB w1 o n)) k (wf_small (by omega) (by omega)); rw [hm] at h; exact h); clear g1 g2 g3 g4 g5; clear hb1) | (go_at_call 63; refine (opensQ 21 (w1.alloc _) 0).mono ?_; rw [ho]; rintro x w2 ⟨rfl, m1, rfl⟩) | (go_at_call 100; refine (pushT_calls w0 _ tb s e r (sideF cls mt m.toNat (cls.length + 1) (k + 1) == 1) 0 true HST.out (below_then n1.out (Below.size n1.out) (BB w1 _ (m1 + m2))) (IsTe.below n0.out (BB w1 _ (m1 + m2))) hl9 q5 q6 q1 q2 q3 q4).mono ?_; rintro x w3 ⟨rfl, p1, p2, p3⟩; have P1 := az p1; have P2 := az p2; have P3 := az p3; clear p1 p2 p3; have hn := P3.out.same (tb := w1.heap.size) (t := 87) (cs := #[.int .i64 e.f0, .int .i64 e.f1, .bool e.f2]) (blk_new w1 _) (by decide); have hq := (blk_cell hn 0).trans (show _ = some (.int .i64 e.f0) from rfl); clear hn) | (go_at_call 104; refine (side_calls' ((w1.alloc _).drewN m1) _ pb Ar cr cls.length cls mt cd (k + 1) m.toNat _ _ (by omega) (by omega) (IsPara.below np.out (BB w1 _ m1)) hl (by omega) (by omega) HMT.out).mono ?_; rintro x w2 ⟨rfl, m2, rfl⟩))
     go_ret2
     exact ⟨rfl, P1.out, P2.out, n2.out.trans ((FrT.below (BB w1 _ (m1 + m2))).trans P3.out)⟩
    ·
     rw [if_neg f1]
     have f2 : (e.f1 == 0) = false := beq_eq_false_iff_ne.mpr f1
     clear f1
     go_enter Try.func78, Try.ntmps78
     go_wp2_with (first | (go_at_call 103; refine (last_calls _ _ tb s e r HST.out HS.out hlr).mono ?_; rintro x w1 ⟨rfl, hb1⟩; have n0 := az (IsTe.below HS.out hb1); have n1 := az (below_then HB.out (Below.size HB.out) hb1); have n2 := az (FrT.trans (FrT.refl _ _) (FrT.below (ts := teT) hb1)); have np := az (IsPara.below HP.out hb1); obtain ⟨vc2, bm2, bc2, nm2, nc2, g1, g2, g3, g4, g5⟩ := np.out; have hp0 := fun o => (blk_cell (blk_alloc g1 o) 0).trans (show _ = some (.slice Ar cls.length cr) from rfl); have hp2 := fun o => (blk_cell (blk_alloc g1 o) 2).trans (show _ = some (.map (some bm2)) from rfl); have hlk : ∀ (o : Obj) (n : Nat), (Instr.lookup 76 (.map (some bm2)) (.int .i64 k) true).run Try.prog ((w1.alloc o).drewN n) = .ok (.tuple #[.int .i64 m, .bool true]) ((w1.alloc o).drewN n) := (fun o n => by have h := MapI.look (w := (w1.alloc o).drewN n) (MapI.below g3 (BB w1 o n)) k (wf_small (by omega) (by omega)); rw [hm] at h; exact h); clear g1 g2 g3 g4 g5; clear hb1) | (go_at_call 63; refine (opensQ 21 (w1.alloc _) 0).mono ?_; rw [ho]; rintro x w2 ⟨rfl, m1, rfl⟩) | (go_at_call 100; refine (pushT_calls w0 _ tb s e r (sideF cls mt m.toNat (cls.length + 1) (k + 1) == 1) 0 true HST.out (below_then n1.out (Below.size n1.out) (BB w1 _ (m1 + m2))) (IsTe.below n0.out (BB w1 _ (m1 + m2))) hl9 q5 q6 q1 q2 q3 q4).mono ?_; rintro x w3 ⟨rfl, p1, p2, p3⟩; have P1 := az p1; have P2 := az p2; have P3 := az p3; clear p1 p2 p3; have hn := P3.out.same (tb := w1.heap.size) (t := 87) (cs := #[.int .i64 e.f0, .int .i64 e.f1, .bool e.f2]) (blk_new w1 _) (by decide); have hq := (blk_cell hn 0).trans (show _ = some (.int .i64 e.f0) from rfl); clear hn) | (go_at_call 104; refine (side_calls' ((w1.alloc _).drewN m1) _ pb Ar cr cls.length cls mt cd (k + 1) m.toNat _ _ (by omega) (by omega) (IsPara.below np.out (BB w1 _ m1)) hl (by omega) (by omega) HMT.out).mono ?_; rintro x w2 ⟨rfl, m2, rfl⟩))
     go_ret2
     exact ⟨rfl, P1.out, P2.out, n2.out.trans ((FrT.below (BB w1 _ (m1 + m2))).trans P3.out)⟩
def InvT (j : Nat) (s : TeS) : Prop := 0 ≤ s.lost ∧ s.lost ≤ j ∧ 0 ≤ s.sk ∧ s.sk ≤ j ∧ s.st.length ≤ j + 1 ∧ (∀ e ∈ s.st, 0 ≤ e.f0 ∧ e.f0 ≤ 100) ∧ ∃ r' b, s.st = r' ++ [b] ∧ b.f2 = false
theorem InvT.more {j : Nat} {s : TeS} (h : InvT j s) : InvT (j + 1) s := by
 obtain ⟨h1, h2, h3, h4, h5, h6, h7⟩ := h
 exact ⟨h1, by omega, h3, by omega, by omega, h6, h7⟩
theorem InvT.cons {j : Nat} {s : TeS} (h : InvT j s) : ∃ e r, s.st = e :: r ∧ r.length ≤ j ∧ 0 ≤ e.f0 ∧ e.f0 ≤ 100 := by
 obtain ⟨h1, h2, h3, h4, h5, h6, r', b, h7, h8⟩ := h
 cases hs : s.st with
 | nil => rw [hs] at h7; simp at h7
 | cons e r =>
  rw [hs] at h5 h6
  rw [List.length_cons] at h5
  exact ⟨e, r, rfl, by omega, h6 e (by simp)⟩
theorem inv_pushT {j : Nat} {s : TeS} (h : InvT j s) (r : Bool) (d : Int) (a : Bool) : InvT (j + 1) (pushT r d a s) := by
 obtain ⟨e, r0, hs, _, he, _⟩ := h.cons
 have htop : topT s = e.f0 := by unfold topT; rw [hs]
 obtain ⟨h1, h2, h3, h4, h5, h6, r', b, h7, h8⟩ := h
 have hu : 0 ≤ upT (topT s) r := by
  unfold upT
  split <;> omega
 unfold pushT
 split
 ·
  rename_i hc
  refine ⟨h1, by simp only; omega, h3, by simp only; omega, by simp only [List.length_cons]; omega, ?_, _ :: r', b, by simp only; rw [h7]; rfl, h8⟩
  intro x hx
  rcases List.mem_cons.mp hx with rfl | hx
  · exact ⟨hu, by have := hc.1; simp only; omega⟩
  · exact h6 x hx
 ·
  split
  · exact ⟨by simp only; omega, by simp only; omega, h3, by simp only; omega, by simp only; omega, h6, r', b, h7, h8⟩
  ·
   split
   · exact ⟨h1, by simp only; omega, by simp only; omega, by simp only; omega, by simp only; omega, h6, r', b, h7, h8⟩
   · exact ⟨h1, by omega, h3, by omega, by omega, h6, r', b, h7, h8⟩
theorem inv_popT {j : Nat} {s : TeS} (h : InvT j s) : InvT (j + 1) (popT s) := by
 unfold popT
 split
 · exact h.more
 ·
  split
  ·
   obtain ⟨h1, h2, h3, h4, h5, h6, h7⟩ := h
   exact ⟨h1, by simp only; omega, by simp only; omega, by simp only; omega, by simp only; omega, h6, h7⟩
  ·
   split
   ·
    rename_i e e2 r hs
    split
    ·
     obtain ⟨h1, h2, h3, h4, h5, h6, r', b, h7, h8⟩ := h
     rw [hs] at h5 h6 h7
     refine ⟨h1, by simp only; omega, h3, by simp only; omega, by simp only [List.length_cons] at h5 ⊢; omega, fun x hx => h6 x (List.mem_cons_of_mem _ hx), ?_⟩
     cases r' with
     | nil => simp at h7
     | cons p r' =>
      rw [List.cons_append] at h7
      injection h7 with _ h7
      exact ⟨r', b, h7, h8⟩
    · exact h.more
   · exact h.more
theorem popAl_mem : ∀ (l : List S87) (x : S87), x ∈ popAl l → x ∈ l
 | [], _, h => h
 | e :: r, x, h => by
  rw [popAl] at h
  split at h
  · exact List.mem_cons_of_mem _ h
  · exact List.mem_cons_of_mem _ (popAl_mem r x h)
theorem inv_closeT {j : Nat} {s : TeS} (h : InvT j s) : InvT (j + 1) (closeT s) := by
 unfold closeT
 obtain ⟨h1, h2, h3, h4, h5, h6, h7⟩ := h
 split
 · exact ⟨by simp only; omega, by simp only; omega, h3, by simp only; omega, by simp only; omega, h6, h7⟩
 ·
  split
  ·
   rename_i ha
   obtain ⟨e3, r3, h8, h9, h10⟩ := popAl_ne ha h7
   have hle := popAl_le s.st
   exact ⟨h1, by simp only; omega, by simp only; omega, by simp only; omega, by simp only; omega, fun x hx => h6 x (popAl_mem _ x hx), h10⟩
  · exact ⟨h1, by omega, h3, by omega, by omega, h6, h7⟩
theorem inv_tellS {j : Nat} {s : TeS} (cls : List Int) (mt : Int → Option Int) (k : Nat) (h : InvT j s) : InvT (j + 1) (tellS cls mt k s) := by
 unfold tellS
 repeat' split
 all_goals first | exact inv_pushT h _ _ _ | exact inv_popT h | exact inv_closeT h | exact h.more
def toldS (cls : List Int) (mt : Int → Option Int) (base : Int) : Nat → TeS
 | 0 => ⟨[⟨base, 0, false⟩], 0, 0⟩
 | j + 1 => tellS cls mt j (toldS cls mt base j)
theorem inv_told (cls : List Int) (mt : Int → Option Int) (base : Int) (h0 : 0 ≤ base) (h1 : base ≤ 100) : ∀ j, InvT j (toldS cls mt base j)
 | 0 => ⟨by simp [toldS], by simp [toldS], by simp [toldS], by simp [toldS], by simp [toldS], fun e he => by rw [toldS, List.mem_singleton] at he; subst he; exact ⟨h0, h1⟩, [], _, rfl, rfl⟩
 | j + 1 => inv_tellS cls mt j (inv_told cls mt base h0 h1 j)
def toldL (cls : List Int) (mt : Int → Option Int) (base : Int) (j : Nat) : List Int := (List.range j).map fun i => tellL (cls.getD i 0) (toldS cls mt base i)
def toldC (cls : List Int) (mt : Int → Option Int) (base : Int) (j : Nat) : List Int := (List.range j).map fun i => tellC (cls.getD i 0) (toldS cls mt base i)
theorem toldL_succ (cls : List Int) (mt : Int → Option Int) (base : Int) (j : Nat) : toldL cls mt base (j + 1) = toldL cls mt base j ++ [tellL (cls.getD j 0) (toldS cls mt base j)] := by
 simp only [toldL, List.range_succ, List.map_append, List.map_cons, List.map_nil]
theorem toldC_succ (cls : List Int) (mt : Int → Option Int) (base : Int) (j : Nat) : toldC cls mt base (j + 1) = toldC cls mt base j ++ [tellC (cls.getD j 0) (toldS cls mt base j)] := by
 simp only [toldC, List.range_succ, List.map_append, List.map_cons, List.map_nil]
theorem IsRing.fr {ts : List Nat} {w w' : World} {base gl : Nat} {l : List (Nat × S87)} (h : IsRing w base gl l) (hf : FrT ts w w') (h1 : 99 ∉ ts) (h2 : 101 ∉ ts) : IsRing w' base gl l := by
 obtain ⟨g1, g2, g3⟩ := h
 refine ⟨hf.same g1 h2, g2.move (fun p hp => ?_), g3⟩
 obtain ⟨cs, hc⟩ := g2.typed p hp
 rw [hc]
 exact hf.same hc h1
theorem IsTe.fr {ts : List Nat} {w w' : World} {base tb : Nat} {s : TeS} (h : IsTe w base tb s) (hf : FrT ts w w') (h1 : 99 ∉ ts) (h2 : 101 ∉ ts) (h3 : 83 ∉ ts) : IsTe w' base tb s := by
 obtain ⟨gl, l, g1, g2, g3⟩ := h
 exact ⟨gl, l, hf.same g1 h3, g2.fr hf h1 h2, g3⟩
theorem FrT.grown {W w1 : World} {base : Nat} {ok : Nat → Prop} {v : Value} {xs : List Int} (h : Kd.R (Kd.int .i64) 3 W base ok v xs) (hg : W.grownBy w1 v.ownBlock) : FrT [3] W w1 := by
 refine ⟨hg.size, fun k o hk ho => (hg.block k (blk_lt hk) (fun he => ?_)).trans hk⟩
 obtain ⟨cells, hc⟩ := Kd.R_typed h k he.symm
 rw [hk] at hc
 exact ho 3 (by simp) _ (Option.some.inj hc)
def Two (w : World) (base : Nat) (v : Value) (xs : List Int) (u : Value) (ys : List Int) : Prop := Kd.R (Kd.int .i64) 3 w base (fun k => True ∧ some k ≠ u.ownBlock) v xs ∧ Kd.R (Kd.int .i64) 3 w base (fun k => True ∧ some k ≠ v.ownBlock) u ys
theorem toldL_len (cls : List Int) (mt : Int → Option Int) (base : Int) (j : Nat) : (toldL cls mt base j).length = j := by simp [toldL]
theorem toldC_len (cls : List Int) (mt : Int → Option Int) (base : Int) (j : Nat) : (toldC cls mt base j).length = j := by simp [toldC]
theorem two_nil (w : World) (base : Nat) : Two w base (.slice none 0 0) [] (.slice none 0 0) [] := ⟨Kd.R_nil _ _ _ _ _, Kd.R_nil _ _ _ _ _⟩
theorem told_calls (w : World) (bp pb : Nat) (Ar : Option Addr) (cr : Nat) (cls : List Int) (mt cd : Int → Option Int) (base : Int) (hp : IsPara w bp pb Ar cr cls.length cls mt cd) (hl : cls.length ≤ 400) (hb0 : 0 ≤ base) (hb1 : base ≤ 100) (hmt : ∀ k m, mt k = some m → k < m ∧ m < cls.length) :
  Calls Try.prog 50 #[.pointer (some ⟨pb, 0, none⟩), .int .i64 base] w fun e w' => ∃ v u : Value, e = .returned (.tuple #[v, u]) ∧ Two w' w.heap.size v (toldL cls mt base cls.length) u (toldC cls mt base cls.length) ∧ Below w.heap.size w w' := by
 have HP := az hp
 obtain ⟨vc, bm, bc, nm, nc, h1, h2, h3, h4, h5⟩ := hp
 have HPB := az h1
 have HMT := az hmt
 clear h1 h2 h3 h4 h5 hmt
 go_enter Try.func50, Try.ntmps50
 go_wp2_with (first | (go_at_call 76; refine (listNew_calls _).mono ?_; rintro x w1 ⟨rfl, hr1, hb1⟩; have HR1 := az hr1; have HB1 := az hb1; clear hr1 hb1) | (go_at_call 77; refine (listPush0_calls w _ w.heap.size ⟨base, 0, false⟩ (below_alloc HB1.out _) (IsRing.below HR1.out (below_alloc (Below.refl _ _) _))).mono ?_; rintro x w2 ⟨⟨vq, rfl⟩, hr2, hb2, hf2⟩; have HT0 : Aside0 (IsTe w2 w.heap.size w1.heap.size ⟨[⟨base, 0, false⟩], 0, 0⟩) := ⟨w.heap.size, _, FrT.same hf2 (blk_new w1 _) (by decide), hr2, rfl, HB1.out.size⟩; have hp02 := (blk_cell (blk_below HPB.out hb2) 0).trans (show _ = some (.slice Ar cls.length cr) from rfl); have HB2 := az hb2; clear hr2 hb2 hf2))
 go_loopg [7, 8, 28] cls.length (fun gg s7 s8 s28 wr => ∃ (j : Nat) (v u : Value), s28 = .int .i64 j ∧ v = s7 ∧ u = s8 ∧ j ≤ cls.length ∧ cls.length - j ≤ gg ∧ Aside0 (Two wr w.heap.size v (toldL cls mt base j) u (toldC cls mt base j)) ∧ Aside0 (IsTe wr w.heap.size w1.heap.size (toldS cls mt base j)) ∧ Aside0 (Below w.heap.size w wr))
 case atStart => exact ⟨0, _, _, rfl, rfl, rfl, Nat.zero_le _, by omega, ⟨two_nil _ _⟩, HT0, HB2⟩
 case round =>
  clear HT0 HB2 hp02
  obtain ⟨j, v, u, rfl, hv, hu, hj, hg, H2, HT, HB⟩ := hrel
  subst hv hu
  by_cases hlt : j < cls.length
  ·
   have hltz : (j : Int) < (cls.length : Int) := by omega
   have HI := az (inv_told cls mt base hb0 hb1 j)
   obtain ⟨e, r, hst, hr8, he0, he8⟩ := HI.out.cons
   have HST := az hst
   have hl1 : cls.length ≤ 1000 := by omega
   have hr9 : r.length < 900 := by omega
   have hj9 : (j : Int) ≤ 1000 := by omega
   have he1 : e.f0 ≤ 1000 := by omega
   have hL := toldL_len cls mt base j
   have hC := toldC_len cls mt base j
   obtain ⟨cy, hcy⟩ : ∃ cy, cls.getD j 0 = cy := ⟨_, rfl⟩
   obtain ⟨lv, hlv⟩ : ∃ x, tellL cy (toldS cls mt base j) = x := ⟨_, rfl⟩
   obtain ⟨cv, hcv⟩ : ∃ x, tellC cy (toldS cls mt base j) = x := ⟨_, rfl⟩
   clear hst hr8 he8
   go_wp2_with (first | (go_at_call 78; refine (tell_calls w _ w1.heap.size bp pb Ar cr cls mt cd j (toldS cls mt base j) e r HST.out HI.out.2.2.2.2.2.2 HB.out HT.out (IsPara.below HP.out HB.out) hl1 hlt HMT.out hr9 HI.out.1 (Int.le_trans HI.out.2.1 hj9) HI.out.2.2.1 (Int.le_trans HI.out.2.2.2.1 hj9) he0 he1).mono ?_; rw [hcy, hlv, hcv]; rintro x w3 ⟨rfl, p1, p2, p3⟩; have T1 := az p1; have T2 := az p2; have V0 := az (FrT.R p3 H2.out.1 (by decide)); have V1 := az (FrT.R p3 H2.out.2 (by decide)); clear p1 p2 p3) | ((with_reducible refine gate_builtin (b := .append) (xs := #[.tmp 38, .tmp 40]) rfl ?_); at_builtin; refine Kd.R_append (Kd.int .i64) (w0 := w) w.heap.size rfl (.tmp 38) (.tmp 40) 22 3 (.int .i64 0) 8 rfl Try.underlying22 info3 rfl (by decide) (by omega) v (toldL cls mt base j) lv [.int .i64 lv] (fun k => True ∧ some k ≠ (u : Value).ownBlock) (fun _ => False) rfl rfl ?aP (fun _ hk => hk.elim) ?aF ?aO ?aB ?aS ?aL ?_; (case aP => rfl); (case aF => exact fun k hk => ⟨trivial, fun e => absurd (blk_lt (Kd.R_typed V1.out k e.symm).choose_spec) (Nat.not_lt.mpr hk)⟩); (case aO => exact V0.out); (case aB => exact T2.out); (case aS => exact T2.out.size); (case aL => omega); intro v1 w4 ho1 hb1 hg1 hat1; have A0 := az ho1; have A1 := az (Kd.R_after V1.out hg1 hat1); have A2 := az (IsTe.fr T1.out (FrT.grown V0.out hg1) (by decide) (by decide) (by decide)); have A3 := az hb1; clear ho1 hb1 hg1 hat1) | ((with_reducible refine gate_builtin (b := .append) (xs := #[.tmp 42, .tmp 44]) rfl ?_); at_builtin; refine Kd.R_append (Kd.int .i64) (w0 := w) w.heap.size rfl (.tmp 42) (.tmp 44) 22 3 (.int .i64 0) 8 rfl Try.underlying22 info3 rfl (by decide) (by omega) u (toldC cls mt base j) cv [.int .i64 cv] (fun k => True ∧ some k ≠ (v1 : Value).ownBlock) (fun _ => False) rfl rfl ?aP (fun _ hk => hk.elim) ?aF ?aO ?aB ?aS ?aL ?_; (case aP => rfl); (case aF => exact fun k hk => ⟨trivial, fun e => absurd (blk_lt (Kd.R_typed A0.out k e.symm).choose_spec) (Nat.not_lt.mpr hk)⟩); (case aO => exact A1.out); (case aB => exact A3.out); (case aS => exact A3.out.size); (case aL => omega); intro u1 w5 ho2 hb2 hg2 hat2; have B1 := az ho2; have B0 := az (Kd.R_after A0.out hg2 hat2); have B2 := az (IsTe.fr A2.out (FrT.grown A1.out hg2) (by decide) (by decide) (by decide)); have B3 := az hb2; clear ho2 hb2 hg2 hat2))
   go_roundg (cls.length - (j + 1))
   case measure => omega
   case rel => exact ⟨j + 1, v1, u1, by go_num, rfl, rfl, by omega, by omega, ⟨by rw [toldL_succ, toldC_succ, hcy, hlv, hcv]; exact ⟨B0.out, B1.out⟩⟩, B2, B3⟩
  ·
   have hltz : ¬ (j : Int) < (cls.length : Int) := by omega
   obtain rfl : j = cls.length := by omega
   go_wp2
   go_ret2
   exact ⟨_, _, rfl, H2.out, HB.out⟩
def cmp_isNaN_int.f (a0 : Int) : Option (Bool) := some (a0 != a0)
theorem cmp_isNaN_int.calls (a0 : Int) (r : Bool) (w : World) (h : cmp_isNaN_int.f a0 = some r) :
  Calls Try.prog 115 #[.int .i64 a0] w fun e w' => e = .returned (.bool r) ∧ Drawn0 w w' := by
 have H : (some (a0 != a0)) = some r := h
 clear h
 obtain rfl := Option.some.inj H
 go_enter Try.func115, Try.ntmps115
 go_wp2
 go_ret
 exact ⟨by first | rfl | (simp; done) | (simp [*]; done), by repeat (first | exact Drawn0.refl _ | apply Drawn0.step)⟩
def cmp_Compare_int.f (a0 : Int) (a1 : Int) : Option (Int) := (cmp_isNaN_int.f a0).bind fun t319 => ((cmp_isNaN_int.f a1).bind fun t320 => (if t319 = true then (if t320 = true then (some 0) else (some (-1))) else (if t320 = true then (some 1) else (if a0 < a1 then (some (-1)) else (if a0 > a1 then (some 1) else (some 0))))))
theorem cmp_Compare_int.calls (a0 : Int) (a1 : Int) (r : Int) (w : World) (h : cmp_Compare_int.f a0 a1 = some r) :
  Calls Try.prog 109 #[.int .i64 a0, .int .i64 a1] w fun e w' => e = .returned (.int .i64 r) ∧ Drawn0 w w' := by
 have H : ((cmp_isNaN_int.f a0).bind fun t319 => ((cmp_isNaN_int.f a1).bind fun t320 => (if t319 = true then (if t320 = true then (some 0) else (some (-1))) else (if t320 = true then (some 1) else (if a0 < a1 then (some (-1)) else (if a0 > a1 then (some 1) else (some 0))))))) = some r := h; clear h; replace H := Option.bind_eq_some_iff.mp H; obtain ⟨t319, A30, H⟩ := H; replace H : ((cmp_isNaN_int.f a1).bind fun t320 => (if t319 = true then (if t320 = true then (some 0) else (some (-1))) else (if t320 = true then (some 1) else (if a0 < a1 then (some (-1)) else (if a0 > a1 then (some 1) else (some 0)))))) = some r := H; have A3 := az A30; clear A30; replace H := Option.bind_eq_some_iff.mp H; obtain ⟨t320, A40, H⟩ := H; replace H : (if t319 = true then (if t320 = true then (some 0) else (some (-1))) else (if t320 = true then (some 1) else (if a0 < a1 then (some (-1)) else (if a0 > a1 then (some 1) else (some 0))))) = some r := H; have A4 := az A40; clear A40; by_cases c5 : t319 = true
 ·
  subst c5; have H1 : (if t320 = true then (some 0) else (some (-1))) = some r := by rw [if_pos rfl] at H; exact H
  clear H; have H := H1; clear H1; by_cases c6 : t320 = true
  ·
   subst c6; have H1 : (some 0) = some r := by rw [if_pos rfl] at H; exact H
   clear H; have H := H1; clear H1; obtain rfl := Option.some.inj H; go_enter Try.func109, Try.ntmps109; go_wp2_with (first | ((with_reducible refine gate_callee (f := 115) rfl ?_); refine goesL_ (some 8) rfl rfl Try.func115 (by kernel_rfl) rfl #[.int .i64 a0] rfl (by (try simp only [List.map_toArray, List.map_cons, List.map_nil]); first | done | rfl) ?_; (with_reducible refine (cmp_isNaN_int.calls a0 true _ A3.out).mono ?_); rintro e w' ⟨rfl, ⟨nd, rfl⟩⟩; refine ⟨_, rfl, ?_⟩) | ((with_reducible refine gate_callee (f := 115) rfl ?_); refine goesL_ (some 10) rfl rfl Try.func115 (by kernel_rfl) rfl #[.int .i64 a1] rfl (by (try simp only [List.map_toArray, List.map_cons, List.map_nil]); first | done | rfl) ?_; (with_reducible refine (cmp_isNaN_int.calls a1 true _ A4.out).mono ?_); rintro e w' ⟨rfl, ⟨nd, rfl⟩⟩; refine ⟨_, rfl, ?_⟩)); go_ret; exact ⟨by first | rfl | (simp; done) | (simp [*]; done), by repeat (first | exact Drawn0.refl _ | apply Drawn0.step)⟩
  ·
   replace c6 := Bool.eq_false_iff.mpr c6; subst c6; have H1 : (some (-1)) = some r := by rw [if_neg (show ¬ (false = true) by decide)] at H; exact H
   clear H; have H := H1; clear H1; obtain rfl := Option.some.inj H; go_enter Try.func109, Try.ntmps109; go_wp2_with (first | ((with_reducible refine gate_callee (f := 115) rfl ?_); refine goesL_ (some 8) rfl rfl Try.func115 (by kernel_rfl) rfl #[.int .i64 a0] rfl (by (try simp only [List.map_toArray, List.map_cons, List.map_nil]); first | done | rfl) ?_; (with_reducible refine (cmp_isNaN_int.calls a0 true _ A3.out).mono ?_); rintro e w' ⟨rfl, ⟨nd, rfl⟩⟩; refine ⟨_, rfl, ?_⟩) | ((with_reducible refine gate_callee (f := 115) rfl ?_); refine goesL_ (some 10) rfl rfl Try.func115 (by kernel_rfl) rfl #[.int .i64 a1] rfl (by (try simp only [List.map_toArray, List.map_cons, List.map_nil]); first | done | rfl) ?_; (with_reducible refine (cmp_isNaN_int.calls a1 false _ A4.out).mono ?_); rintro e w' ⟨rfl, ⟨nd, rfl⟩⟩; refine ⟨_, rfl, ?_⟩)); go_ret; exact ⟨by first | rfl | (simp; done) | (simp [*]; done), by repeat (first | exact Drawn0.refl _ | apply Drawn0.step)⟩
 ·
  replace c5 := Bool.eq_false_iff.mpr c5; subst c5; have H1 : (if t320 = true then (some 1) else (if a0 < a1 then (some (-1)) else (if a0 > a1 then (some 1) else (some 0)))) = some r := by rw [if_neg (show ¬ (false = true) by decide)] at H; exact H
  clear H; have H := H1; clear H1; by_cases c7 : t320 = true
  ·
   subst c7; have H1 : (some 1) = some r := by rw [if_pos rfl] at H; exact H
   clear H; have H := H1; clear H1; obtain rfl := Option.some.inj H; go_enter Try.func109, Try.ntmps109; go_wp2_with (first | ((with_reducible refine gate_callee (f := 115) rfl ?_); refine goesL_ (some 8) rfl rfl Try.func115 (by kernel_rfl) rfl #[.int .i64 a0] rfl (by (try simp only [List.map_toArray, List.map_cons, List.map_nil]); first | done | rfl) ?_; (with_reducible refine (cmp_isNaN_int.calls a0 false _ A3.out).mono ?_); rintro e w' ⟨rfl, ⟨nd, rfl⟩⟩; refine ⟨_, rfl, ?_⟩) | ((with_reducible refine gate_callee (f := 115) rfl ?_); refine goesL_ (some 10) rfl rfl Try.func115 (by kernel_rfl) rfl #[.int .i64 a1] rfl (by (try simp only [List.map_toArray, List.map_cons, List.map_nil]); first | done | rfl) ?_; (with_reducible refine (cmp_isNaN_int.calls a1 true _ A4.out).mono ?_); rintro e w' ⟨rfl, ⟨nd, rfl⟩⟩; refine ⟨_, rfl, ?_⟩)); go_ret; exact ⟨by first | rfl | (simp; done) | (simp [*]; done), by repeat (first | exact Drawn0.refl _ | apply Drawn0.step)⟩
  ·
   replace c7 := Bool.eq_false_iff.mpr c7; subst c7; have H1 : (if a0 < a1 then (some (-1)) else (if a0 > a1 then (some 1) else (some 0))) = some r := by rw [if_neg (show ¬ (false = true) by decide)] at H; exact H
   clear H; have H := H1; clear H1; by_cases c8 : a0 < a1
   ·
    rw [if_pos c8] at H; have c8b0 : decide (a0 < a1) = true := decide_eq_true c8; clear c8; obtain rfl := Option.some.inj H; go_enter Try.func109, Try.ntmps109; go_wp2_with (first | ((with_reducible refine gate_callee (f := 115) rfl ?_); refine goesL_ (some 8) rfl rfl Try.func115 (by kernel_rfl) rfl #[.int .i64 a0] rfl (by (try simp only [List.map_toArray, List.map_cons, List.map_nil]); first | done | rfl) ?_; (with_reducible refine (cmp_isNaN_int.calls a0 false _ A3.out).mono ?_); rintro e w' ⟨rfl, ⟨nd, rfl⟩⟩; refine ⟨_, rfl, ?_⟩) | ((with_reducible refine gate_callee (f := 115) rfl ?_); refine goesL_ (some 10) rfl rfl Try.func115 (by kernel_rfl) rfl #[.int .i64 a1] rfl (by (try simp only [List.map_toArray, List.map_cons, List.map_nil]); first | done | rfl) ?_; (with_reducible refine (cmp_isNaN_int.calls a1 false _ A4.out).mono ?_); rintro e w' ⟨rfl, ⟨nd, rfl⟩⟩; refine ⟨_, rfl, ?_⟩)); go_ret; exact ⟨by first | rfl | (simp; done) | (simp [*]; done), by repeat (first | exact Drawn0.refl _ | apply Drawn0.step)⟩
   ·
    rw [if_neg c8] at H; have c8b0 : decide (a0 < a1) = false := decide_eq_false c8; clear c8; by_cases c9 : a0 > a1
    ·
     rw [if_pos c9] at H; have c9b0 : decide (a1 < a0) = true := decide_eq_true c9; clear c9; obtain rfl := Option.some.inj H; go_enter Try.func109, Try.ntmps109; go_wp2_with (first | ((with_reducible refine gate_callee (f := 115) rfl ?_); refine goesL_ (some 8) rfl rfl Try.func115 (by kernel_rfl) rfl #[.int .i64 a0] rfl (by (try simp only [List.map_toArray, List.map_cons, List.map_nil]); first | done | rfl) ?_; (with_reducible refine (cmp_isNaN_int.calls a0 false _ A3.out).mono ?_); rintro e w' ⟨rfl, ⟨nd, rfl⟩⟩; refine ⟨_, rfl, ?_⟩) | ((with_reducible refine gate_callee (f := 115) rfl ?_); refine goesL_ (some 10) rfl rfl Try.func115 (by kernel_rfl) rfl #[.int .i64 a1] rfl (by (try simp only [List.map_toArray, List.map_cons, List.map_nil]); first | done | rfl) ?_; (with_reducible refine (cmp_isNaN_int.calls a1 false _ A4.out).mono ?_); rintro e w' ⟨rfl, ⟨nd, rfl⟩⟩; refine ⟨_, rfl, ?_⟩)); go_ret; exact ⟨by first | rfl | (simp; done) | (simp [*]; done), by repeat (first | exact Drawn0.refl _ | apply Drawn0.step)⟩
    ·
     rw [if_neg c9] at H; have c9b0 : decide (a1 < a0) = false := decide_eq_false c9; clear c9; obtain rfl := Option.some.inj H; go_enter Try.func109, Try.ntmps109; go_wp2_with (first | ((with_reducible refine gate_callee (f := 115) rfl ?_); refine goesL_ (some 8) rfl rfl Try.func115 (by kernel_rfl) rfl #[.int .i64 a0] rfl (by (try simp only [List.map_toArray, List.map_cons, List.map_nil]); first | done | rfl) ?_; (with_reducible refine (cmp_isNaN_int.calls a0 false _ A3.out).mono ?_); rintro e w' ⟨rfl, ⟨nd, rfl⟩⟩; refine ⟨_, rfl, ?_⟩) | ((with_reducible refine gate_callee (f := 115) rfl ?_); refine goesL_ (some 10) rfl rfl Try.func115 (by kernel_rfl) rfl #[.int .i64 a1] rfl (by (try simp only [List.map_toArray, List.map_cons, List.map_nil]); first | done | rfl) ?_; (with_reducible refine (cmp_isNaN_int.calls a1 false _ A4.out).mono ?_); rintro e w' ⟨rfl, ⟨nd, rfl⟩⟩; refine ⟨_, rfl, ?_⟩)); go_ret; exact ⟨by first | rfl | (simp; done) | (simp [*]; done), by repeat (first | exact Drawn0.refl _ | apply Drawn0.step)⟩
def impl_find_1.f (a0_0 : Int) (a0_1 : Int) (a0_2 : Int) (a1 : Int) : Option (Int) := if a1 ≥ a0_0 then (if a1 ≤ a0_1 then (some 0) else ((cmp_Compare_int.f a0_0 a1).bind fun t322 => (some t322))) else ((cmp_Compare_int.f a0_0 a1).bind fun t323 => (some t323))
theorem impl_find_1.calls (a0_0 : Int) (a0_1 : Int) (a0_2 : Int) (a1 : Int) (r : Int) (w : World) (h : impl_find_1.f a0_0 a0_1 a0_2 a1 = some r) :
  Calls Try.prog 108 #[.agg #[.int .i64 a0_0, .int .i64 a0_1, .int .i64 a0_2], .int .i64 a1] w fun e w' => e = .returned (.int .i64 r) ∧ Below w.heap.size w w' := by
 have hu108 := Try.underlying108; have HB := az (Below.refl w.heap.size w); have H : (if a1 ≥ a0_0 then (if a1 ≤ a0_1 then (some 0) else ((cmp_Compare_int.f a0_0 a1).bind fun t322 => (some t322))) else ((cmp_Compare_int.f a0_0 a1).bind fun t323 => (some t323))) = some r := h; clear h; by_cases c3 : a1 ≥ a0_0
 ·
  rw [if_pos c3] at H; have c3b0 : decide (a0_0 ≤ a1) = true := decide_eq_true c3; clear c3; by_cases c4 : a1 ≤ a0_1
  ·
   rw [if_pos c4] at H; have c4b0 : decide (a1 ≤ a0_1) = true := decide_eq_true c4; clear c4; obtain rfl := Option.some.inj H; go_enter Try.func108, Try.ntmps108; go_wp2_with (first | ((with_reducible refine gate_dst (N := 2) rfl ?_); refine box_event ?hg (N := 2) ?hd (cs := #[.int .i64 a0_0, .int .i64 a0_1, .int .i64 a0_2]) (t := 108) ?hr ?_; (case hd => rfl); (case hg => rfl); (case hr => first | (go_simp; done) | (go_simp; rfl)); intro gb321 hg w5 hbox hb; have n0_ := az (below_step (by repeat (first | (with_reducible first | exact HB.out | apply below_alloc | apply pw_below_drewN | apply below_drew1) | exact HB.out)) hb); have n1_ := az (hbox); have n2_ := az ((by rw [hg]; exact (below_size (by repeat (first | (with_reducible first | exact HB.out | apply below_alloc | apply pw_below_drewN | apply below_drew1) | exact HB.out))) : w.heap.size ≤ gb321)); have n3_ := az ((by rw [hg]; exact (below_size (by repeat (first | (with_reducible first | exact HB.out | apply below_alloc | apply pw_below_drewN | apply below_drew1) | exact HB.out))) : w.heap.size ≤ gb321)); clear HB; have HB := n0_; have BK321 := n1_; have GW321 := n2_; have GE321 := n3_; clear n0_ n1_ n2_ n3_; clear hb hbox hg; have hcz6_0 : w5.cell? ⟨gb321, 0, none⟩ = some (.int .i64 a0_0) := (blk_cell BK321.out 0).trans rfl; have hcz6_1 : w5.cell? ⟨gb321, 1, none⟩ = some (.int .i64 a0_1) := (blk_cell BK321.out 1).trans rfl; have hcz6_2 : w5.cell? ⟨gb321, 2, none⟩ = some (.int .i64 a0_2) := (blk_cell BK321.out 2).trans rfl; have hfz6_0 := blk_frozen BK321.out 0; have hfz6_1 := blk_frozen BK321.out 1; have hfz6_2 := blk_frozen BK321.out 2)); go_ret; exact ⟨by first | rfl | (simp [errW_none, errW_some] <;> rfl) | (simp [*, errW_none, errW_some] <;> rfl), by repeat (first | (with_reducible first | exact HB.out | apply below_alloc | apply pw_below_drewN | apply below_drew1 | refine below_set ?_ GE321.out) | exact HB.out)⟩
  ·
   rw [if_neg c4] at H; have c4b0 : decide (a1 ≤ a0_1) = false := decide_eq_false c4; clear c4; replace H := Option.bind_eq_some_iff.mp H; obtain ⟨t322, A70, H⟩ := H; replace H : (some t322) = some r := H; have A7 := az A70; clear A70; obtain rfl := Option.some.inj H; go_enter Try.func108, Try.ntmps108; go_wp2_with (first | ((with_reducible refine gate_dst (N := 2) rfl ?_); refine box_event ?hg (N := 2) ?hd (cs := #[.int .i64 a0_0, .int .i64 a0_1, .int .i64 a0_2]) (t := 108) ?hr ?_; (case hd => rfl); (case hg => rfl); (case hr => first | (go_simp; done) | (go_simp; rfl)); intro gb321 hg w8 hbox hb; have n0_ := az (below_step (by repeat (first | (with_reducible first | exact HB.out | apply below_alloc | apply pw_below_drewN | apply below_drew1) | exact HB.out)) hb); have n1_ := az (hbox); have n2_ := az ((by rw [hg]; exact (below_size (by repeat (first | (with_reducible first | exact HB.out | apply below_alloc | apply pw_below_drewN | apply below_drew1) | exact HB.out))) : w.heap.size ≤ gb321)); have n3_ := az ((by rw [hg]; exact (below_size (by repeat (first | (with_reducible first | exact HB.out | apply below_alloc | apply pw_below_drewN | apply below_drew1) | exact HB.out))) : w.heap.size ≤ gb321)); clear HB; have HB := n0_; have BK321 := n1_; have GW321 := n2_; have GE321 := n3_; clear n0_ n1_ n2_ n3_; clear hb hbox hg; have hcz9_0 : w8.cell? ⟨gb321, 0, none⟩ = some (.int .i64 a0_0) := (blk_cell BK321.out 0).trans rfl; have hcz9_1 : w8.cell? ⟨gb321, 1, none⟩ = some (.int .i64 a0_1) := (blk_cell BK321.out 1).trans rfl; have hcz9_2 : w8.cell? ⟨gb321, 2, none⟩ = some (.int .i64 a0_2) := (blk_cell BK321.out 2).trans rfl; have hfz9_0 := blk_frozen BK321.out 0; have hfz9_1 := blk_frozen BK321.out 1; have hfz9_2 := blk_frozen BK321.out 2) | ((with_reducible refine gate_callee (f := 109) rfl ?_); refine goesL_ (some 18) rfl rfl Try.func109 (by kernel_rfl) rfl #[.int .i64 a0_0, .int .i64 a1] rfl (by (try simp only [List.map_toArray, List.map_cons, List.map_nil]); first | done | rfl) ?_; (with_reducible refine (cmp_Compare_int.calls a0_0 a1 t322 _ A7.out).mono ?_); rintro e w' ⟨rfl, ⟨nd, rfl⟩⟩; refine ⟨_, rfl, ?_⟩)); go_ret; exact ⟨by first | rfl | (simp [errW_none, errW_some] <;> rfl) | (simp [*, errW_none, errW_some] <;> rfl), by repeat (first | (with_reducible first | exact HB.out | apply below_alloc | apply pw_below_drewN | apply below_drew1 | refine below_set ?_ GE321.out) | exact HB.out)⟩
 ·
  rw [if_neg c3] at H; have c3b0 : decide (a0_0 ≤ a1) = false := decide_eq_false c3; clear c3; replace H := Option.bind_eq_some_iff.mp H; obtain ⟨t323, A100, H⟩ := H; replace H : (some t323) = some r := H; have A10 := az A100; clear A100; obtain rfl := Option.some.inj H; go_enter Try.func108, Try.ntmps108; go_wp2_with (first | ((with_reducible refine gate_dst (N := 2) rfl ?_); refine box_event ?hg (N := 2) ?hd (cs := #[.int .i64 a0_0, .int .i64 a0_1, .int .i64 a0_2]) (t := 108) ?hr ?_; (case hd => rfl); (case hg => rfl); (case hr => first | (go_simp; done) | (go_simp; rfl)); intro gb321 hg w11 hbox hb; have n0_ := az (below_step (by repeat (first | (with_reducible first | exact HB.out | apply below_alloc | apply pw_below_drewN | apply below_drew1) | exact HB.out)) hb); have n1_ := az (hbox); have n2_ := az ((by rw [hg]; exact (below_size (by repeat (first | (with_reducible first | exact HB.out | apply below_alloc | apply pw_below_drewN | apply below_drew1) | exact HB.out))) : w.heap.size ≤ gb321)); have n3_ := az ((by rw [hg]; exact (below_size (by repeat (first | (with_reducible first | exact HB.out | apply below_alloc | apply pw_below_drewN | apply below_drew1) | exact HB.out))) : w.heap.size ≤ gb321)); clear HB; have HB := n0_; have BK321 := n1_; have GW321 := n2_; have GE321 := n3_; clear n0_ n1_ n2_ n3_; clear hb hbox hg; have hcz12_0 : w11.cell? ⟨gb321, 0, none⟩ = some (.int .i64 a0_0) := (blk_cell BK321.out 0).trans rfl; have hcz12_1 : w11.cell? ⟨gb321, 1, none⟩ = some (.int .i64 a0_1) := (blk_cell BK321.out 1).trans rfl; have hcz12_2 : w11.cell? ⟨gb321, 2, none⟩ = some (.int .i64 a0_2) := (blk_cell BK321.out 2).trans rfl; have hfz12_0 := blk_frozen BK321.out 0; have hfz12_1 := blk_frozen BK321.out 1; have hfz12_2 := blk_frozen BK321.out 2) | ((with_reducible refine gate_callee (f := 109) rfl ?_); refine goesL_ (some 18) rfl rfl Try.func109 (by kernel_rfl) rfl #[.int .i64 a0_0, .int .i64 a1] rfl (by (try simp only [List.map_toArray, List.map_cons, List.map_nil]); first | done | rfl) ?_; (with_reducible refine (cmp_Compare_int.calls a0_0 a1 t323 _ A10.out).mono ?_); rintro e w' ⟨rfl, ⟨nd, rfl⟩⟩; refine ⟨_, rfl, ?_⟩)); go_ret; exact ⟨by first | rfl | (simp [errW_none, errW_some] <;> rfl) | (simp [*, errW_none, errW_some] <;> rfl), by repeat (first | (with_reducible first | exact HB.out | apply below_alloc | apply pw_below_drewN | apply below_drew1 | refine below_set ?_ GE321.out) | exact HB.out)⟩
def cmpR (x : S108) (r : Int) : Int := if x.f0 ≤ r ∧ r ≤ x.f1 then 0 else if x.f0 < r then -1 else if r < x.f0 then 1 else 0
def bsR (l : List S108) (r : Int) : Nat → Nat → Nat → Nat
 | 0, lo, _ => lo
 | k + 1, lo, hi => if lo < hi then (if cmpR (l.getD ((lo + hi) / 2) z108) r < 0 then bsR l r k ((lo + hi) / 2 + 1) hi else bsR l r k lo ((lo + hi) / 2)) else lo
theorem bsR_end (l : List S108) (r : Int) (k lo : Nat) : bsR l r k lo lo = lo := by cases k <;> simp [bsR]
theorem bsR_lt {l : List S108} {r : Int} {k lo hi : Nat} (h : lo < hi) (hc : cmpR (l.getD ((lo + hi) / 2) z108) r < 0) : bsR l r (k + 1) lo hi = bsR l r k ((lo + hi) / 2 + 1) hi := by
 rw [bsR, if_pos h, if_pos hc]
theorem bsR_ge {l : List S108} {r : Int} {k lo hi : Nat} (h : lo < hi) (hc : ¬ cmpR (l.getD ((lo + hi) / 2) z108) r < 0) : bsR l r (k + 1) lo hi = bsR l r k lo ((lo + hi) / 2) := by
 rw [bsR, if_pos h, if_neg hc]
theorem bsR_more (l : List S108) (r : Int) : ∀ (k k' lo hi : Nat), hi - lo ≤ k → hi - lo ≤ k' → bsR l r k lo hi = bsR l r k' lo hi
 | 0, 0, _, _, _, _ => rfl
 | 0, k' + 1, lo, hi, h, _ => by rw [bsR, bsR, if_neg (by omega)]
 | k + 1, 0, lo, hi, _, h => by rw [bsR, bsR, if_neg (by omega)]
 | k + 1, k' + 1, lo, hi, h, h' => by
  rw [bsR, bsR]
  by_cases hlt : lo < hi
  · rw [if_pos hlt, if_pos hlt, bsR_more l r k k' ((lo + hi) / 2 + 1) hi (by omega) (by omega), bsR_more l r k k' lo ((lo + hi) / 2) (by omega) (by omega)]
  · rw [if_neg hlt, if_neg hlt]
theorem cmpC_f (a b : Int) : cmp_Compare_int.f a b = some (if a < b then -1 else if b < a then 1 else 0) := by
 simp only [cmp_Compare_int.f, cmp_isNaN_int.f, Option.bind_some, bne_self_eq_false, Bool.false_eq_true, if_false, gt_iff_lt]
 split
 · rfl
 · split <;> rfl
theorem cmpR_f (x : S108) (r : Int) : impl_find_1.f x.f0 x.f1 x.f2 r = some (cmpR x r) := by
 simp only [impl_find_1.f, cmpR, cmpC_f, Option.bind_some, ge_iff_le]
 by_cases h0 : x.f0 ≤ r
 ·
  by_cases h1 : r ≤ x.f1
  · simp [h0, h1]
  · simp [h0, h1]
 · simp [h0]
theorem bsR_calls (A0 : Option Addr) (c0 : Nat) (l0 : List S108) (a1 : Int) (w : World) (hr0 : Kd.C k108 w A0 l0.length l0) (hn : l0.length ≤ 1000) :
  Calls Try.prog 107 #[.slice A0 l0.length c0, .int .i64 a1, .func (.func 108) #[] #[]] w fun e w' =>
   e = .returned (.tuple #[.int .i64 (bsR l0 a1 l0.length 0 l0.length : Nat), .bool (decide (bsR l0 a1 l0.length 0 l0.length < l0.length) && decide (cmpR (l0.getD (bsR l0 a1 l0.length 0 l0.length) z108) a1 = 0))]) ∧ Below w.heap.size w w' := by
 have HR0 := az hr0
 clear hr0
 go_enter Try.func107, Try.ntmps107
 go_wp2
 go_loopg [9, 10] l0.length (fun kx s9 s10 wr => ∃ lo hi : Nat, s9 = .int .i64 lo ∧ s10 = .int .i64 hi ∧ lo ≤ hi ∧ hi ≤ l0.length ∧ hi - lo ≤ kx ∧ Aside0 (Below w.heap.size w wr) ∧ Aside0 (bsR l0 a1 (hi - lo) lo hi = bsR l0 a1 l0.length 0 l0.length))
 case atStart => exact ⟨0, l0.length, rfl, rfl, Nat.zero_le _, Nat.le_refl _, by omega, ⟨Below.refl _ _⟩, ⟨rfl⟩⟩
 case round =>
  obtain ⟨lo, hi, rfl, rfl, hlh, hin, hg, HB, HI⟩ := hrel
  by_cases hlt : lo < hi
  ·
   obtain ⟨ad, rfl, hx⟩ := at_T108 HR0.out (((lo + hi) / 2 : Nat) : Int) (by omega) (by omega)
   have HM := az (cmpR_f (l0.getD ((lo + hi) / 2) z108) a1)
   simp only [rd_T108, Int.toNat_natCast] at hx
   obtain ⟨x0, x1, x2⟩ := hx
   replace x0 := (HB.out.cell (World.block_lt_of_cell? w _ x0)).trans x0
   replace x1 := (HB.out.cell (World.block_lt_of_cell? w _ x1)).trans x1
   replace x2 := (HB.out.cell (World.block_lt_of_cell? w _ x2)).trans x2
   generalize hy : l0.getD ((lo + hi) / 2) z108 = y at x0 x1 x2 HM
   have HY := az hy
   clear hy
   by_cases hc : cmpR y a1 < 0
   ·
    have hcb : decide (cmpR y a1 < 0) = true := decide_eq_true hc
    have HC := az hc
    clear hc
    go_wp2_with (go_at_call 108; refine (impl_find_1.calls _ _ _ _ _ _ HM.out).mono ?_; rintro e w' ⟨rfl, hb'⟩)
    go_roundg (hi - ((lo + hi) / 2 + 1))
    case measure => omega
    case rel =>
     refine ⟨(lo + hi) / 2 + 1, hi, by rw [show ((lo : Int) + (hi : Int)) / 2 + 1 = (((lo + hi) / 2 + 1 : Nat) : Int) by omega], rfl, by omega, hin, Nat.le_refl _, ⟨below_then HB.out HB.out.size hb'⟩, ⟨?_⟩⟩
     rw [← HI.out, show hi - lo = (hi - lo - 1) + 1 by omega, bsR_lt hlt (by rw [HY.out]; exact HC.out)]
     exact bsR_more _ _ _ _ _ _ (by omega) (by omega)
   ·
    have hcb : decide (cmpR y a1 < 0) = false := decide_eq_false hc
    have HC := az hc
    clear hc
    go_wp2_with (go_at_call 108; refine (impl_find_1.calls _ _ _ _ _ _ HM.out).mono ?_; rintro e w' ⟨rfl, hb'⟩)
    go_roundg ((lo + hi) / 2 - lo)
    case measure => omega
    case rel =>
     refine ⟨lo, (lo + hi) / 2, rfl, by rw [show ((lo : Int) + (hi : Int)) / 2 = (((lo + hi) / 2 : Nat) : Int) by omega], by omega, by omega, Nat.le_refl _, ⟨below_then HB.out HB.out.size hb'⟩, ⟨?_⟩⟩
     rw [← HI.out, show hi - lo = (hi - lo - 1) + 1 by omega, bsR_ge hlt (by rw [HY.out]; have := HC.out; omega)]
     exact bsR_more _ _ _ _ _ _ (by omega) (by omega)
  ·
   obtain rfl : hi = lo := by omega
   have e : bsR l0 a1 l0.length 0 l0.length = hi := by rw [← HI.out, bsR_end]
   have E := az e
   clear e HI
   by_cases hn2 : hi < l0.length
   ·
    obtain ⟨ad, rfl, hx⟩ := at_T108 HR0.out (hi : Int) (by omega) (by omega)
    have HM := az (cmpR_f (l0.getD hi z108) a1)
    simp only [rd_T108, Int.toNat_natCast] at hx
    obtain ⟨x0, x1, x2⟩ := hx
    replace x0 := (HB.out.cell (World.block_lt_of_cell? w _ x0)).trans x0
    replace x1 := (HB.out.cell (World.block_lt_of_cell? w _ x1)).trans x1
    replace x2 := (HB.out.cell (World.block_lt_of_cell? w _ x2)).trans x2
    generalize hy : l0.getD hi z108 = y at x0 x1 x2 HM
    have HY := az hy
    clear hy
    by_cases hyx : cmpR y a1 = 0
    ·
     go_wp2_with (go_at_call 108; refine (impl_find_1.calls _ _ _ _ _ _ HM.out).mono ?_; rintro e w' ⟨rfl, hb'⟩)
     go_ret2
     exact ⟨by rw [E.out, HY.out]; simp [hn2, hyx], below_then HB.out HB.out.size hb'⟩
    ·
     go_wp2_with (go_at_call 108; refine (impl_find_1.calls _ _ _ _ _ _ HM.out).mono ?_; rintro e w' ⟨rfl, hb'⟩)
     go_ret2
     exact ⟨by rw [E.out, HY.out]; simp [hn2, hyx], below_then HB.out HB.out.size hb'⟩
   ·
    go_wp2
    go_ret2
    exact ⟨by rw [E.out]; simp [hn2], HB.out⟩
def findV (l0 : List S108) (a1 a2 : Int) : Int := if bsR l0 a1 l0.length 0 l0.length < l0.length ∧ cmpR (l0.getD (bsR l0 a1 l0.length 0 l0.length) z108) a1 = 0 then (l0.getD (bsR l0 a1 l0.length 0 l0.length) z108).f2 else a2
def impl_find.f (l0 : List S108) (a1 a2 : Int) : Option Int := if l0.length ≤ 1000 then some (findV l0 a1 a2) else none
theorem impl_find.calls (A0 : Option Addr) (c0 : Nat) (l0 : List (S108)) (a1 : Int) (a2 : Int) (r : Int) (w : World) (hr0 : Kd.C k108 w A0 l0.length l0) (hc0 : l0.length ≤ c0) (h : impl_find.f l0 a1 a2 = some r) :
  Calls Try.prog 95 #[.slice A0 l0.length c0, .int .i64 a1, .int .i64 a2] w fun e w' => e = .returned (.int .i64 r) ∧ Below w.heap.size w w' := by
 unfold impl_find.f at h
 by_cases hn : l0.length ≤ 1000
 ·
  rw [if_pos hn] at h
  obtain rfl := Option.some.inj h
  have HC := az (bsR_calls A0 c0 l0 a1)
  have HR := az hr0
  unfold findV
  clear h hc0
  generalize hi : bsR l0 a1 l0.length 0 l0.length = i at HC
  clear hi
  by_cases h1 : i < l0.length
  ·
   by_cases h2 : cmpR (l0.getD i z108) a1 = 0
   ·
    rw [if_pos ⟨h1, h2⟩]
    simp only [decide_eq_true h1, decide_eq_true h2, Bool.and_self] at HC
    clear h2
    obtain ⟨ad, rfl, hx⟩ := at_T108 hr0 (i : Int) (by omega) (by omega)
    simp only [rd_T108, Int.toNat_natCast] at hx
    obtain ⟨x0, x1, x2⟩ := hx
    clear hr0
    have HX := az x2
    clear x0 x1 x2
    have h1' : (i : Int) < (l0.length : Int) := by omega
    generalize l0.getD i z108 = y at HX
    go_enter Try.func95, Try.ntmps95
    go_wp2_with (go_at_call 107; refine (HC.out _ HR.out hn).mono ?_; rintro e w' ⟨rfl, hb'⟩; have hx2 := (hb'.cell (World.block_lt_of_cell? w _ HX.out)).trans HX.out)
    go_ret
    exact ⟨rfl, hb'⟩
   ·
    rw [if_neg (fun h => h2 h.2)]
    simp only [decide_eq_false h2, Bool.and_false] at HC
    go_enter Try.func95, Try.ntmps95
    go_wp2_with (go_at_call 107; refine (HC.out _ HR.out hn).mono ?_; rintro e w' ⟨rfl, hb'⟩)
    go_ret
    exact ⟨rfl, hb'⟩
  ·
   rw [if_neg (fun h => h1 h.1)]
   simp only [decide_eq_false h1, Bool.false_and] at HC
   go_enter Try.func95, Try.ntmps95
   go_wp2_with (go_at_call 107; refine (HC.out _ HR.out hn).mono ?_; rintro e w' ⟨rfl, hb'⟩)
   go_ret
   exact ⟨rfl, hb'⟩
 ·
  rw [if_neg hn] at h
  exact absurd h (by simp)
def impl_bidiReaches.f  : Option ((List (S108))) := some (([(⟨9, 9, 11⟩ : S108), (⟨32, 32, 12⟩ : S108), (⟨35, 37, 6⟩ : S108), (⟨43, 43, 5⟩ : S108), (⟨44, 44, 8⟩ : S108), (⟨45, 45, 5⟩ : S108), (⟨46, 47, 8⟩ : S108), (⟨48, 57, 4⟩ : S108), (⟨58, 58, 8⟩ : S108), (⟨65, 90, 1⟩ : S108), (⟨97, 122, 1⟩ : S108), (⟨173, 173, 10⟩ : S108), (⟨768, 879, 9⟩ : S108), (⟨1488, 1514, 2⟩ : S108), (⟨1569, 1610, 3⟩ : S108), (⟨1632, 1641, 7⟩ : S108), (⟨8203, 8203, 10⟩ : S108), (⟨8205, 8205, 10⟩ : S108), (⟨8234, 8234, 14⟩ : S108), (⟨8235, 8235, 15⟩ : S108), (⟨8236, 8236, 16⟩ : S108), (⟨8237, 8237, 17⟩ : S108), (⟨8238, 8238, 18⟩ : S108), (⟨8294, 8294, 19⟩ : S108), (⟨8295, 8295, 20⟩ : S108), (⟨8296, 8296, 21⟩ : S108), (⟨8297, 8297, 22⟩ : S108), (⟨19968, 40959, 1⟩ : S108)] : List (S108)))
theorem impl_bidiReaches.calls  (r : List (S108)) (w : World) (h : impl_bidiReaches.f  = some r) :
  Calls Try.prog 96 #[] w fun e w' => ∃ v0_ : Value, e = .returned (v0_) ∧ Kd.R k108 108 w' w.heap.size (fun _ => True) v0_ r ∧ Below w.heap.size w w' := by
 have hu108 := Try.underlying108; have HB := az (Below.refl w.heap.size w); have H : (some (([(⟨9, 9, 11⟩ : S108), (⟨32, 32, 12⟩ : S108), (⟨35, 37, 6⟩ : S108), (⟨43, 43, 5⟩ : S108), (⟨44, 44, 8⟩ : S108), (⟨45, 45, 5⟩ : S108), (⟨46, 47, 8⟩ : S108), (⟨48, 57, 4⟩ : S108), (⟨58, 58, 8⟩ : S108), (⟨65, 90, 1⟩ : S108), (⟨97, 122, 1⟩ : S108), (⟨173, 173, 10⟩ : S108), (⟨768, 879, 9⟩ : S108), (⟨1488, 1514, 2⟩ : S108), (⟨1569, 1610, 3⟩ : S108), (⟨1632, 1641, 7⟩ : S108), (⟨8203, 8203, 10⟩ : S108), (⟨8205, 8205, 10⟩ : S108), (⟨8234, 8234, 14⟩ : S108), (⟨8235, 8235, 15⟩ : S108), (⟨8236, 8236, 16⟩ : S108), (⟨8237, 8237, 17⟩ : S108), (⟨8238, 8238, 18⟩ : S108), (⟨8294, 8294, 19⟩ : S108), (⟨8295, 8295, 20⟩ : S108), (⟨8296, 8296, 21⟩ : S108), (⟨8297, 8297, 22⟩ : S108), (⟨19968, 40959, 1⟩ : S108)] : List (S108)))) = some r := h; clear h; obtain ⟨y324, hy324⟩ : ∃ y_ : List (S108), y_ = (([(⟨9, 9, 11⟩ : S108), (⟨32, 32, 12⟩ : S108), (⟨35, 37, 6⟩ : S108), (⟨43, 43, 5⟩ : S108), (⟨44, 44, 8⟩ : S108), (⟨45, 45, 5⟩ : S108), (⟨46, 47, 8⟩ : S108), (⟨48, 57, 4⟩ : S108), (⟨58, 58, 8⟩ : S108), (⟨65, 90, 1⟩ : S108), (⟨97, 122, 1⟩ : S108), (⟨173, 173, 10⟩ : S108), (⟨768, 879, 9⟩ : S108), (⟨1488, 1514, 2⟩ : S108), (⟨1569, 1610, 3⟩ : S108), (⟨1632, 1641, 7⟩ : S108), (⟨8203, 8203, 10⟩ : S108), (⟨8205, 8205, 10⟩ : S108), (⟨8234, 8234, 14⟩ : S108), (⟨8235, 8235, 15⟩ : S108), (⟨8236, 8236, 16⟩ : S108), (⟨8237, 8237, 17⟩ : S108), (⟨8238, 8238, 18⟩ : S108), (⟨8294, 8294, 19⟩ : S108), (⟨8295, 8295, 20⟩ : S108), (⟨8296, 8296, 21⟩ : S108), (⟨8297, 8297, 22⟩ : S108), (⟨19968, 40959, 1⟩ : S108)] : List (S108))) := ⟨_, rfl⟩; replace H : (some y324) = some r := by first | (rw [hy324]; with_reducible exact H) | (have H2_ := (Option.bind_some _ _).symm.trans H; rw [hy324]; with_reducible exact H2_) | (have H2_ := (Option.bind_some _ _).symm.trans H; with_reducible exact H2_) | with_reducible exact H | (rw [hy324]; exact H) | exact H
 have Ny324 := az hy324; clear hy324; obtain rfl := Option.some.inj H; go_enter Try.func96, Try.ntmps96; go_wp2_with (first | ((with_reducible refine gate_dst (N := 29) rfl ?_); refine Kd.R_lit k108 _ 108 ?hg (N := 29) ?hd (xs := ([(⟨9, 9, 11⟩ : S108), (⟨32, 32, 12⟩ : S108), (⟨35, 37, 6⟩ : S108), (⟨43, 43, 5⟩ : S108), (⟨44, 44, 8⟩ : S108), (⟨45, 45, 5⟩ : S108), (⟨46, 47, 8⟩ : S108), (⟨48, 57, 4⟩ : S108), (⟨58, 58, 8⟩ : S108), (⟨65, 90, 1⟩ : S108), (⟨97, 122, 1⟩ : S108), (⟨173, 173, 10⟩ : S108), (⟨768, 879, 9⟩ : S108), (⟨1488, 1514, 2⟩ : S108), (⟨1569, 1610, 3⟩ : S108), (⟨1632, 1641, 7⟩ : S108), (⟨8203, 8203, 10⟩ : S108), (⟨8205, 8205, 10⟩ : S108), (⟨8234, 8234, 14⟩ : S108), (⟨8235, 8235, 15⟩ : S108), (⟨8236, 8236, 16⟩ : S108), (⟨8237, 8237, 17⟩ : S108), (⟨8238, 8238, 18⟩ : S108), (⟨8294, 8294, 19⟩ : S108), (⟨8295, 8295, 20⟩ : S108), (⟨8296, 8296, 21⟩ : S108), (⟨8297, 8297, 22⟩ : S108), (⟨19968, 40959, 1⟩ : S108)] : List (S108))) (inner := [.int .i64 9, .int .i64 9, .int .i64 11, .int .i64 32, .int .i64 32, .int .i64 12, .int .i64 35, .int .i64 37, .int .i64 6, .int .i64 43, .int .i64 43, .int .i64 5, .int .i64 44, .int .i64 44, .int .i64 8, .int .i64 45, .int .i64 45, .int .i64 5, .int .i64 46, .int .i64 47, .int .i64 8, .int .i64 48, .int .i64 57, .int .i64 4, .int .i64 58, .int .i64 58, .int .i64 8, .int .i64 65, .int .i64 90, .int .i64 1, .int .i64 97, .int .i64 122, .int .i64 1, .int .i64 173, .int .i64 173, .int .i64 10, .int .i64 768, .int .i64 879, .int .i64 9, .int .i64 1488, .int .i64 1514, .int .i64 2, .int .i64 1569, .int .i64 1610, .int .i64 3, .int .i64 1632, .int .i64 1641, .int .i64 7, .int .i64 8203, .int .i64 8203, .int .i64 10, .int .i64 8205, .int .i64 8205, .int .i64 10, .int .i64 8234, .int .i64 8234, .int .i64 14, .int .i64 8235, .int .i64 8235, .int .i64 15, .int .i64 8236, .int .i64 8236, .int .i64 16, .int .i64 8237, .int .i64 8237, .int .i64 17, .int .i64 8238, .int .i64 8238, .int .i64 18, .int .i64 8294, .int .i64 8294, .int .i64 19, .int .i64 8295, .int .i64 8295, .int .i64 20, .int .i64 8296, .int .i64 8296, .int .i64 21, .int .i64 8297, .int .i64 8297, .int .i64 22, .int .i64 19968, .int .i64 40959, .int .i64 1]) (ok := fun _ => True) (okp := fun _ => True) ?hr ?hp (fun _ hk => hk) trivial (Below.refl _ _) (Nat.le_refl _) (by simp) ?_; (case hd => rfl); (case hg => rfl); (case hr => first | (go_simp; done) | (go_simp; rfl)); (case hp => exact (Reps.c3 (show Kd.M k108 _ _ _ (⟨9, 9, 11⟩ : S108) [.int .i64 9, .int .i64 9, .int .i64 11] from (k108_mkM _ _ _ (⟨9, 9, 11⟩ : S108) )) (Reps.c3 (show Kd.M k108 _ _ _ (⟨32, 32, 12⟩ : S108) [.int .i64 32, .int .i64 32, .int .i64 12] from (k108_mkM _ _ _ (⟨32, 32, 12⟩ : S108) )) (Reps.c3 (show Kd.M k108 _ _ _ (⟨35, 37, 6⟩ : S108) [.int .i64 35, .int .i64 37, .int .i64 6] from (k108_mkM _ _ _ (⟨35, 37, 6⟩ : S108) )) (Reps.c3 (show Kd.M k108 _ _ _ (⟨43, 43, 5⟩ : S108) [.int .i64 43, .int .i64 43, .int .i64 5] from (k108_mkM _ _ _ (⟨43, 43, 5⟩ : S108) )) (Reps.c3 (show Kd.M k108 _ _ _ (⟨44, 44, 8⟩ : S108) [.int .i64 44, .int .i64 44, .int .i64 8] from (k108_mkM _ _ _ (⟨44, 44, 8⟩ : S108) )) (Reps.c3 (show Kd.M k108 _ _ _ (⟨45, 45, 5⟩ : S108) [.int .i64 45, .int .i64 45, .int .i64 5] from (k108_mkM _ _ _ (⟨45, 45, 5⟩ : S108) )) (Reps.c3 (show Kd.M k108 _ _ _ (⟨46, 47, 8⟩ : S108) [.int .i64 46, .int .i64 47, .int .i64 8] from (k108_mkM _ _ _ (⟨46, 47, 8⟩ : S108) )) (Reps.c3 (show Kd.M k108 _ _ _ (⟨48, 57, 4⟩ : S108) [.int .i64 48, .int .i64 57, .int .i64 4] from (k108_mkM _ _ _ (⟨48, 57, 4⟩ : S108) )) (Reps.c3 (show Kd.M k108 _ _ _ (⟨58, 58, 8⟩ : S108) [.int .i64 58, .int .i64 58, .int .i64 8] from (k108_mkM _ _ _ (⟨58, 58, 8⟩ : S108) )) (Reps.c3 (show Kd.M k108 _ _ _ (⟨65, 90, 1⟩ : S108) [.int .i64 65, .int .i64 90, .int .i64 1] from (k108_mkM _ _ _ (⟨65, 90, 1⟩ : S108) )) (Reps.c3 (show Kd.M k108 _ _ _ (⟨97, 122, 1⟩ : S108) [.int .i64 97, .int .i64 122, .int .i64 1] from (k108_mkM _ _ _ (⟨97, 122, 1⟩ : S108) )) (Reps.c3 (show Kd.M k108 _ _ _ (⟨173, 173, 10⟩ : S108) [.int .i64 173, .int .i64 173, .int .i64 10] from (k108_mkM _ _ _ (⟨173, 173, 10⟩ : S108) )) (Reps.c3 (show Kd.M k108 _ _ _ (⟨768, 879, 9⟩ : S108) [.int .i64 768, .int .i64 879, .int .i64 9] from (k108_mkM _ _ _ (⟨768, 879, 9⟩ : S108) )) (Reps.c3 (show Kd.M k108 _ _ _ (⟨1488, 1514, 2⟩ : S108) [.int .i64 1488, .int .i64 1514, .int .i64 2] from (k108_mkM _ _ _ (⟨1488, 1514, 2⟩ : S108) )) (Reps.c3 (show Kd.M k108 _ _ _ (⟨1569, 1610, 3⟩ : S108) [.int .i64 1569, .int .i64 1610, .int .i64 3] from (k108_mkM _ _ _ (⟨1569, 1610, 3⟩ : S108) )) (Reps.c3 (show Kd.M k108 _ _ _ (⟨1632, 1641, 7⟩ : S108) [.int .i64 1632, .int .i64 1641, .int .i64 7] from (k108_mkM _ _ _ (⟨1632, 1641, 7⟩ : S108) )) (Reps.c3 (show Kd.M k108 _ _ _ (⟨8203, 8203, 10⟩ : S108) [.int .i64 8203, .int .i64 8203, .int .i64 10] from (k108_mkM _ _ _ (⟨8203, 8203, 10⟩ : S108) )) (Reps.c3 (show Kd.M k108 _ _ _ (⟨8205, 8205, 10⟩ : S108) [.int .i64 8205, .int .i64 8205, .int .i64 10] from (k108_mkM _ _ _ (⟨8205, 8205, 10⟩ : S108) )) (Reps.c3 (show Kd.M k108 _ _ _ (⟨8234, 8234, 14⟩ : S108) [.int .i64 8234, .int .i64 8234, .int .i64 14] from (k108_mkM _ _ _ (⟨8234, 8234, 14⟩ : S108) )) (Reps.c3 (show Kd.M k108 _ _ _ (⟨8235, 8235, 15⟩ : S108) [.int .i64 8235, .int .i64 8235, .int .i64 15] from (k108_mkM _ _ _ (⟨8235, 8235, 15⟩ : S108) )) (Reps.c3 (show Kd.M k108 _ _ _ (⟨8236, 8236, 16⟩ : S108) [.int .i64 8236, .int .i64 8236, .int .i64 16] from (k108_mkM _ _ _ (⟨8236, 8236, 16⟩ : S108) )) (Reps.c3 (show Kd.M k108 _ _ _ (⟨8237, 8237, 17⟩ : S108) [.int .i64 8237, .int .i64 8237, .int .i64 17] from (k108_mkM _ _ _ (⟨8237, 8237, 17⟩ : S108) )) (Reps.c3 (show Kd.M k108 _ _ _ (⟨8238, 8238, 18⟩ : S108) [.int .i64 8238, .int .i64 8238, .int .i64 18] from (k108_mkM _ _ _ (⟨8238, 8238, 18⟩ : S108) )) (Reps.c3 (show Kd.M k108 _ _ _ (⟨8294, 8294, 19⟩ : S108) [.int .i64 8294, .int .i64 8294, .int .i64 19] from (k108_mkM _ _ _ (⟨8294, 8294, 19⟩ : S108) )) (Reps.c3 (show Kd.M k108 _ _ _ (⟨8295, 8295, 20⟩ : S108) [.int .i64 8295, .int .i64 8295, .int .i64 20] from (k108_mkM _ _ _ (⟨8295, 8295, 20⟩ : S108) )) (Reps.c3 (show Kd.M k108 _ _ _ (⟨8296, 8296, 21⟩ : S108) [.int .i64 8296, .int .i64 8296, .int .i64 21] from (k108_mkM _ _ _ (⟨8296, 8296, 21⟩ : S108) )) (Reps.c3 (show Kd.M k108 _ _ _ (⟨8297, 8297, 22⟩ : S108) [.int .i64 8297, .int .i64 8297, .int .i64 22] from (k108_mkM _ _ _ (⟨8297, 8297, 22⟩ : S108) )) (Reps.c3 (show Kd.M k108 _ _ _ (⟨19968, 40959, 1⟩ : S108) [.int .i64 19968, .int .i64 40959, .int .i64 1] from (k108_mkM _ _ _ (⟨19968, 40959, 1⟩ : S108) )) (Reps.none _ _)))))))))))))))))))))))))))))); intro v325 w1 ho2 hb hg_ hnew_; clear hg_ hnew_; (first | rw [← Ny324.out] at ho2 | (simp only [Int.reduceToNat] at ho2; rw [← Ny324.out] at ho2)); have n0_ := az (Kd.R_lower ho2 (below_size (by repeat (first | (with_reducible first | exact HB.out | apply below_alloc | apply pw_below_drewN | apply below_drew1) | exact HB.out)))); have n1_ := az (below_step (by repeat (first | (with_reducible first | exact HB.out | apply below_alloc | apply pw_below_drewN | apply below_drew1) | exact HB.out)) hb); clear HB; have HO326 := n0_; have HB := n1_; clear n0_ n1_; clear hb ho2))
 go_ret; exact ⟨_, by first | rfl | (simp [errW_none, errW_some] <;> rfl) | (simp [*, errW_none, errW_some] <;> rfl), by (with_reducible repeat (first | apply Kd.R_alloc | apply Kd.R_drewN | apply Kd.R_drew)); exact HO326.out, by repeat (first | (with_reducible first | exact HB.out | apply below_alloc | apply pw_below_drewN | apply below_drew1) | exact HB.out)⟩
def impl_RuneBidi.f (a0 : Int) : Option (Int) := (impl_bidiReaches.f).bind fun t327 => ((impl_find.f t327 a0 13).bind fun t330 => (some t330))
theorem impl_RuneBidi.calls (a0 : Int) (r : Int) (w : World) (h : impl_RuneBidi.f a0 = some r) :
  Calls Try.prog 75 #[.int .i64 a0] w fun e w' => e = .returned (.int .i64 r) ∧ Below w.heap.size w w' := by
 have HB := az (Below.refl w.heap.size w); have H : ((impl_bidiReaches.f).bind fun t327 => ((impl_find.f t327 a0 13).bind fun t330 => (some t330))) = some r := h; clear h; replace H := Option.bind_eq_some_iff.mp H; obtain ⟨t327, A20, H⟩ := H; replace H : ((impl_find.f t327 a0 13).bind fun t330 => (some t330)) = some r := H; have A2 := az A20; clear A20; replace H := Option.bind_eq_some_iff.mp H; obtain ⟨t330, A30, H⟩ := H; replace H : (some t330) = some r := H; have A3 := az A30; clear A30; obtain rfl := Option.some.inj H; go_enter Try.func75, Try.ntmps75; go_wp2_with (first | ((with_reducible refine gate_callee (f := 96) rfl ?_); refine goesL_ (some 3) rfl rfl Try.func96 (by kernel_rfl) rfl #[] rfl (by (try simp only [List.map_toArray, List.map_cons, List.map_nil]); first | done | rfl) ?_; (with_reducible refine (impl_bidiReaches.calls  t327 _ A2.out).mono ?_); rintro e w4 ⟨v328, rfl, ho0, hb⟩; refine ⟨_, rfl, ?_⟩; have n0_ := az (Kd.R_lower ho0 (below_size (by repeat (first | (with_reducible first | exact HB.out | apply below_alloc | apply pw_below_drewN | apply below_drew1) | exact HB.out)))); have n1_ := az (below_step (by repeat (first | (with_reducible first | exact HB.out | apply below_alloc | apply pw_below_drewN | apply below_drew1) | exact HB.out)) hb); clear HB; have HO329 := n0_; have HB := n1_; clear n0_ n1_; (try clear hb); (try clear hb2); (try clear hk); (try clear hi); (try clear ho0); obtain ⟨Ao5, co5, eo5⟩ := Kd.R_slice HO329.out; subst eo5) | ((with_reducible refine gate_callee (f := 95) rfl ?_); refine goesL_ (some 5) rfl rfl Try.func95 (by kernel_rfl) rfl #[.slice Ao5 t327.length co5, .int .i64 a0, .int .i64 13] rfl (by (try simp only [List.map_toArray, List.map_cons, List.map_nil]); first | done | rfl) ?_; (with_reducible refine (impl_find.calls _ _ t327 a0 13 t330 _ ?side1 ?side2 A3.out).mono ?_); (case side1 => repeat (first | exact (Kd.R_reads' HO329.out).2.2 | (with_reducible refine Kd.C_alloc ?_ _) | (with_reducible refine Kd.C_drewN ?_ _) | (with_reducible refine Kd.C_drew ?_))); (case side2 => exact (Kd.R_reads' HO329.out).2.1); rintro e w6 ⟨rfl, hb⟩; refine ⟨_, rfl, ?_⟩; have n0_ := az (Kd.R_below (by (with_reducible repeat (first | apply Kd.R_alloc | apply Kd.R_drewN | apply Kd.R_drew)); exact HO329.out) hb); have n1_ := az (below_step (by repeat (first | (with_reducible first | exact HB.out | apply below_alloc | apply pw_below_drewN | apply below_drew1) | exact HB.out)) hb); clear HO329; clear HB; have HO329 := n0_; have HB := n1_; clear n0_ n1_; (try clear hb); (try clear hb2); (try clear hk); (try clear hi))); go_ret; exact ⟨by first | rfl | (simp [errW_none, errW_some] <;> rfl) | (simp [*, errW_none, errW_some] <;> rfl), by repeat (first | (with_reducible first | exact HB.out | apply below_alloc | apply pw_below_drewN | apply below_drew1) | exact HB.out)⟩
end Go.Proofs.Ytojehfdioeglgaa.S
