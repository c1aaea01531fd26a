/- Of drawn letters, spans, a width and a way: a line that is too wide is one cluster; one that ends within a word ends with a cluster, and the word has no room on it; the lines are the reference's. No condition beyond the statement's own. (text 6 of 7 of this claim: functions of the program and of the reference as plain Lean functions, what a call of each comes to, and what follows.) -/
import Derived.Test.YtmcdcogedcbndaaGreatZFnFillForcedA0
import Derived.Test.YtmcdcogedcbndaaGreatZFnFillForcedA4
import Derived.Test.YtmcdcogedcbndaaGreatZFnFillForcedA1
set_option maxHeartbeats 16000000
set_option maxRecDepth 100000
set_option linter.unusedVariables false
set_option linter.unusedSimpArgs false
namespace Go.Proofs.YtmcdcogedcbndaaGreat.S
open Go.RowKit Go.Proofs.YtmcdcogedcbndaaGreatW.PrintWords Go.Proofs.YtmcdcogedcbndaaGreatW.PrintLast
set_option linter.unusedVariables false
set_option linter.unusedSimpArgs false
def spec_l1Rd_pick.j0 : Nat → Int → Bool → List Int → Int → Option (Int × Int)
 | 0, _, _, _, _ => none
 | k + 1, x1, x24, x1000, x1001 => if x24 = true then (some (0, x1001)) else (if (wrap64 (x1001 - 1)) < (x1000.length : Int) then (if 0 ≤ (wrap64 (x1001 - 1)) then (if x1 = 0 then (none) else (some (Int.tmod (wrap64 (rd x1000 (wrap64 (x1001 - 1)))) x1, x1001))) else (none)) else (if (x1000.length : Int) = 0 then (none) else (if 0 ≤ (Int.tmod (wrap64 (x1001 - 1)) (x1000.length : Int)) then (if (Int.tmod (wrap64 (x1001 - 1)) (x1000.length : Int)) < (x1000.length : Int) then (if 0 ≤ (Int.tmod (wrap64 ((wrap64 ((wrap64 (x1001 - 1)) * 7)) + 3)) (x1000.length : Int)) then (if (Int.tmod (wrap64 ((wrap64 ((wrap64 (x1001 - 1)) * 7)) + 3)) (x1000.length : Int)) < (x1000.length : Int) then (if x1 = 0 then (none) else (some (Int.tmod (Go.bits .xor .i64 (wrap64 ((wrap64 ((wrap64 ((wrap64 ((wrap64 (rd x1000 (Int.tmod (wrap64 (x1001 - 1)) (x1000.length : Int)))) * 131)) + (wrap64 ((wrap64 (rd x1000 (Int.tmod (wrap64 ((wrap64 ((wrap64 (x1001 - 1)) * 7)) + 3)) (x1000.length : Int)))) * 1117)))) + (wrap64 ((wrap64 (x1001 - 1)) * 29)))) + (wrap64 ((wrap64 (Int.tdiv (wrap64 (x1001 - 1)) (x1000.length : Int))) * 53)))) (wrap64 (Int.tdiv (wrap64 ((wrap64 ((wrap64 ((wrap64 ((wrap64 (rd x1000 (Int.tmod (wrap64 (x1001 - 1)) (x1000.length : Int)))) * 131)) + (wrap64 ((wrap64 (rd x1000 (Int.tmod (wrap64 ((wrap64 ((wrap64 (x1001 - 1)) * 7)) + 3)) (x1000.length : Int)))) * 1117)))) + (wrap64 ((wrap64 (x1001 - 1)) * 29)))) + (wrap64 ((wrap64 (Int.tdiv (wrap64 (x1001 - 1)) (x1000.length : Int))) * 53)))) 64))) x1, x1001))) else (none)) else (none)) else (none)) else (none))))
def spec_l1Rd_pick.f (k : Nat) (s0_0 : List Int) (s0_1 : Int) (a1 : Int) : Option (Int × Int) := if a1 < 1 then (spec_l1Rd_pick.j0 k a1 true s0_0 (wrap64 (s0_1 + 1))) else (spec_l1Rd_pick.j0 k a1 ((s0_0.length : Int) == 0) s0_0 (wrap64 (s0_1 + 1)))
theorem spec_l1Rd_pick.mono_l : ∀ k, (∀ y0 y1 y2 y3, LeO (spec_l1Rd_pick.j0 k y0 y1 y2 y3) (spec_l1Rd_pick.j0 (k + 1) y0 y1 y2 y3))
 | 0 => fun _ _ _ _ r h => by simp [spec_l1Rd_pick.j0] at h
 | k + 1 => by
  have ih0 := spec_l1Rd_pick.mono_l k
  ·
   intro y0 y1 y2 y3; unfold spec_l1Rd_pick.j0
   repeat' first
   | (with_reducible exact ih0 _ _ _ _)
   | (with_reducible exact LeO.refl _)
   | (with_reducible exact LeO.none _)
   | (with_reducible refine LeO.ite ?_ ?_)
   | (with_reducible refine LeO.bind ?_ (fun _ => ?_))
   | exact ih0 _ _ _ _
   | exact LeO.none _
   | refine LeO.ite ?_ ?_
   | refine LeO.bind ?_ (fun _ => ?_)
theorem spec_l1Rd_pick.mono : ∀ a0 a1 a2 k, LeO (spec_l1Rd_pick.f k a0 a1 a2) (spec_l1Rd_pick.f (k + 1) a0 a1 a2) := by
 intro a0 a1 a2 k; have ih0 := spec_l1Rd_pick.mono_l k; unfold spec_l1Rd_pick.f
 repeat' first
   | (with_reducible exact ih0 _ _ _ _)
   | (with_reducible exact LeO.refl _)
   | (with_reducible exact LeO.none _)
   | (with_reducible refine LeO.ite ?_ ?_)
   | (with_reducible refine LeO.bind ?_ (fun _ => ?_))
   | exact ih0 _ _ _ _
   | exact LeO.none _
   | refine LeO.ite ?_ ?_
   | refine LeO.bind ?_ (fun _ => ?_)
theorem spec_l1Rd_pick.calls (k : Nat) (g : Nat) (s0_0 : List Int) (s0_1 : Int) (a1 : Int) (r1 : Int) (r2 : Int) (w0 w : World) (hI : IsS86 w0 w g s0_0 s0_1) (hB : Below w0.heap.size w0 w) (h : spec_l1Rd_pick.f k s0_0 s0_1 a1 = some (r1, r2)) :
  Calls Tryz.prog 47 #[.pointer (some ⟨g, 0, none⟩), .int .i64 a1] w fun e w' => e = .returned (.int .i64 r1) ∧ IsS86 w0 w' g s0_0 r2 ∧ Below w0.heap.size w0 w' ∧ KeepBut w w' g none := by
 have HI0 := az hI; have HK := az (KeepBut.refl w g none); have HL := az hB.size; clear hI; have HW0 := az hB.size; have HB := az hB; clear hB; have H : (if a1 < 1 then (spec_l1Rd_pick.j0 k a1 true s0_0 (wrap64 (s0_1 + 1))) else (spec_l1Rd_pick.j0 k a1 ((s0_0.length : Int) == 0) s0_0 (wrap64 (s0_1 + 1)))) = some (r1, r2) := h; clear h; have HC3 := az H; clear H; obtain ⟨ASz4_0, cSz4_0, HGz4, hgz4, HSz4_0⟩ := HI0.out; have hcz4_0 := cellS86_0 HGz4; have hcz4_1 := cellS86_1 HGz4; have hfz4_1 := blk_frozen HGz4 1; clear HGz4 hgz4; go_enter Tryz.func47, Tryz.ntmps47; go_upto_region 2 with (fail)
 repeat (go_quiet (fail); go_upto_region 2 with (fail))
 go_cut [24] (fun v24 wc => ∃ (kq : Nat) (x24_2 : Bool), v24 = .bool x24_2 ∧ Aside0 (spec_l1Rd_pick.j0 kq a1 x24_2 s0_0 (wrap64 (s0_1 + 1)) = some (r1, r2)) ∧ Aside0 (kq ≤ k) ∧ Aside0 (IsS86 w0 wc g s0_0 (wrap64 (s0_1 + 1))) ∧ Aside0 (KeepBut w wc g none) ∧ Aside0 (Below w0.heap.size w0 wc))
 case first =>
  have H := HC3.out; clear HC3; by_cases c5 : a1 < 1
  ·
   rw [if_pos c5] at H; have c5b0 : decide (a1 < 1) = true := decide_eq_true c5; clear c5; (first | rw [c5b0] | (simp only [i64_w, i32_w]; rw [c5b0]) | skip); have H' := az H; clear H; go_wp2; repeat (go_quiet (fail); try go_wp2)
   go_meet
   case rel => exact ⟨_, (true), zB, H', ⟨zI⟩, ⟨by repeat (first | (with_reducible first | exact HI0.out | apply IsS86.alloc | apply IsS86.drewN | apply IsS86.drew | apply IsS86.set_1) | exact HI0.out)⟩, ⟨by repeat (first | (with_reducible first | exact HK.out | apply KeepBut.set_ | apply keep_drewN | apply keep_drew | apply keep_alloc) | exact HK.out)⟩, ⟨zT HB.out HI0.out⟩⟩
  ·
   rw [if_neg c5] at H; have c5b0 : decide (a1 < 1) = false := decide_eq_false c5; clear c5; (first | rw [c5b0] | (simp only [i64_w, i32_w]; rw [c5b0]) | skip); have H' := az H; clear H; obtain ⟨ASz6_0, cSz6_0, HGz6, hgz6, HSz6_0⟩ := HI0.out; have hcz6_0 := cellS86_0 HGz6; have hcz6_1 := cellS86_1 HGz6; have hfz6_1 := blk_frozen HGz6 1; clear HGz6 hgz6; go_wp2; repeat (go_quiet (fail); try go_wp2)
   go_meet
   case rel => exact ⟨_, (((s0_0.length : Int) == 0)), zB, H', ⟨zI⟩, ⟨by repeat (first | (with_reducible first | exact HI0.out | apply IsS86.alloc | apply IsS86.drewN | apply IsS86.drew | apply IsS86.set_1) | exact HI0.out)⟩, ⟨by repeat (first | (with_reducible first | exact HK.out | apply KeepBut.set_ | apply keep_drewN | apply keep_drew | apply keep_alloc) | exact HK.out)⟩, ⟨zT HB.out HI0.out⟩⟩
 case rest =>
  clear HC3; (try clear p2); (try clear c4); (try clear c5); (try clear c5b0); (try clear p6); (try clear hcz4_0); (try clear hcz4_1); (try clear hcz6_0); (try clear hcz6_1); (try clear hfz4_1); (try clear hfz6_1); obtain ⟨kq, x24_2, rfl, HA, HJ2, HI0, HK, HB⟩ := hcut
  cases kq with
  | zero => exact absurd HA.out (by simp [spec_l1Rd_pick.j0])
  | succ kj2 =>
   have H := HA.out; clear HA; simp only [spec_l1Rd_pick.j0] at H; by_cases c7 : x24_2 = true
   ·
    subst c7; have H1 : (some (0, (wrap64 (s0_1 + 1)))) = some (r1, r2) := by rw [if_pos rfl] at H; exact H
    clear H; have H := H1; clear H1; simp only [Option.some.injEq, Prod.mk.injEq] at H; obtain ⟨rfl, rfl⟩ := H; go_wp2; repeat (go_quiet (fail); try go_wp2)
    go_ret; exact ⟨zG, by repeat (first | (with_reducible first | exact HI0.out | apply IsS86.alloc | apply IsS86.drewN | apply IsS86.drew | apply IsS86.set_1) | exact HI0.out), zT HB.out HI0.out, by repeat (first | (with_reducible first | exact HK.out | apply KeepBut.set_ | apply keep_drewN | apply keep_drew | apply keep_alloc) | exact HK.out)⟩
   ·
    replace c7 := Bool.eq_false_iff.mpr c7; subst c7; have H1 : (if (wrap64 ((wrap64 (s0_1 + 1)) - 1)) < (s0_0.length : Int) then (if 0 ≤ (wrap64 ((wrap64 (s0_1 + 1)) - 1)) then (if a1 = 0 then (none) else (some (Int.tmod (wrap64 (rd s0_0 (wrap64 ((wrap64 (s0_1 + 1)) - 1)))) a1, (wrap64 (s0_1 + 1))))) else (none)) else (if (s0_0.length : Int) = 0 then (none) else (if 0 ≤ (Int.tmod (wrap64 ((wrap64 (s0_1 + 1)) - 1)) (s0_0.length : Int)) then (if (Int.tmod (wrap64 ((wrap64 (s0_1 + 1)) - 1)) (s0_0.length : Int)) < (s0_0.length : Int) then (if 0 ≤ (Int.tmod (wrap64 ((wrap64 ((wrap64 ((wrap64 (s0_1 + 1)) - 1)) * 7)) + 3)) (s0_0.length : Int)) then (if (Int.tmod (wrap64 ((wrap64 ((wrap64 ((wrap64 (s0_1 + 1)) - 1)) * 7)) + 3)) (s0_0.length : Int)) < (s0_0.length : Int) then (if a1 = 0 then (none) else (some (Int.tmod (Go.bits .xor .i64 (wrap64 ((wrap64 ((wrap64 ((wrap64 ((wrap64 (rd s0_0 (Int.tmod (wrap64 ((wrap64 (s0_1 + 1)) - 1)) (s0_0.length : Int)))) * 131)) + (wrap64 ((wrap64 (rd s0_0 (Int.tmod (wrap64 ((wrap64 ((wrap64 ((wrap64 (s0_1 + 1)) - 1)) * 7)) + 3)) (s0_0.length : Int)))) * 1117)))) + (wrap64 ((wrap64 ((wrap64 (s0_1 + 1)) - 1)) * 29)))) + (wrap64 ((wrap64 (Int.tdiv (wrap64 ((wrap64 (s0_1 + 1)) - 1)) (s0_0.length : Int))) * 53)))) (wrap64 (Int.tdiv (wrap64 ((wrap64 ((wrap64 ((wrap64 ((wrap64 (rd s0_0 (Int.tmod (wrap64 ((wrap64 (s0_1 + 1)) - 1)) (s0_0.length : Int)))) * 131)) + (wrap64 ((wrap64 (rd s0_0 (Int.tmod (wrap64 ((wrap64 ((wrap64 ((wrap64 (s0_1 + 1)) - 1)) * 7)) + 3)) (s0_0.length : Int)))) * 1117)))) + (wrap64 ((wrap64 ((wrap64 (s0_1 + 1)) - 1)) * 29)))) + (wrap64 ((wrap64 (Int.tdiv (wrap64 ((wrap64 (s0_1 + 1)) - 1)) (s0_0.length : Int))) * 53)))) 64))) a1, (wrap64 (s0_1 + 1))))) else (none)) else (none)) else (none)) else (none)))) = some (r1, r2) := by rw [if_neg (show ¬ (false = true) by decide)] at H; exact H
    clear H; have H := H1; clear H1; by_cases c8 : (wrap64 ((wrap64 (s0_1 + 1)) - 1)) < (s0_0.length : Int)
    ·
     rw [if_pos c8] at H; have c8b0 : decide ((wrap64 ((wrap64 (s0_1 + 1)) - 1)) < (s0_0.length : Int)) = true := decide_eq_true c8; clear c8; obtain ⟨ji9, hji9⟩ : ∃ j_ : Int, (wrap64 ((wrap64 (s0_1 + 1)) - 1)) = j_ := ⟨_, rfl⟩; replace H : (if 0 ≤ (ji9) then (if a1 = 0 then (none) else (some (Int.tmod (wrap64 (rd s0_0 (ji9))) a1, (wrap64 (s0_1 + 1))))) else (none)) = some (r1, r2) := by first | (rw [hji9] at H; exact H) | (simp only [hji9] at H ⊢; exact H)
     (try rw [hji9] at c8b0); have hji9w : (IntKind.i64.wrap ((wrap64 (s0_1 + 1)) - 1)) = ji9 := (i64_w _).trans hji9; by_cases c10 : 0 ≤ (ji9)
     ·
      rw [if_pos c10] at H; have c10b0 : decide (0 ≤ (ji9)) = true := decide_eq_true c10; clear c10; by_cases c11 : a1 = 0
      ·
       rw [if_pos c11] at H; exact absurd H (by simp)
      ·
       rw [if_neg c11] at H; have c11b0 : (a1 == 0) = false := beq_eq_false_iff_ne.mpr c11; have c11b1 : (a1 != 0) = true := bne_iff_ne.mpr c11; simp only [Option.some.injEq, Prod.mk.injEq] at H; obtain ⟨rfl, rfl⟩ := H; obtain ⟨ASz12_0, cSz12_0, HGz12, hgz12, HSz12_0⟩ := HI0.out; have hcz12_0 := cellS86_0 HGz12; have hcz12_1 := cellS86_1 HGz12; have hfz12_1 := blk_frozen HGz12 1; clear HGz12 hgz12; have p421 : 0 ≤ ((ji9) : Int) := of_decide_eq_true (by assumption); have q421 : (ji9) < (s0_0.length : Int) := of_decide_eq_true (by assumption); obtain ⟨ad421, e421, hx421_0⟩ := Kd.at_int HSz12_0 (ji9) p421 q421
       cases e421
       replace hx421_0 := pw_cell_below HB.out hx421_0; replace p421 := eq_true p421; replace q421 := eq_true q421; go_wp2; repeat (go_quiet (fail); try go_wp2)
       go_ret; exact ⟨by first | rfl | (simp [errW_none, errW_some] <;> rfl) | (simp only [← hji9]; first | rfl | (simp [errW_none, errW_some] <;> rfl)) | (simp [*, errW_none, errW_some] <;> rfl), by repeat (first | (with_reducible first | exact HI0.out | apply IsS86.alloc | apply IsS86.drewN | apply IsS86.drew | apply IsS86.set_1) | exact HI0.out), zT HB.out HI0.out, by repeat (first | (with_reducible first | exact HK.out | apply KeepBut.set_ | apply keep_drewN | apply keep_drew | apply keep_alloc) | exact HK.out)⟩
     ·
      rw [if_neg c10] at H; exact absurd H (by simp)
    ·
     rw [if_neg c8] at H; have c8b0 : decide ((wrap64 ((wrap64 (s0_1 + 1)) - 1)) < (s0_0.length : Int)) = false := decide_eq_false c8; clear c8; by_cases c13 : (s0_0.length : Int) = 0
     ·
      rw [if_pos c13] at H; exact absurd H (by simp)
     ·
      rw [if_neg c13] at H; have c13b0 : ((s0_0.length : Int) == 0) = false := beq_eq_false_iff_ne.mpr c13; have c13b1 : ((s0_0.length : Int) != 0) = true := bne_iff_ne.mpr c13; have c13b2 : ¬ (s0_0 = []) := fun h_ => c13 (by rw [h_]; rfl)
      obtain ⟨ji14, hji14⟩ : ∃ j_ : Int, (Int.tmod (wrap64 ((wrap64 (s0_1 + 1)) - 1)) (s0_0.length : Int)) = j_ := ⟨_, rfl⟩; replace H : (if 0 ≤ (ji14) then (if (ji14) < (s0_0.length : Int) then (if 0 ≤ (Int.tmod (wrap64 ((wrap64 ((wrap64 ((wrap64 (s0_1 + 1)) - 1)) * 7)) + 3)) (s0_0.length : Int)) then (if (Int.tmod (wrap64 ((wrap64 ((wrap64 ((wrap64 (s0_1 + 1)) - 1)) * 7)) + 3)) (s0_0.length : Int)) < (s0_0.length : Int) then (if a1 = 0 then (none) else (some (Int.tmod (Go.bits .xor .i64 (wrap64 ((wrap64 ((wrap64 ((wrap64 ((wrap64 (rd s0_0 (ji14))) * 131)) + (wrap64 ((wrap64 (rd s0_0 (Int.tmod (wrap64 ((wrap64 ((wrap64 ((wrap64 (s0_1 + 1)) - 1)) * 7)) + 3)) (s0_0.length : Int)))) * 1117)))) + (wrap64 ((wrap64 ((wrap64 (s0_1 + 1)) - 1)) * 29)))) + (wrap64 ((wrap64 (Int.tdiv (wrap64 ((wrap64 (s0_1 + 1)) - 1)) (s0_0.length : Int))) * 53)))) (wrap64 (Int.tdiv (wrap64 ((wrap64 ((wrap64 ((wrap64 ((wrap64 (rd s0_0 (ji14))) * 131)) + (wrap64 ((wrap64 (rd s0_0 (Int.tmod (wrap64 ((wrap64 ((wrap64 ((wrap64 (s0_1 + 1)) - 1)) * 7)) + 3)) (s0_0.length : Int)))) * 1117)))) + (wrap64 ((wrap64 ((wrap64 (s0_1 + 1)) - 1)) * 29)))) + (wrap64 ((wrap64 (Int.tdiv (wrap64 ((wrap64 (s0_1 + 1)) - 1)) (s0_0.length : Int))) * 53)))) 64))) a1, (wrap64 (s0_1 + 1))))) else (none)) else (none)) else (none)) else (none)) = some (r1, r2) := by first | (rw [hji14] at H; exact H) | (simp only [hji14] at H ⊢; exact H)
      by_cases c15 : 0 ≤ (ji14)
      ·
       rw [if_pos c15] at H; have c15b0 : decide (0 ≤ (ji14)) = true := decide_eq_true c15; clear c15; by_cases c16 : (ji14) < (s0_0.length : Int)
       ·
        rw [if_pos c16] at H; have c16b0 : decide ((ji14) < (s0_0.length : Int)) = true := decide_eq_true c16; clear c16; obtain ⟨ji17, hji17⟩ : ∃ j_ : Int, (Int.tmod (wrap64 ((wrap64 ((wrap64 ((wrap64 (s0_1 + 1)) - 1)) * 7)) + 3)) (s0_0.length : Int)) = j_ := ⟨_, rfl⟩; replace H : (if 0 ≤ (ji17) then (if (ji17) < (s0_0.length : Int) then (if a1 = 0 then (none) else (some (Int.tmod (Go.bits .xor .i64 (wrap64 ((wrap64 ((wrap64 ((wrap64 ((wrap64 (rd s0_0 (ji14))) * 131)) + (wrap64 ((wrap64 (rd s0_0 (ji17))) * 1117)))) + (wrap64 ((wrap64 ((wrap64 (s0_1 + 1)) - 1)) * 29)))) + (wrap64 ((wrap64 (Int.tdiv (wrap64 ((wrap64 (s0_1 + 1)) - 1)) (s0_0.length : Int))) * 53)))) (wrap64 (Int.tdiv (wrap64 ((wrap64 ((wrap64 ((wrap64 ((wrap64 (rd s0_0 (ji14))) * 131)) + (wrap64 ((wrap64 (rd s0_0 (ji17))) * 1117)))) + (wrap64 ((wrap64 ((wrap64 (s0_1 + 1)) - 1)) * 29)))) + (wrap64 ((wrap64 (Int.tdiv (wrap64 ((wrap64 (s0_1 + 1)) - 1)) (s0_0.length : Int))) * 53)))) 64))) a1, (wrap64 (s0_1 + 1))))) else (none)) else (none)) = some (r1, r2) := by first | (rw [hji17] at H; exact H) | (simp only [hji17] at H ⊢; exact H)
        by_cases c18 : 0 ≤ (ji17)
        ·
         rw [if_pos c18] at H; have c18b0 : decide (0 ≤ (ji17)) = true := decide_eq_true c18; clear c18; by_cases c19 : (ji17) < (s0_0.length : Int)
         ·
          rw [if_pos c19] at H; have c19b0 : decide ((ji17) < (s0_0.length : Int)) = true := decide_eq_true c19; clear c19; by_cases c20 : a1 = 0
          ·
           rw [if_pos c20] at H; exact absurd H (by simp)
          ·
           rw [if_neg c20] at H; have c20b0 : (a1 == 0) = false := beq_eq_false_iff_ne.mpr c20; have c20b1 : (a1 != 0) = true := bne_iff_ne.mpr c20; simp only [Option.some.injEq, Prod.mk.injEq] at H; obtain ⟨rfl, rfl⟩ := H; obtain ⟨ASz21_0, cSz21_0, HGz21, hgz21, HSz21_0⟩ := HI0.out; have hcz21_0 := cellS86_0 HGz21; have hcz21_1 := cellS86_1 HGz21; have hfz21_1 := blk_frozen HGz21 1; clear HGz21 hgz21; have p422 : 0 ≤ ((ji14) : Int) := of_decide_eq_true (by assumption); have q422 : (ji14) < (s0_0.length : Int) := of_decide_eq_true (by assumption); obtain ⟨ad422, e422, hx422_0⟩ := Kd.at_int HSz21_0 (ji14) p422 q422
           cases e422
           replace hx422_0 := pw_cell_below HB.out hx422_0; replace p422 := eq_true p422; replace q422 := eq_true q422; have p423 : 0 ≤ ((ji17) : Int) := of_decide_eq_true (by assumption); have q423 : (ji17) < (s0_0.length : Int) := of_decide_eq_true (by assumption); obtain ⟨ad423, e423, hx423_0⟩ := Kd.at_int HSz21_0 (ji17) p423 q423; obtain rfl : ad422 = ad423 := (by injection e423); replace hx423_0 := pw_cell_below HB.out hx423_0; replace p423 := eq_true p423; replace q423 := eq_true q423; go_wp2; repeat (go_quiet (fail); try go_wp2)
           go_ret; exact ⟨by first | rfl | (simp [errW_none, errW_some] <;> rfl) | (simp only [← hji14, ← hji17]; first | rfl | (simp [errW_none, errW_some] <;> rfl)) | (simp [*, errW_none, errW_some] <;> rfl), by repeat (first | (with_reducible first | exact HI0.out | apply IsS86.alloc | apply IsS86.drewN | apply IsS86.drew | apply IsS86.set_1) | exact HI0.out), zT HB.out HI0.out, by repeat (first | (with_reducible first | exact HK.out | apply KeepBut.set_ | apply keep_drewN | apply keep_drew | apply keep_alloc) | exact HK.out)⟩
         ·
          rw [if_neg c19] at H; exact absurd H (by simp)
        ·
         rw [if_neg c18] at H; exact absurd H (by simp)
       ·
        rw [if_neg c16] at H; exact absurd H (by simp)
      ·
       rw [if_neg c15] at H; exact absurd H (by simp)
def spec_l1Rd_one.f (k : Nat) (s0_0 : List Int) (s0_1 : Int) (l1 : List Int) : Option (Int × Int) := (spec_l1Rd_pick.f k s0_0 s0_1 (l1.length : Int)).bind fun bt424 => (if 0 ≤ bt424.1 then (if bt424.1 < (l1.length : Int) then (some (rd l1 bt424.1, bt424.2)) else (none)) else (none))
theorem spec_l1Rd_one.mono : ∀ a0 a1 a2 k, LeO (spec_l1Rd_one.f k a0 a1 a2) (spec_l1Rd_one.f (k + 1) a0 a1 a2) := by
 intro a0 a1 a2 k; unfold spec_l1Rd_one.f
 repeat' first
   | (with_reducible exact spec_l1Rd_pick.mono _ _ _ _)
   | (with_reducible exact LeO.refl _)
   | (with_reducible exact LeO.none _)
   | (with_reducible refine LeO.ite ?_ ?_)
   | (with_reducible refine LeO.bind ?_ (fun _ => ?_))
   | exact spec_l1Rd_pick.mono _ _ _ _
   | exact LeO.none _
   | refine LeO.ite ?_ ?_
   | refine LeO.bind ?_ (fun _ => ?_)
theorem spec_l1Rd_one.calls (k : Nat) (g : Nat) (s0_0 : List Int) (s0_1 : Int) (A1 : Option Addr) (c1 : Nat) (l1 : List Int) (r1 : Int) (r2 : Int) (w0 w : World) (hI : IsS86 w0 w g s0_0 s0_1) (hB : Below w0.heap.size w0 w) (hr1 : Kd.C (Kd.int .i64) w A1 l1.length l1) (hc1 : l1.length ≤ c1) (hf1 : ∀ ad, A1 = some ad → 0 < l1.length → ad.block ≠ g) (h : spec_l1Rd_one.f k s0_0 s0_1 l1 = some (r1, r2)) :
  Calls Tryz.prog 73 #[.pointer (some ⟨g, 0, none⟩), .slice A1 l1.length c1] w fun e w' => e = .returned (.int .i64 r1) ∧ IsS86 w0 w' g s0_0 r2 ∧ Below w0.heap.size w0 w' ∧ KeepBut w w' g none := by
 have HR1 := az hr1; have HC1 := az hc1; clear hr1 hc1; have HI0 := az hI; have HK := az (KeepBut.refl w g none); have HL := az hB.size; clear hI; have HW0 := az hB.size; have HB := az hB; clear hB; have H : ((spec_l1Rd_pick.f k s0_0 s0_1 (l1.length : Int)).bind fun bt424 => (if 0 ≤ bt424.1 then (if bt424.1 < (l1.length : Int) then (some (rd l1 bt424.1, bt424.2)) else (none)) else (none))) = some (r1, r2) := h; clear h; replace H := Option.bind_eq_some_iff.mp H; obtain ⟨⟨t424, t425⟩, A30, H⟩ := H; replace H : (if 0 ≤ t424 then (if t424 < (l1.length : Int) then (some (rd l1 t424, t425)) else (none)) else (none)) = some (r1, r2) := H; have A3 := az A30; clear A30; by_cases c4 : 0 ≤ t424
 ·
  rw [if_pos c4] at H; have c4b0 : decide (0 ≤ t424) = true := decide_eq_true c4; clear c4; by_cases c5 : t424 < (l1.length : Int)
  ·
   rw [if_pos c5] at H; have c5b0 : decide (t424 < (l1.length : Int)) = true := decide_eq_true c5; clear c5; simp only [Option.some.injEq, Prod.mk.injEq] at H; obtain ⟨rfl, rfl⟩ := H; go_enter Tryz.func73, Tryz.ntmps73; go_wp2_with (first | ((with_reducible refine gate_callee (f := 47) rfl ?_); refine goesL_ (some 9) rfl rfl Tryz.func47 (by kernel_rfl) rfl #[.pointer (some ⟨g, 0, none⟩), .int .i64 (l1.length : Int)] rfl zC ?_; (with_reducible refine (spec_l1Rd_pick.calls k g s0_0 s0_1 (l1.length : Int) t424 t425 w0 _ ?side1 ?side2 A3.out).mono ?_); (case side1 => exact (by repeat (first | (with_reducible first | exact HI0.out | apply IsS86.alloc | apply IsS86.drewN | apply IsS86.drew | apply IsS86.set_1) | exact HI0.out))); (case side2 => exact (zT HB.out HI0.out)); rintro e w6 ⟨rfl, hi, hb, hk⟩; refine ⟨_, rfl, ?_⟩; have n0_ := az (KeepBut.trans (by repeat (first | (with_reducible first | exact HK.out | apply KeepBut.set_ | apply keep_drewN | apply keep_drew | apply keep_alloc) | exact HK.out)) hk (.inl rfl)); have n1_ := az (hb); have n2_ := az (hi); clear HK; clear HB; clear HI0; have HK := n0_; have HB := n1_; have HI0 := n2_; clear n0_ n1_ n2_; (try clear hb); (try clear hb2); (try clear hk); (try clear hi); have p426 : 0 ≤ (t424 : Int) := of_decide_eq_true (by assumption); have q426 : t424 < (l1.length : Int) := of_decide_eq_true (by assumption); obtain ⟨ad426, e426, hx426_0⟩ := Kd.at_int HR1.out t424 p426 q426; cases e426; replace hx426_0 := keep_cell HK.out hx426_0 (by first | (rw [add_block]; exact hf1 _ rfl (by omega)) | exact hf1 _ rfl (by omega) | exact hf1 ad426 rfl (by omega)); replace p426 := eq_true p426; replace q426 := eq_true q426)); go_ret; exact ⟨zG, by repeat (first | (with_reducible first | exact HI0.out | apply IsS86.alloc | apply IsS86.drewN | apply IsS86.drew | apply IsS86.set_1) | exact HI0.out), zT HB.out HI0.out, by repeat (first | (with_reducible first | exact HK.out | apply KeepBut.set_ | apply keep_drewN | apply keep_drew | apply keep_alloc) | exact HK.out)⟩
  ·
   rw [if_neg c5] at H; exact absurd H (by simp)
 ·
  rw [if_neg c4] at H; exact absurd H (by simp)
theorem dw64 {x : Int} (h0 : -9223372036854775808 ≤ x) (h1 : x ≤ 9223372036854775807) : wrap64 x = x := by unfold wrap64; omega
theorem dxor {x y : Int} (hx : 0 ≤ x) (hx' : x < 4611686018427387904) (hy : 0 ≤ y) (hy' : y < 4611686018427387904) : 0 ≤ Go.bits .xor .i64 x y := by
 obtain ⟨a, rfl⟩ : ∃ a : Nat, x = (a : Int) := ⟨x.toNat, by omega⟩
 obtain ⟨b, rfl⟩ : ∃ b : Nat, y = (b : Int) := ⟨y.toNat, by omega⟩
 have e : (BitVec.ofInt 64 (a : Int) ^^^ BitVec.ofInt 64 (b : Int)).toNat < 2 ^ 62 := by
  rw [BitVec.toNat_xor, BitVec.ofInt_natCast, BitVec.ofInt_natCast, BitVec.toNat_ofNat, BitVec.toNat_ofNat, Nat.mod_eq_of_lt (by omega), Nat.mod_eq_of_lt (by omega)]
  exact Nat.xor_lt_two_pow (by omega) (by omega)
 show 0 ≤ IntKind.wrap .i64 ((BitVec.ofInt 64 (a : Int) ^^^ BitVec.ofInt 64 (b : Int)).toNat : Int)
 generalize (BitVec.ofInt 64 (a : Int) ^^^ BitVec.ofInt 64 (b : Int)).toNat = n at e
 rw [IntWalk.i64_in _ (by omega)]
 omega
def DrS (s : List Int) : Prop := s.length ≤ 2000 ∧ ∀ x ∈ s, 0 ≤ x ∧ x ≤ 255
theorem drd_byte {s : List Int} (h : DrS s) (i : Int) : 0 ≤ rd s i ∧ rd s i ≤ 255 := by
 unfold rd
 by_cases hi : i.toNat < s.length
 ·
  have := h.2 s[i.toNat] (List.getElem_mem hi)
  simpa [List.getD_eq_getElem?_getD, hi] using this
 · simp [List.getD_eq_getElem?_getD, hi]
theorem dpick_k {s : List Int} (hs : DrS s) {p n : Int} {k : Nat} (h0 : 0 ≤ p) (h1 : p ≤ 1000000) (hn : 1 ≤ n) (hn' : n ≤ 1000000) (hk : 1 ≤ k) : ∃ v, spec_l1Rd_pick.f k s p n = some (v, p + 1) ∧ 0 ≤ v ∧ v < n := by
 obtain ⟨k, rfl⟩ : ∃ m, k = m + 1 := ⟨k - 1, by omega⟩
 have hl := hs.1
 unfold spec_l1Rd_pick.f
 rw [if_neg (by omega), dw64 (by omega) (by omega), spec_l1Rd_pick.j0]
 by_cases hz : s.length = 0
 ·
  rw [if_pos (by simp [hz])]
  exact ⟨0, rfl, by omega, by omega⟩
 ·
  rw [if_neg (by simpa using hz), dw64 (x := p + 1 - 1) (by omega) (by omega), show p + 1 - 1 = p by omega]
  by_cases hp : p < (s.length : Int)
  ·
   have hb := drd_byte hs p
   rw [if_pos hp, if_pos h0, if_neg (by omega), dw64 (by omega) (by omega)]
   refine ⟨_, rfl, Int.tmod_nonneg _ hb.1, Int.tmod_lt_of_pos _ (by omega)⟩
  ·
   have hd := Int.tdiv_eq_ediv_of_nonneg (b := (s.length : Int)) h0
   have hd0 : 0 ≤ p / (s.length : Int) := Int.ediv_nonneg h0 (by omega)
   have hd1 : p / (s.length : Int) ≤ p := Int.ediv_le_self _ h0
   have e1 := Int.tmod_nonneg (s.length : Int) h0
   have e2 := Int.tmod_lt_of_pos p (show 0 < (s.length : Int) by omega)
   have e3 := Int.tmod_nonneg (s.length : Int) (show 0 ≤ p * 7 + 3 by omega)
   have e4 := Int.tmod_lt_of_pos (p * 7 + 3) (show 0 < (s.length : Int) by omega)
   rw [hd, dw64 (x := p * 7) (by omega) (by omega), dw64 (x := p * 7 + 3) (by omega) (by omega), dw64 (x := p * 29) (by omega) (by omega)]
   generalize p / (s.length : Int) = dv at hd0 hd1
   generalize Int.tmod p (s.length : Int) = i1 at e1 e2
   generalize Int.tmod (p * 7 + 3) (s.length : Int) = i2 at e3 e4
   have b1 := drd_byte hs i1
   have b2 := drd_byte hs i2
   generalize rd s i1 = c1 at b1
   generalize rd s i2 = c2 at b2
   rw [if_neg hp, if_neg (by omega), if_pos e1, if_pos e2, if_pos e3, if_pos e4, if_neg (by omega), dw64 (x := dv) (by omega) (by omega), dw64 (x := c1) (by omega) (by omega), dw64 (x := c2) (by omega) (by omega), dw64 (x := c1 * 131) (by omega) (by omega), dw64 (x := c2 * 1117) (by omega) (by omega),
    dw64 (x := dv * 53) (by omega) (by omega), dw64 (x := c1 * 131 + c2 * 1117) (by omega) (by omega), dw64 (x := c1 * 131 + c2 * 1117 + p * 29) (by omega) (by omega), dw64 (x := c1 * 131 + c2 * 1117 + p * 29 + dv * 53) (by omega) (by omega)]
   have hh : 0 ≤ c1 * 131 + c2 * 1117 + p * 29 + dv * 53 ∧ c1 * 131 + c2 * 1117 + p * 29 + dv * 53 ≤ 1099511627776 := by omega
   generalize c1 * 131 + c2 * 1117 + p * 29 + dv * 53 = hv at hh
   rw [Int.tdiv_eq_ediv_of_nonneg hh.1, dw64 (x := hv / 64) (by omega) (by omega)]
   exact ⟨_, rfl, Int.tmod_nonneg _ (dxor hh.1 (by omega) (by omega) (by omega)), Int.tmod_lt_of_pos _ (by omega)⟩
def RdI (w0 w W : World) (g : Nat) (bs : List Int) (p : Int) : Prop := IsS86 w0 W g bs p ∧ Below w0.heap.size w0 W ∧ KeepBut w W g none ∧ w0.heap.size ≤ w.heap.size ∧ w.heap.size ≤ W.heap.size
theorem RdI.start {w0 w : World} {g : Nat} {bs : List Int} {p : Int} (h : IsS86 w0 w g bs p) (hB : Below w0.heap.size w0 w) : RdI w0 w w g bs p := ⟨h, hB, KeepBut.refl _ _ _, hB.size, Nat.le_refl _⟩
theorem RdI.step {w0 w W W' : World} {g : Nat} {bs : List Int} {p p' : Int} (h : RdI w0 w W g bs p) (h1 : RdI w0 W W' g bs p') : RdI w0 w W' g bs p' := ⟨h1.1, h1.2.1, h.2.2.1.trans h1.2.2.1 (.inl rfl), h.2.2.2.1, Nat.le_trans h.2.2.2.2 h1.2.2.2.2⟩
theorem RdI.below {w0 w W W' : World} {g : Nat} {bs : List Int} {p : Int} (h : RdI w0 w W g bs p) (hb : Below W.heap.size W W') : RdI w0 w W' g bs p :=
 ⟨h.1.below hb, below_then h.2.1 h.2.1.size hb, ⟨Nat.le_trans h.2.2.1.1 hb.size, fun i hi hg hr => (hb.block i (Nat.lt_of_lt_of_le hi h.2.2.2.2)).trans (h.2.2.1.2 i hi hg hr)⟩, h.2.2.2.1, Nat.le_trans h.2.2.2.2 hb.size⟩
theorem RdI.alloc {w0 w W : World} {g : Nat} {bs : List Int} {p : Int} (h : RdI w0 w W g bs p) (o : Obj) : RdI w0 w (W.alloc o) g bs p := h.below (below_alloc (Below.refl _ _) _)
theorem RdI.grown {w0 w W W' : World} {g : Nat} {bs : List Int} {p : Int} (h : RdI w0 w W g bs p) (hg : W.grownBy W' none) : RdI w0 w W' g bs p := h.below ⟨hg.os, hg.tape, hg.output, hg.size, fun k hk => hg.block k hk (by simp)⟩
theorem RdI.app {w0 w W W' : World} {g : Nat} {bs : List Int} {p : Int} {α : Type} {d : Kd α} {e : Nat} {ok : Nat → Prop} {v : Value} {xs : List α} (h : RdI w0 w W g bs p) (ho : d.R e W w.heap.size ok v xs) (ht : e ≠ 86) (hg : W.grownBy W' v.ownBlock) (hb : Below w.heap.size W W') : RdI w0 w W' g bs p :=
 ⟨h.1.grown hg (h.1.own_ne ho ht), h.2.1.trans (hb.mono h.2.2.2.1), ⟨Nat.le_trans h.2.2.1.1 hb.size, fun i hi hgg hr => (hb.block i hi).trans (h.2.2.1.2 i hi hgg hr)⟩, h.2.2.2.1, Nat.le_trans h.2.2.2.2 hb.size⟩
theorem RdI.row {w0 w W W' : World} {g : Nat} {bs : List Int} {p p' : Int} {α : Type} {d : Kd α} {e base : Nat} {ok : Nat → Prop} {v : Value} {xs : List α} (h : RdI w0 w W g bs p) (h1 : RdI w0 W W' g bs p') (ho : d.R e W base ok v xs) (ht : ∀ q, q ∈ e :: d.E → q ≠ 86) : d.R e W' base ok v xs :=
 Kd.R_mono (Kd.R_move (Kd.R_bound (h.1.apart ho ht)) (fun k hk => h1.2.2.1.2 k hk.2.2.1 hk.1.2 (by simp))) (fun k hk => hk.1.1)
theorem pickE {w0 w : World} {g : Nat} {bs : List Int} {p : Int} (n : Int) (hs : DrS bs) (h0 : 0 ≤ p) (h1 : p ≤ 1000000) (hn : 1 ≤ n) (hn' : n ≤ 1000000) (hI : IsS86 w0 w g bs p) (hB : Below w0.heap.size w0 w) :
  Calls Tryz.prog 47 #[.pointer (some ⟨g, 0, none⟩), .int .i64 n] w fun e w' => ∃ v : Int, 0 ≤ v ∧ v < n ∧ e = .returned (.int .i64 v) ∧ RdI w0 w w' g bs (p + 1) := by
 obtain ⟨v, hv, v0, v1⟩ := dpick_k hs (k := 1) h0 h1 hn hn' (Nat.le_refl _)
 refine (spec_l1Rd_pick.calls 1 g bs p n v (p + 1) w0 w hI hB hv).mono ?_
 rintro e w' ⟨rfl, h1, h2, h3⟩
 exact ⟨v, v0, v1, rfl, h1, h2, h3, hB.size, h3.1⟩
theorem oneE {w0 w : World} {g : Nat} {bs : List Int} {p : Int} (A : Option Addr) (c : Nat) (L : List Int) (hs : DrS bs) (h0 : 0 ≤ p) (h1 : p ≤ 1000000) (hn : 1 ≤ L.length) (hn' : L.length ≤ 1000000) (hC : Kd.C (Kd.int .i64) w A L.length L) (hc : L.length ≤ c) (hf : ∀ ad, A = some ad → 0 < L.length → ad.block ≠ g) (hI : IsS86 w0 w g bs p) (hB : Below w0.heap.size w0 w) :
  Calls Tryz.prog 73 #[.pointer (some ⟨g, 0, none⟩), .slice A L.length c] w fun e w' => ∃ v : Int, e = .returned (.int .i64 v) ∧ RdI w0 w w' g bs (p + 1) := by
 obtain ⟨v, hv, v0, v1⟩ := dpick_k hs (k := 1) (p := p) (n := (L.length : Int)) h0 h1 (by omega) (by omega) (Nat.le_refl _)
 refine (spec_l1Rd_one.calls 1 g bs p A c L (rd L v) (p + 1) w0 w hI hB hC hc hf (by unfold spec_l1Rd_one.f; rw [hv, Option.bind_some, if_pos v0, if_pos v1])).mono ?_
 rintro e w' ⟨rfl, h1, h2, h3⟩
 exact ⟨_, rfl, h1, h2, h3, hB.size, h3.1⟩
theorem RdI.drew {w0 w W : World} {g : Nat} {bs : List Int} {p : Int} (h : RdI w0 w W g bs p) : RdI w0 w W.drew g bs p := h.below (below_drew (Below.refl _ _))
theorem pickR {w0 w W : World} {g : Nat} {bs : List Int} {p : Int} (n : Int) (hs : DrS bs) (h0 : 0 ≤ p) (h1 : p ≤ 1000000) (hn : 1 ≤ n) (hn' : n ≤ 1000000) (h : RdI w0 w W g bs p) :
  Calls Tryz.prog 47 #[.pointer (some ⟨g, 0, none⟩), .int .i64 n] W fun e w' => ∃ v : Int, 0 ≤ v ∧ v < n ∧ e = .returned (.int .i64 v) ∧ RdI w0 w w' g bs (p + 1) ∧ RdI w0 W w' g bs (p + 1) := by
 refine (pickE n hs h0 h1 hn hn' h.1 h.2.1).mono ?_
 rintro e w' ⟨v, v0, v1, he, hr⟩
 exact ⟨v, v0, v1, he, h.step hr, hr⟩
theorem RdI.lit {w0 W W' : World} {g : Nat} {bs : List Int} {p : Int} (h : RdI w0 W W' g bs p) {B t : Nat} {a : Array Value} (hb : W.heap[B]? = some (.cells a t (0, 0))) (hne : B ≠ g) : W'.heap[B]? = some (.cells a t (0, 0)) := h.2.2.1.blk hb hne (by simp)
def intV : Value → Int
 | .int _ x => x
 | _ => 0
theorem oneLit {w0 w W : World} {g : Nat} {bs : List Int} {p : Int} (a : Array Value) (n B : Nat) (hs : DrS bs) (h0 : 0 ≤ p) (h1 : p ≤ 1000000) (hI : RdI w0 w W g bs p) (hg : W.heap.size = B) (ha : a = ((a.toList.map intV).map fun x => .int .i64 x).toArray) (hn : (a.toList.map intV).length = n) (hm : 1 ≤ n ∧ n ≤ 1000) :
  Calls Tryz.prog 73 #[.pointer (some ⟨g, 0, none⟩), .slice (some ⟨B, 0, none⟩) n n] (W.alloc (.cells a 3)) fun e w' => ∃ v : Int, e = .returned (.int .i64 v) ∧ RdI w0 w w' g bs (p + 1) ∧ RdI w0 W w' g bs (p + 1) := by
 have hA := hI.alloc (.cells a 3)
 have hA2 := (RdI.start hI.1 hI.2.1).alloc (.cells a 3)
 subst hn
 refine (oneE (some ⟨B, 0, none⟩) _ (a.toList.map intV) hs h0 h1 hm.1 (by omega) (litC _ a hg ha rfl hm.2) (Nat.le_refl _) (fun ad e _ => ?_) hA.1 hA.2.1).mono ?_
 ·
  cases e
  have := hI.1.lt
  show B ≠ g
  omega
 ·
  rintro e w' ⟨v, rfl, h⟩
  exact ⟨v, rfl, hA.step h, hA2.step h⟩
theorem runeE {w0 w : World} {g : Nat} {bs : List Int} {p : Int} (hs : DrS bs) (h0 : 0 ≤ p) (h1 : p ≤ 900000) (hI : IsS86 w0 w g bs p) (hB : Below w0.heap.size w0 w) :
  Calls Tryz.prog 98 #[.pointer (some ⟨g, 0, none⟩)] w fun e w' => ∃ v p' : Int, p ≤ p' ∧ p' ≤ p + 2 ∧ e = .returned (.int .i64 v) ∧ RdI w0 w w' g bs p' := by
 have HS := az hs
 have HI := az (RdI.start hI hB)
 have HP := az (show 0 ≤ p + 1 ∧ p + 1 ≤ 1000000 ∧ p ≤ 1000000 ∧ 0 ≤ p by omega)
 have HPP := az (show p ≤ p + 1 + 1 ∧ p + 1 + 1 ≤ p + 2 ∧ p ≤ p + 1 ∧ p + 1 ≤ p + 2 by omega)
 clear hs hI hB h0 h1
 go_enter Tryz.func98, Tryz.ntmps98
 go_upto_region 2 with (go_at_call 47; go_must (refine (pickE 16 HS.out HP.out.2.2.2 HP.out.2.2.1 (by decide) (by decide) HI.out.1 HI.out.2.1).mono ?_); rintro e w1 ⟨v, v0, v1, rfl, hr⟩; have HR := az (HI.out.step hr); clear hr)
 have hv : v = 0 ∨ v = 1 ∨ v = 2 ∨ v = 3 ∨ v = 4 ∨ v = 5 ∨ v = 6 ∨ v = 7 ∨ v = 8 ∨ v = 9 ∨ v = 10 ∨ v = 11 ∨ v = 12 ∨ v = 13 ∨ v = 14 ∨ v = 15 := by omega
 clear v0 v1
 rcases hv with rfl | rfl | rfl | rfl | rfl | rfl | rfl | rfl | rfl | rfl | rfl | rfl | rfl | rfl | rfl | rfl
 all_goals
  go_wp2_with (go_at_call 73; go_must (refine (oneLit _ _ _ HS.out HP.out.1 HP.out.2.1 HR.out ?hg ?ha ?hn (by decide)).mono ?_); (case hg => rfl); (case ha => rfl); (case hn => rfl); rintro e w2 ⟨v2, rfl, hr2, _⟩; have HR2 := az hr2; clear hr2)
  go_ret
  first
   | exact ⟨_, _, HPP.out.1, HPP.out.2.1, rfl, HR2.out⟩
   | exact ⟨_, _, HPP.out.2.2.1, HPP.out.2.2.2, rfl, HR.out⟩
theorem runesE {w0 w : World} {g : Nat} {bs : List Int} {p : Int} (hs : DrS bs) (h0 : 0 ≤ p) (h1 : p ≤ 800000) (hI : IsS86 w0 w g bs p) (hB : Below w0.heap.size w0 w) :
  Calls Tryz.prog 72 #[.pointer (some ⟨g, 0, none⟩)] w fun e w' => ∃ (v : Value) (l : List Int) (p' : Int), p ≤ p' ∧ p' ≤ p + 200 ∧ l.length ≤ 200 ∧ e = .returned v ∧ Kd.R (Kd.int .i64) 3 w' w.heap.size (fun _ => True) v l ∧ RdI w0 w w' g bs p' := by
 have HS := az hs
 have HI := az (RdI.start hI hB)
 have HP := az (show 0 ≤ p ∧ p ≤ 800000 ∧ p ≤ 1000000 by omega)
 clear hs hI hB h0 h1
 go_enter Tryz.func72, Tryz.ntmps72
 go_wp2_with (first
  | ((with_reducible refine gate_dst (N := 5) rfl ?_); refine Kd.R_lit (Kd.int .i64) w.heap.size 3 ?hg (N := 5) ?hd (xs := ([] : List Int)) (inner := []) (ok := fun _ => True) (okp := fun _ => True) ?hr ?hp (fun _ hk => hk) trivial (Below.refl _ _) (Nat.le_refl _) (by simp) ?_; (case hd => rfl); (case hg => rfl); (case hr => first | (go_simp; done) | (go_simp; rfl)); (case hp => exact (Reps.none _ _)); intro v1 w1 ho1 hb1 hg_ hnew_; clear hg_ hnew_; have HO1 := az ho1; have HR1 := az (HI.out.below hb1); clear ho1 hb1)
  | (go_at_call 47; go_must (refine (pickE 24 HS.out HP.out.1 HP.out.2.2 (by decide) (by decide) HR1.out.1 HR1.out.2.1).mono ?_); rintro e w2 ⟨v, hv0, hv1, rfl, hr2⟩; have HR2 := az (HR1.out.step hr2); have HO2 := az (HR1.out.row hr2 HO1.out (by decide)); have HV := az (And.intro hv0 hv1); clear hr2 hv0 hv1))
 obtain ⟨n, hn⟩ : ∃ n : Nat, v = (n : Int) := ⟨v.toNat, zE HV.out⟩
 subst hn
 have HNL : Aside0 (n ≤ 23) := ⟨zE HV.out⟩
 go_loopg [3, 4] 24 (fun gg s3 s4 wr => ∃ (j : Nat) (out : List Int) (q : Int), s4 = .int .i64 (j : Int) ∧ j ≤ gg ∧ Aside0 (p ≤ q ∧ q + 2 * j ≤ p + 60 ∧ out.length + j ≤ 24) ∧ Aside0 (Kd.R (Kd.int .i64) 3 wr w.heap.size (fun _ => True) s3 out) ∧ Aside0 (RdI w0 w wr g bs q))
 case atStart => exact ⟨n, [], p + 1, rfl, zE HNL.out, ⟨by have := HNL.out; simp; omega⟩, HO2, HR2⟩
 case round =>
  clear HO2 HR2 HO1 HR1
  obtain ⟨j, out, q, rfl, hj, HJ, HO, HR⟩ := hrel
  cases j with
  | succ j =>
   have hpos : (0 : Int) < ((j + 1 : Nat) : Int) := by omega
   have hjb : j ≤ 24 := by have := HJ.out; omega
   have hw1 : wrap64 (((j + 1 : Nat) : Int) - 1) = (j : Int) := by unfold wrap64; omega
   have hw2 : IntKind.i64.wrap (((j + 1 : Nat) : Int) - 1) = (j : Int) := by rw [i64_w]; unfold wrap64; omega
   have HJQ : Aside0 (0 ≤ q ∧ q ≤ 900000) := ⟨zL HJ.out HP.out⟩
   have HLN : Aside0 (out.length ≤ 24) := ⟨zE HJ.out⟩
   have HGG := az hj
   clear hj hjb
   obtain ⟨jj, hjj⟩ : ∃ jj : Int, ((j + 1 : Nat) : Int) = jj := ⟨_, rfl⟩
   rw [hjj] at hpos hw1 hw2 ⊢
   have HJJ := az hjj
   clear hjj
   go_wp2_with (first
    | (go_at_call 98; go_must (refine (runeE HS.out HJQ.out.1 HJQ.out.2 HR.out.1 HR.out.2.1).mono ?_); rintro e w3 ⟨x, q', hq1, hq2, rfl, hr3⟩; have HR3 := az (HR.out.step hr3); have HO3 := az (HR.out.row hr3 HO.out (by decide)); have HQ3 := az (And.intro hq1 hq2); clear hr3 hq1 hq2)
    | ((with_reducible refine gate_builtin (b := .append) (xs := #[.tmp 12, .tmp 15]) rfl ?_); at_builtin; go_must (refine appI (w0 := w3) (base := w.heap.size) Tryz.underlying22 info3 rfl (.tmp 12) (.tmp 15) rfl _ out x rfl rfl HO3.out (Below.refl _ _) HR3.out.2.2.2.2 ?aL ?_); (case aL => have := HLN.out; omega); intro v9 w9 ho9 hb9 hg9 hat9; have HO9 := az ho9; have HR9 := az (HR3.out.app HO3.out (by decide) hg9 hb9); clear ho9 hb9 hg9 hat9))
   go_roundg j
   case measure => have := HGG.out; omega
   case rel => exact ⟨j, out ++ [x], q', rfl, Nat.le_refl _, ⟨by have := HJ.out; have := HQ3.out; simp only [List.length_append, List.length_cons, List.length_nil]; omega⟩, HO9, HR9⟩
  | zero =>
   have hpos : ¬ (0 : Int) < ((0 : Nat) : Int) := by omega
   have HJQ : Aside0 (0 ≤ q ∧ q ≤ 1000000) := ⟨zL HJ.out HP.out⟩
   clear hj
   go_upto_if 19 with (go_at_call 47; go_must (refine (pickE 24 HS.out HJQ.out.1 HJQ.out.2 (by decide) (by decide) HR.out.1 HR.out.2.1).mono ?_); rintro e w2 ⟨v2, hv0, hv1, rfl, hr2⟩; have HR2 := az (HR.out.step hr2); have HO2 := az (HR.out.row hr2 HO.out (by decide)); clear hr2 hv0 hv1)
   by_cases hz : v2 = 0
   ·
    have bz : (v2 == 0) = true := beq_iff_eq.mpr hz
    clear hz
    rw [bz]
    go_wp2
    go_loopg [3] 81 (fun gg s3 wr => ∃ (out : List Int) (q2 : Int), 80 - out.length ≤ gg ∧ Aside0 (p ≤ q2 ∧ q2 + (80 - out.length : Nat) ≤ p + 150 ∧ out.length ≤ 80) ∧ Aside0 (Kd.R (Kd.int .i64) 3 wr w.heap.size (fun _ => True) s3 out) ∧ Aside0 (RdI w0 w wr g bs q2))
    case atStart => exact ⟨out, q + 1, by omega, ⟨zE HJ.out⟩, HO2, HR2⟩
    case round =>
     clear HO2 HR2 HO HR HJ HJQ
     obtain ⟨out2, q2, hg2, HQ2, HO2, HR2⟩ := hrel
     obtain ⟨A2, c2, e2⟩ := Kd.R_slice HO2.out
     subst e2
     have HJQ2 : Aside0 (0 ≤ q2 ∧ q2 ≤ 1000000) := ⟨zL HQ2.out HP.out⟩
     by_cases hlt : out2.length < 80
     ·
      have hltz : (out2.length : Int) < 80 := by omega
      have HGG := az (And.intro hg2 hlt)
      clear hg2 hlt
      go_wp2_with (first
       | (go_at_call 73; go_must (refine (oneLit _ _ _ HS.out HJQ2.out.1 HJQ2.out.2 HR2.out ?hg ?ha ?hn (by decide)).mono ?_); (case hg => rfl); (case ha => rfl); (case hn => rfl); rintro e w3 ⟨x, rfl, hr3, hr4⟩; have HR3 := az hr3; have HO3 := az (HR2.out.row hr4 HO2.out (by decide)); clear hr3 hr4)
       | ((with_reducible refine gate_builtin (b := .append) (xs := #[.tmp 23, .tmp 27]) rfl ?_); at_builtin; go_must (refine appI (w0 := w3) (base := w.heap.size) Tryz.underlying22 info3 rfl (.tmp 23) (.tmp 27) rfl _ out2 x rfl rfl HO3.out (Below.refl _ _) HR3.out.2.2.2.2 ?aL ?_); (case aL => have := HGG.out.2; omega); intro v9 w9 ho9 hb9 hg9 hat9; have HO9 := az ho9; have HR9 := az (HR3.out.app HO3.out (by decide) hg9 hb9); clear ho9 hb9 hg9 hat9))
      go_roundg (79 - out2.length)
      case measure => have := HGG.out; omega
      case rel => exact ⟨out2 ++ [x], q2 + 1, by simp only [List.length_append, List.length_cons, List.length_nil]; omega, ⟨by have := HQ2.out; have := HGG.out; simp only [List.length_append, List.length_cons, List.length_nil]; omega⟩, HO9, HR9⟩
     ·
      have hltz : ¬ (out2.length : Int) < 80 := by omega
      go_wp2
      go_ret
      exact ⟨_, out2, q2, zE HQ2.out, zE HQ2.out, zE HQ2.out, rfl, HO2.out, HR2.out⟩
   ·
    have bz : (v2 == 0) = false := beq_eq_false_iff_ne.mpr hz
    clear hz
    go_wp2
    go_ret
    exact ⟨_, out, q + 1, zE HJ.out, zE HJ.out, zE HJ.out, rfl, HO2.out, HR2.out⟩
theorem one_plus {v : Int} {m : Nat} (h0 : 0 ≤ v) (h1 : v < (m : Int)) (hm : m ≤ 1000) : ∃ n : Nat, n + 1 ≤ m ∧ wrap64 (1 + v) = ((n + 1 : Nat) : Int) ∧ IntKind.i64.wrap (1 + v) = ((n + 1 : Nat) : Int) := by
 have e : wrap64 (1 + v) = ((v.toNat + 1 : Nat) : Int) := by unfold wrap64; omega
 exact ⟨v.toNat, by omega, e, by rw [i64_w]; exact e⟩
theorem less_one {j : Nat} (h : j ≤ 1000) : wrap64 (((j + 1 : Nat) : Int) - 1) = (j : Int) ∧ IntKind.i64.wrap (((j + 1 : Nat) : Int) - 1) = (j : Int) := by
 have e : wrap64 (((j + 1 : Nat) : Int) - 1) = (j : Int) := by unfold wrap64; omega
 exact ⟨e, by rw [i64_w]; exact e⟩
theorem wordsE {w0 w : World} {g : Nat} {bs : List Int} {p : Int} (hs : DrS bs) (h0 : 0 ≤ p) (h1 : p ≤ 700000) (hI : IsS86 w0 w g bs p) (hB : Below w0.heap.size w0 w) :
  Calls Tryz.prog 44 #[.pointer (some ⟨g, 0, none⟩)] w fun e w' => ∃ (v : Value) (l : List Int) (p' : Int), p ≤ p' ∧ p' ≤ p + 300 ∧ l.length ≤ 200 ∧ e = .returned v ∧ Kd.R (Kd.int .i64) 3 w' w.heap.size (fun _ => True) v l ∧ RdI w0 w w' g bs p' := by
 have HS := az hs
 have HI := az (RdI.start hI hB)
 have HP := az (show 0 ≤ p ∧ p ≤ 700000 ∧ p ≤ 1000000 ∧ 0 ≤ p + 1 ∧ p + 1 ≤ 800000 ∧ p + 1 ≤ 1000000 by omega)
 clear hs hI hB h0 h1
 go_enter Tryz.func44, Tryz.ntmps44
 go_upto_if 8 with (go_at_call 47; go_must (refine (pickE 3 HS.out HP.out.1 HP.out.2.2.1 (by decide) (by decide) HI.out.1 HI.out.2.1).mono ?_); rintro e w1 ⟨v, hv0, hv1, rfl, hr⟩; have HR := az (HI.out.step hr); clear hr hv0 hv1)
 by_cases hz : v = 0
 ·
  have bz : (v == 0) = true := beq_iff_eq.mpr hz
  clear hz
  go_wp2_with (go_at_call 72; go_must (refine (runesE HS.out HP.out.2.2.2.1 HP.out.2.2.2.2.1 HR.out.1 HR.out.2.1).mono ?_); rintro e w2 ⟨x, l, q, hq1, hq2, hl, rfl, ho, hr⟩; have HO2 := az (Kd.R_lower ho HR.out.2.2.2.2); have HR2 := az (HR.out.step hr); have HQ := az (And.intro hq1 (And.intro hq2 hl)); clear ho hr hq1 hq2 hl)
  go_ret
  exact ⟨_, l, q, zE HQ.out, zE HQ.out, HQ.out.2.2, rfl, HO2.out, HR2.out⟩
 ·
  have bz : (v == 0) = false := beq_eq_false_iff_ne.mpr hz
  clear hz
  rw [bz]
  go_wp2_with (first
   | ((with_reducible refine gate_dst (N := 11) rfl ?_); refine Kd.R_lit (Kd.int .i64) w.heap.size 3 ?hg (N := 11) ?hd (xs := ([] : List Int)) (inner := []) (ok := fun _ => True) (okp := fun _ => True) ?hr ?hp (fun _ hk => hk) trivial (Below.refl _ _) HR.out.2.2.2.2 (by simp) ?_; (case hd => rfl); (case hg => rfl); (case hr => first | (go_simp; done) | (go_simp; rfl)); (case hp => exact (Reps.none _ _)); intro v1 w2 ho1 hb1 hg_ hnew_; have HO2 := az ho1; have HR2 := az (HR.out.grown hg_); clear ho1 hb1 hg_ hnew_)
   | (go_at_call 47; go_must (refine (pickE 9 HS.out HP.out.2.2.2.1 HP.out.2.2.2.2.2 (by decide) (by decide) HR2.out.1 HR2.out.2.1).mono ?_); rintro e w3 ⟨v9, hv0, hv1, rfl, hr3⟩; have HR3 := az (HR2.out.step hr3); have HO3 := az (HR2.out.row hr3 HO2.out (by decide)); obtain ⟨n, hn, hw1, hw2⟩ := one_plus (m := 9) hv0 hv1 (by decide); have HNN := az hn; clear hr3 hv0 hv1 hn))
  go_loopg [3, 4] 10 (fun gg s3 s4 wr => ∃ (j : Nat) (out : List Int) (q : Int), s4 = .int .i64 (j : Int) ∧ j ≤ gg ∧ Aside0 (p ≤ q ∧ q + 7 * j ≤ p + 80 ∧ out.length + 5 * j ≤ 60) ∧ Aside0 (Kd.R (Kd.int .i64) 3 wr w.heap.size (fun _ => True) s3 out) ∧ Aside0 (RdI w0 w wr g bs q))
  case atStart => exact ⟨n + 1, [], p + 1 + 1, rfl, zE HNN.out, ⟨by have := HNN.out; simp; omega⟩, HO3, HR3⟩
  case round =>
   clear HO3 HR3 HO2 HR2 HR hw1 hw2
   obtain ⟨j, out, q, rfl, hj, HJ, HO, HR⟩ := hrel
   cases j with
   | zero =>
    have hpos : ¬ (0 : Int) < ((0 : Nat) : Int) := by omega
    clear hj
    go_wp2
    go_ret
    exact ⟨_, out, q, zE HJ.out, zE HJ.out, zE HJ.out, rfl, HO.out, HR.out⟩
   | succ j =>
    have hpos : (0 : Int) < ((j + 1 : Nat) : Int) := by omega
    have hjb : j ≤ 60 := by have := HJ.out; omega
    obtain ⟨hu1, hu2⟩ := less_one (j := j) (by omega)
    have HJQ : Aside0 (0 ≤ q ∧ q ≤ 1000000) := ⟨zL HJ.out HP.out⟩
    have HGG := az hj
    clear hj hjb
    obtain ⟨jj, hjj⟩ : ∃ jj : Int, ((j + 1 : Nat) : Int) = jj := ⟨_, rfl⟩
    rw [hjj] at hpos hu1 hu2 ⊢
    clear hjj
    go_wp2_with (go_at_call 47; go_must (refine (pickE 4 HS.out HJQ.out.1 HJQ.out.2 (by decide) (by decide) HR.out.1 HR.out.2.1).mono ?_); rintro e w4 ⟨v4, hv0, hv1, rfl, hr4⟩; have HR4 := az (HR.out.step hr4); have HO4 := az (HR.out.row hr4 HO.out (by decide)); obtain ⟨m, hm, hx1, hx2⟩ := one_plus (m := 4) hv0 hv1 (by decide); have HMM := az hm; clear hr4 hv0 hv1 hm)
    go_loopg [3, 5] 5 (fun gg s3 s5 wr => ∃ (i : Nat) (out2 : List Int) (q2 : Int), s5 = .int .i64 (i : Int) ∧ i ≤ gg ∧ Aside0 (p ≤ q2 ∧ q2 + i + 1 + 7 * j ≤ p + 80 ∧ out2.length + i + 1 + 5 * j ≤ 60) ∧ Aside0 (Kd.R (Kd.int .i64) 3 wr w.heap.size (fun _ => True) s3 out2) ∧ Aside0 (RdI w0 w wr g bs q2))
    case atStart => exact ⟨m + 1, out, q + 1, rfl, zE HMM.out, ⟨zL HMM.out HJ.out⟩, HO4, HR4⟩
    case round =>
     clear HO4 HR4 HO HR hx1 hx2
     obtain ⟨i, out2, q2, rfl, hi, HQ2, HO2, HR2⟩ := hrel
     have HJQ2 : Aside0 (0 ≤ q2 ∧ q2 ≤ 1000000) := ⟨zL HQ2.out HP.out⟩
     have HLN : Aside0 (out2.length ≤ 60) := ⟨zE HQ2.out⟩
     cases i with
     | zero =>
      have hpos2 : ¬ (0 : Int) < ((0 : Nat) : Int) := by omega
      clear hi
      go_wp2_with (first
       | (go_at_call 73; go_must (refine (oneLit _ _ _ HS.out HJQ2.out.1 HJQ2.out.2 HR2.out ?hg ?ha ?hn (by decide)).mono ?_); (case hg => rfl); (case ha => rfl); (case hn => rfl); rintro e w3 ⟨x, rfl, hr3, hr4⟩; have HR3 := az hr3; have HO3 := az (HR2.out.row hr4 HO2.out (by decide)); clear hr3 hr4)
       | ((with_reducible refine gate_builtin (b := .append) (xs := #[.tmp 32, .tmp 36]) rfl ?_); at_builtin; go_must (refine appI (w0 := w3) (base := w.heap.size) Tryz.underlying22 info3 rfl (.tmp 32) (.tmp 36) rfl _ out2 x rfl rfl HO3.out (Below.refl _ _) HR3.out.2.2.2.2 ?aL ?_); (case aL => have := HLN.out; omega); intro v9 w9 ho9 hb9 hg9 hat9; have HO9 := az ho9; have HR9 := az (HR3.out.app HO3.out (by decide) hg9 hb9); clear ho9 hb9 hg9 hat9))
      go_roundg j
      case measure => have := HGG.out; omega
      case rel => exact ⟨j, out2 ++ [x], q2 + 1, rfl, Nat.le_refl _, ⟨by have := HQ2.out; simp only [List.length_append, List.length_cons, List.length_nil]; omega⟩, HO9, HR9⟩
     | succ i =>
      have hpos2 : (0 : Int) < ((i + 1 : Nat) : Int) := by omega
      have hib : i ≤ 60 := by have := HQ2.out; omega
      obtain ⟨hy1, hy2⟩ := less_one (j := i) (by omega)
      have HGI := az hi
      clear hi hib
      obtain ⟨ii, hii⟩ : ∃ ii : Int, ((i + 1 : Nat) : Int) = ii := ⟨_, rfl⟩
      rw [hii] at hpos2 hy1 hy2 ⊢
      clear hii
      go_wp2_with (first
       | (go_at_call 73; go_must (refine (oneLit _ _ _ HS.out HJQ2.out.1 HJQ2.out.2 HR2.out ?hg ?ha ?hn (by decide)).mono ?_); (case hg => rfl); (case ha => rfl); (case hn => rfl); rintro e w3 ⟨x, rfl, hr3, hr4⟩; have HR3 := az hr3; have HO3 := az (HR2.out.row hr4 HO2.out (by decide)); clear hr3 hr4)
       | ((with_reducible refine gate_builtin (b := .append) (xs := #[.tmp 26, .tmp 30]) rfl ?_); at_builtin; go_must (refine appI (w0 := w3) (base := w.heap.size) Tryz.underlying22 info3 rfl (.tmp 26) (.tmp 30) rfl _ out2 x rfl rfl HO3.out (Below.refl _ _) HR3.out.2.2.2.2 ?aL ?_); (case aL => have := HLN.out; omega); intro v9 w9 ho9 hb9 hg9 hat9; have HO9 := az ho9; have HR9 := az (HR3.out.app HO3.out (by decide) hg9 hb9); clear ho9 hb9 hg9 hat9))
      go_roundg i
      case measure => have := HGI.out; omega
      case rel => exact ⟨i, out2 ++ [x], q2 + 1, rfl, Nat.le_refl _, ⟨by have := HQ2.out; simp only [List.length_append, List.length_cons, List.length_nil]; omega⟩, HO9, HR9⟩
theorem RdI.litW {w0 W1 W' : World} {g : Nat} {bs : List Int} {p : Int} {a : Array Value} (h : RdI w0 (W1.alloc (.cells a 3)) W' g bs p) (hg : g < W1.heap.size) : W'.heap[W1.heap.size]? = some (.cells a 3 (0, 0)) := h.lit (blk_new W1 _) (by omega)
theorem alloc_drewD (W : World) (o : Obj) : (W.alloc o).drew = W.drew.alloc o := rfl
abbrev size5 : Array Value := #[.int .i64 10, .int .i64 5, .int .i64 20, .int .i64 40, .int .i64 1]
theorem size5_at {n : Nat} (hn : n < 5) : ∃ y : Int, size5[n]? = some (.int .i64 y) := by
 have h : n = 0 ∨ n = 1 ∨ n = 2 ∨ n = 3 ∨ n = 4 := by omega
 rcases h with rfl | rfl | rfl | rfl | rfl
 all_goals exact ⟨_, rfl⟩
theorem sum_fit {a b : Int} (h0 : 0 ≤ a) (h1 : a ≤ 100000) (h2 : 0 ≤ b) (h3 : b ≤ 100000) : wrap64 (a + b) = a + b ∧ IntKind.i64.wrap (a + b) = a + b := by
 have e : wrap64 (a + b) = a + b := by unfold wrap64; omega
 exact ⟨e, by rw [i64_w]; exact e⟩
theorem spansE {w0 w : World} {g : Nat} {bs : List Int} {p : Int} (a1 : Int) (ha0 : 0 ≤ a1) (ha1 : a1 ≤ 1000) (hs : DrS bs) (h0 : 0 ≤ p) (h1 : p ≤ 800000) (hI : IsS86 w0 w g bs p) (hB : Below w0.heap.size w0 w) :
  Calls Tryz.prog 74 #[.pointer (some ⟨g, 0, none⟩), .int .i64 a1] w fun e w' => ∃ (v : Value) (l : List S50) (p' : Int), p ≤ p' ∧ p' ≤ p + 100 ∧ l.length ≤ 12 ∧ e = .returned v ∧ Kd.R k50 50 w' w.heap.size (fun _ => True) v l ∧ RdI w0 w w' g bs p' := by
 have HS := az hs
 have HI := az (RdI.start hI hB)
 have HP := az (show 0 ≤ p ∧ p ≤ 800000 ∧ p ≤ 1000000 by omega)
 have HA := az (And.intro ha0 ha1)
 clear hs hI hB h0 h1 ha0 ha1
 go_enter Tryz.func74, Tryz.ntmps74
 go_wp2_with (first
  | ((with_reducible refine gate_dst (N := 8) rfl ?_); refine Kd.R_lit k50 w.heap.size 50 ?hg (N := 8) ?hd (xs := ([] : List S50)) (inner := []) (ok := fun _ => True) (okp := fun _ => True) ?hr ?hp (fun _ hk => hk) trivial (Below.refl _ _) (Nat.le_refl _) (by simp) ?_; (case hd => rfl); (case hg => rfl); (case hr => first | (go_simp; done) | (go_simp; rfl)); (case hp => exact (Reps.none _ _)); intro v1 w1 ho1 hb1 hg_ hnew_; clear hg_ hnew_; have HO1 := az ho1; have HR1 := az (HI.out.below hb1); clear ho1 hb1)
  | (go_at_call 47; go_must (refine (pickR 4 HS.out HP.out.1 HP.out.2.2 (by decide) (by decide) HR1.out).mono ?_); rintro e w2 ⟨v, hv0, hv1, rfl, hr, hr2⟩; have HR2 := az hr; have HO2 := az (HR1.out.row hr2 HO1.out (by decide)); have HV := az (And.intro hv0 hv1); clear hr hr2 hv0 hv1))
 go_loopg [5, 6] 13 (fun gg s5 s6 wr => ∃ (out : List S50) (at_ q : Int), s6 = .int .i64 at_ ∧ 12 - out.length ≤ gg ∧ Aside0 (0 ≤ at_ ∧ at_ ≤ 10 + 10 * out.length ∧ out.length ≤ 12 ∧ p ≤ q ∧ q + 5 * (12 - out.length : Nat) ≤ p + 70) ∧ Aside0 (Kd.R k50 50 wr w.heap.size (fun _ => True) s5 out) ∧ Aside0 (RdI w0 w wr g bs q))
 case atStart => exact ⟨[], v, p + 1, rfl, by simp, ⟨by have := HV.out; simp; omega⟩, HO2, HR2⟩
 case round =>
  clear HO2 HR2 HO1 HR1 HV
  obtain ⟨out, at_, q, rfl, hgg, HQ, HO, HR⟩ := hrel
  obtain ⟨A2, c2, e2⟩ := Kd.R_slice HO.out
  subst e2
  have HEND : Aside0 (p ≤ q ∧ q ≤ p + 100 ∧ p ≤ q + 1 ∧ q + 1 ≤ p + 100) := ⟨zE HQ.out⟩
  have HQB : Aside0 ((0 ≤ q ∧ q ≤ 1000000) ∧ (0 ≤ q + 1 ∧ q + 1 ≤ 1000000) ∧ (0 ≤ q + 1 + 1 ∧ q + 1 + 1 ≤ 1000000) ∧ (0 ≤ q + 1 + 1 + 1 ∧ q + 1 + 1 + 1 ≤ 1000000) ∧ (0 ≤ q + 1 + 1 + 1 + 1 ∧ q + 1 + 1 + 1 + 1 ≤ 1000000)) := ⟨zL HQ.out HP.out⟩
  by_cases hlt : at_ < a1
  case neg =>
   clear hgg
   go_wp2
   go_ret
   exact ⟨_, out, q, HEND.out.1, HEND.out.2.1, HQ.out.2.2.1, rfl, HO.out, HR.out⟩
  case pos =>
  by_cases hln : (out.length : Int) < 12
  case neg =>
   clear hgg
   go_wp2
   go_ret
   exact ⟨_, out, q, HEND.out.1, HEND.out.2.1, HQ.out.2.2.1, rfl, HO.out, HR.out⟩
  case pos =>
  go_upto_if 23 with (go_at_call 47; go_must (refine (pickR 8 HS.out HQB.out.1.1 HQB.out.1.2 (by decide) (by decide) HR.out).mono ?_); rintro e w3 ⟨v8, _, _, rfl, hr, hr2⟩; have HR3 := az hr; have HO3 := az (HR.out.row hr2 HO.out (by decide)); clear hr hr2)
  by_cases hv8 : 0 < v8
  case neg =>
   clear hgg
   go_wp2
   go_ret
   exact ⟨_, out, q + 1, HEND.out.2.2.1, HEND.out.2.2.2, HQ.out.2.2.1, rfl, HO3.out, HR3.out⟩
  case pos =>
  have HGG := az (And.intro hgg (show out.length < 12 by omega))
  have HAT := az hlt
  obtain ⟨hs1, hs2⟩ := sum_fit (a := at_) (b := 1) HQ.out.1 (zE HQ.out) (by decide) (by decide)
  clear hgg hlt hln
  go_upto_if 31 with (go_at_call 47; go_must (refine (pickR (w0 := w0) (w := w) 5 HS.out HQB.out.2.1.1 HQB.out.2.1.2 (by decide) (by decide) HR3.out).mono ?_); rintro e w4 ⟨v5, hv0, hv1, rfl, hr, hr2⟩; have HR4 := az hr; have HO4 := az (HR3.out.row hr2 HO3.out (by decide)); obtain ⟨hs3, hs4⟩ := sum_fit (a := at_ + 1) (b := v5) (zE HQ.out) (zE HQ.out) hv0 (by omega); have HV5 := az (And.intro hv0 hv1); clear hr hr2 hv0 hv1)
  obtain ⟨w5, hw5⟩ : ∃ w5, w5 = w4 := ⟨_, rfl⟩
  subst hw5
  go_cut [7] (fun s7 wc => ∃ t : Int, s7 = .int .i64 t ∧ wc = w5 ∧ Aside0 (at_ < t ∧ t ≤ at_ + 5))
  case first =>
   by_cases hgt : a1 < at_ + 1 + v5
   ·
    have HT : Aside0 (at_ < a1 ∧ a1 ≤ at_ + 5) := ⟨zL HV5.out HAT.out⟩
    go_wp2
    go_meet
    exact ⟨_, rfl, rfl, HT⟩
   ·
    have HT : Aside0 (at_ < at_ + 1 + v5 ∧ at_ + 1 + v5 ≤ at_ + 5) := ⟨zE HV5.out⟩
    go_wp2
    go_meet
    exact ⟨_, rfl, rfl, HT⟩
  case rest =>
   obtain ⟨t, rfl, rfl, HT⟩ := hcut
   clear hs1 hs2 hs3 hs4
   go_upto_region 7 with fail
   go_cut [5] (fun s5 wc => ∃ (out2 : List S50), Aside0 (Kd.R k50 50 wc w.heap.size (fun _ => True) s5 out2) ∧ Aside0 (RdI w0 w wc g bs (q + 1 + 1 + 1 + 1)) ∧ Aside0 (out2.length = out.length + 1))
   case first =>
    go_region_law (first
     | (refine goes_ Tryz.func47 (by kernel_rfl) rfl #[.pointer (some ⟨g, 0, none⟩), .int .i64 5] (by rfl) rfl rfl zC ?_; refine (pickR (w0 := w0) (w := w) 5 HS.out HQB.out.2.2.1.1 HQB.out.2.2.1.2 ?d1 ?d2 ?hc).mono ?_; (case d1 => decide); (case d2 => decide); (case hc => exact (by repeat (first | exact HR4.out | apply RdI.alloc | apply RdI.drew))); rintro e w6 ⟨v6, hu0, hu1, rfl, hr, hr2⟩; refine ⟨_, rfl, ?_⟩; have HR6 := az hr; have HO6 := az (RdI.row (w := w) (p := q + 1 + 1) (by repeat (first | exact HR4.out | apply RdI.alloc | apply RdI.drew)) hr2 (zF HO4.out) (by decide)); obtain ⟨n, hn⟩ : ∃ n : Nat, v6 = (n : Int) := ⟨v6.toNat, by omega⟩; subst hn; obtain ⟨y, hy⟩ := size5_at (n := n) (by omega); have hn5 : (n : Int) < 5 := hu1; have hall := fun (W : World) => (blk_cell (blk_new W (.cells size5 3)) n).trans hy; have HY := az hy; (try have HL6 := az (RdI.litW (W1 := wc.drew) (a := size5) hr2 HR4.out.1.lt); try have hx6 := (show w6.cell? ⟨wc.heap.size, n, none⟩ = some (.int .i64 y) from (blk_cell HL6.out n).trans hy)); clear hr hr2 hy hu0 hu1)
     | (refine goes_ Tryz.func47 (by kernel_rfl) rfl #[.pointer (some ⟨g, 0, none⟩), .int .i64 3] (by rfl) rfl rfl zC ?_; refine (pickR (w0 := w0) (w := w) 3 HS.out HQB.out.2.2.2.1.1 HQB.out.2.2.2.1.2 ?d1 ?d2 ?hc).mono ?_; (case d1 => decide); (case d2 => decide); (case hc => exact (by repeat (first | exact HR6.out | apply RdI.alloc | apply RdI.drew))); rintro e w7 ⟨v7, _, _, rfl, hr, hr2⟩; refine ⟨_, rfl, ?_⟩; have HR7 := az hr; have HO7 := az (RdI.row (w := w) (p := q + 1 + 1 + 1) (by repeat (first | exact HR6.out | apply RdI.alloc | apply RdI.drew)) hr2 (zF HO6.out) (by decide)); (try have HL7 := az (RdI.litW (W1 := w6.drew) (a := size5) hr2 HR6.out.1.lt)); (try have hx7 := (show w7.cell? ⟨w6.heap.size, n, none⟩ = some (.int .i64 y) from (blk_cell HL7.out n).trans HY.out)); (try have hx8 := (show w7.cell? ⟨wc.heap.size, n, none⟩ = some (.int .i64 y) from (blk_cell (hr2.lit (show _ = _ from HL6.out) (Nat.ne_of_gt HR4.out.1.lt)) n).trans HY.out)); clear hr hr2)
     | ((try rw [alloc_drewD]); (try rw [alloc_drewD]); refine Kd.R_append_step k50 w.heap.size (by rfl) (.tmp 33) (.tmp 44) 27 50 _ 32 rfl Tryz.underlying27 info50 rfl (by decide) (by omega) (.slice A2 out.length c2) out (⟨at_, t, y, v7⟩ : S50) [.int .i64 at_, .int .i64 t, .int .i64 y, .int .i64 v7] (fun _ => True) (fun _ => False) ?a1 ?a2 ?aP (fun _ hk => hk.elim) (fun _ _ => trivial) ?aO (Below.refl _ _) ?aS ?aL ?_; (case a1 => rfl); (case a2 => first | rfl | (rw [World.size_alloc]; rfl)); (case aP => exact k50_mkM _ _ _ (⟨at_, t, y, v7⟩ : S50)); (case aO => (with_reducible repeat (first | apply Kd.R_alloc | apply Kd.R_drewN | apply Kd.R_drew)); exact HO7.out); (case aS => exact (show RdI w0 w _ g bs (q + 1 + 1 + 1 + 1) by repeat (first | exact HR7.out | apply RdI.alloc | apply RdI.drew)).2.2.2.2); (case aL => have := HGG.out.2; omega); intro v9 w9 ho9 hb9 hg9 hat9; have HO9 := az ho9; have HR9 := az (RdI.app (show RdI w0 w _ g bs (q + 1 + 1 + 1 + 1) by repeat (first | exact HR7.out | apply RdI.alloc | apply RdI.drew)) (show Kd.R k50 50 _ w.heap.size (fun _ => True) (.slice A2 out.length c2) out from (zF HO7.out)) (by decide) hg9 hb9); clear ho9 hb9 hg9 hat9))
    all_goals
     go_wp2
     go_meet
     exact ⟨_, HO9, HR9, ⟨by simp⟩⟩
   case rest =>
    obtain ⟨out2, HO5, HR5, HL5⟩ := hcut
    go_wp2_with (go_at_call 47; go_must (refine (pickR 3 HS.out HQB.out.2.2.2.2.1 HQB.out.2.2.2.2.2 (by decide) (by decide) HR5.out).mono ?_); rintro e w6 ⟨v3, hv0, hv1, rfl, hr, hr2⟩; have HR6 := az hr; have HO6 := az (HR5.out.row hr2 HO5.out (by decide)); obtain ⟨hs3, hs4⟩ := sum_fit (a := t) (b := v3) (zL HQ.out HT.out) (zL HQ.out HT.out) hv0 (by omega); have HV6 := az (And.intro hv0 hv1); clear hr hr2 hv0 hv1)
    go_roundg (12 - out2.length)
    case measure => have := HGG.out; have := HL5.out; omega
    case rel => exact ⟨out2, t + v3, q + 1 + 1 + 1 + 1 + 1, rfl, Nat.le_refl _, ⟨by have := HQ.out; have := HT.out; have := HV6.out; have := HL5.out; have := HGG.out; omega⟩, HO6, HR6⟩
theorem spanSet {W : World} {base b n cap : Nat} {xs : List S50} (h : Kd.R k50 50 W base (fun _ => True) (.slice (some ⟨b, 0, none⟩) n cap) xs) (k : Nat) (hk : k < n) :
  ∀ j, j < 4 → (∃ y : Int, W.cell? ⟨b, k * 4 + j, none⟩ = some (.int .i64 y)) ∧ W.frozen? ⟨b, k * 4 + j, none⟩ = false ∧ ∀ x : Int, (∃ xs' : List S50, xs'.length = xs.length ∧ Kd.R k50 50 (W.setCell ⟨b, k * 4 + j, none⟩ (.int .i64 x)) base (fun _ => True) (.slice (some ⟨b, 0, none⟩) n cap) xs') ∧ W.grownBy (W.setCell ⟨b, k * 4 + j, none⟩ (.int .i64 x)) (some b) := by
 intro j hj
 obtain ⟨ce, hcl, hM, hcc, hfr⟩ := Kd.R_elem h z50 (k : Int) (by omega) (by omega)
 obtain rfl := k50_openM hM
 rw [Int.toNat_natCast] at hcc hfr
 have e4 : k50.sz = 4 := rfl
 rw [e4] at hcc hfr
 have hj4 : j = 0 ∨ j = 1 ∨ j = 2 ∨ j = 3 := by omega
 obtain ⟨y, hy⟩ : ∃ y, xs.getD ((k : Int)).toNat z50 = y := ⟨_, rfl⟩
 rcases hj4 with rfl | rfl | rfl | rfl
 all_goals
  refine ⟨⟨_, hcc _ _ rfl⟩, hfr _, fun x => ?_⟩
 ·
  have hp := Kd.R_seg h (k : Int) (by omega) (by omega) (seg := [.int .i64 x]) (j := 0) hcl (by rw [Int.toNat_natCast, e4]; exact hcc) (show 1 ≤ 4 by decide) (k50_mkM _ _ _ (⟨x, _, _, _⟩ : S50)) (fun _ hk => hk)
  rw [Int.toNat_natCast, e4] at hp
  exact ⟨⟨_, by simp, hp.1⟩, hp.2⟩
 ·
  have hp := Kd.R_seg h (k : Int) (by omega) (by omega) (seg := [.int .i64 x]) (j := 1) hcl (by rw [Int.toNat_natCast, e4]; exact hcc) (show 2 ≤ 4 by decide) (k50_mkM _ _ _ (⟨_, x, _, _⟩ : S50)) (fun _ hk => hk)
  rw [Int.toNat_natCast, e4] at hp
  exact ⟨⟨_, by simp, hp.1⟩, hp.2⟩
 ·
  have hp := Kd.R_seg h (k : Int) (by omega) (by omega) (seg := [.int .i64 x]) (j := 2) hcl (by rw [Int.toNat_natCast, e4]; exact hcc) (show 3 ≤ 4 by decide) (k50_mkM _ _ _ (⟨_, _, x, _⟩ : S50)) (fun _ hk => hk)
  rw [Int.toNat_natCast, e4] at hp
  exact ⟨⟨_, by simp, hp.1⟩, hp.2⟩
 ·
  have hp := Kd.R_seg h (k : Int) (by omega) (by omega) (seg := [.int .i64 x]) (j := 3) hcl (by rw [Int.toNat_natCast, e4]; exact hcc) (show 4 ≤ 4 by decide) (k50_mkM _ _ _ (⟨_, _, _, x⟩ : S50)) (fun _ hk => hk)
  rw [Int.toNat_natCast, e4] at hp
  exact ⟨⟨_, by simp, hp.1⟩, hp.2⟩
theorem spanCells {W : World} {base b n cap : Nat} {xs : List S50} (h : Kd.R k50 50 W base (fun _ => True) (.slice (some ⟨b, 0, none⟩) n cap) xs) (k : Nat) (hk : k < n) :
  ∃ y0 y1 y2 y3 : Int, (W.cell? ⟨b, k * 4, none⟩ = some (.int .i64 y0) ∧ W.cell? ⟨b, k * 4 + 1, none⟩ = some (.int .i64 y1) ∧ W.cell? ⟨b, k * 4 + 2, none⟩ = some (.int .i64 y2) ∧ W.cell? ⟨b, k * 4 + 3, none⟩ = some (.int .i64 y3)) ∧ W.frozen? ⟨b, k * 4, none⟩ = false ∧ W.frozen? ⟨b, k * 4 + 1, none⟩ = false ∧ W.frozen? ⟨b, k * 4 + 2, none⟩ = false ∧ W.frozen? ⟨b, k * 4 + 3, none⟩ = false := by
 have hj := spanSet h k hk
 obtain ⟨⟨y0, c0⟩, f0, _⟩ := hj 0 (by decide)
 obtain ⟨⟨y1, c1⟩, f1, _⟩ := hj 1 (by decide)
 obtain ⟨⟨y2, c2⟩, f2, _⟩ := hj 2 (by decide)
 obtain ⟨⟨y3, c3⟩, f3, _⟩ := hj 3 (by decide)
 exact ⟨y0, y1, y2, y3, ⟨c0, c1, c2, c3⟩, f0, f1, f2, f3⟩
theorem lt_cases6 {v : Int} (h0 : 0 ≤ v) (h1 : v < 6) : v = 0 ∨ v = 1 ∨ v = 2 ∨ v = 3 ∨ v = 4 ∨ v = 5 := by omega
theorem spoilE {w0 w : World} {g : Nat} {bs : List Int} {p : Int} (A1 : Option Addr) (c1 : Nat) (l1 : List S50) (a2 : Int) (ha0 : 0 ≤ a2) (ha1 : a2 ≤ 1000) (hl : l1.length ≤ 12) (hs : DrS bs) (h0 : 0 ≤ p) (h1 : p ≤ 900000) (hI : IsS86 w0 w g bs p) (hB : Below w0.heap.size w0 w) (hC : Kd.C k50 w A1 l1.length l1) :
  Calls Tryz.prog 75 #[.pointer (some ⟨g, 0, none⟩), .slice A1 l1.length c1, .int .i64 a2] w fun e w' => ∃ (v : Value) (l : List S50) (p' : Int), p ≤ p' ∧ p' ≤ p + 10 ∧ l.length ≤ 13 ∧ e = .returned v ∧ Kd.R k50 50 w' w.heap.size (fun _ => True) v l ∧ RdI w0 w w' g bs p' := by
 have HS := az hs
 have HI := az (RdI.start hI hB)
 have HP := az (show (0 ≤ p ∧ p ≤ 1000000) ∧ (0 ≤ p + 1 ∧ p + 1 ≤ 1000000) ∧ (0 ≤ p + 1 + 1 ∧ p + 1 + 1 ≤ 1000000) ∧ p ≤ p + 10 ∧ (p ≤ p + 1 + 1 ∧ p + 1 + 1 ≤ p + 10) ∧ (p ≤ p + 1 + 1 + 1 ∧ p + 1 + 1 + 1 ≤ p + 10) by omega)
 obtain ⟨hs1, hs2⟩ := sum_fit (a := a2) (b := 1) ha0 (by omega) (by decide) (by decide)
 have HC := az hC
 have HL := az hl
 clear hs hI hB h0 h1 ha0 ha1 hC hl
 go_enter Tryz.func75, Tryz.ntmps75
 go_upto_if 14 with (first
  | ((with_reducible refine gate_dst (N := 9) rfl ?_); refine Kd.R_lit k50 w.heap.size 50 ?hg (N := 9) ?hd (xs := ([] : List S50)) (inner := []) (ok := fun _ => True) (okp := fun _ => True) ?hr ?hp (fun _ hk => hk) trivial (Below.refl _ _) (Nat.le_refl _) (by simp) ?_; (case hd => rfl); (case hg => rfl); (case hr => first | (go_simp; done) | (go_simp; rfl)); (case hp => exact (Reps.none _ _)); intro v1 w1 ho1 hb1 hg_ hnew_; clear hg_ hnew_; have HO1 := az ho1; have HR1 := az (HI.out.below hb1); have HC1 := az (Kd.C_below HC.out hb1); clear ho1 hb1)
  | ((with_reducible refine gate_builtin (b := .append) (xs := #[.tmp 9, .tmp 10]) rfl ?_); at_builtin; go_must (refine Kd.R_append_rows k50 (w0 := w1) w.heap.size rfl (.tmp 9) (.tmp 10) 27 50 _ 32 rfl Tryz.underlying27 info50 rfl (by decide) (by omega) _ [] l1 A1 l1.length c1 (fun _ => True) (fun _ => False) rfl rfl HO1.out HC1.out (fun x cs h => by obtain rfl := k50_open h; exact k50_mkM _ _ _ x) (fun _ hk => hk.elim) (fun _ _ => trivial) (Below.refl _ _) HR1.out.2.2.2.2 ?aL ?_); (case aL => have := HL.out; simp; omega); intro v2 w2 ho2 hb2 hg2 hat2; have HO2 := az (show Kd.R k50 50 w2 w.heap.size (fun _ => True) v2 l1 from ho2); have HR2 := az (HR1.out.app HO1.out (by decide) hg2 hb2); obtain ⟨A2, c2, e2⟩ := Kd.R_slice HO2.out; subst e2; clear ho2 hb2 hg2 hat2))
 by_cases hz : l1.length = 0
 ·
  have bz : ((l1.length : Int) == 0) = true := by rw [hz]; rfl
  clear hz
  go_wp2_with ((with_reducible refine gate_dst (N := 18) rfl ?_); refine Kd.R_lit k50 w.heap.size 50 ?hg (N := 18) ?hd (xs := [(⟨0, a2 + 1, 10, 0⟩ : S50)]) (inner := [.int .i64 0, .int .i64 (a2 + 1), .int .i64 10, .int .i64 0]) (ok := fun _ => True) (okp := fun _ => True) ?hr ?hp (fun _ hk => hk) trivial (Below.refl _ _) HR2.out.2.2.2.2 (by simp) ?_; (case hd => rfl); (case hg => rfl); (case hr => first | (go_simp; done) | (go_simp; rfl)); (case hp => exact Reps.c4 (k50_mkM _ _ _ (⟨0, a2 + 1, 10, 0⟩ : S50)) (Reps.none _ _)); intro v3 w3 ho3 hb3 hg3 hnew_; have HO3 := az ho3; have HR3 := az (HR2.out.grown hg3); clear ho3 hb3 hg3 hnew_)
  go_ret
  exact ⟨_, _, p, Int.le_refl _, HP.out.2.2.2.1, by simp, rfl, HO3.out, HR3.out⟩
 ·
  have bz : ((l1.length : Int) == 0) = false := beq_eq_false_iff_ne.mpr (by omega)
  have hpos : 0 < l1.length := by omega
  obtain ⟨b, cap, he, hb1, _, _⟩ := Kd.R_form HO2.out hpos
  injection he with he1 he2 he3
  subst he1
  subst he3
  have HB1 := az hb1
  have HLP := az (show (1 : Int) ≤ (l1.length : Int) ∧ (l1.length : Int) ≤ 1000000 from (zE HL.out))
  clear hz hb1 he2 hpos
  go_upto_if 35 with (first
   | (go_at_call 47; with_reducible refine (pickR (w0 := w0) (w := w) (l1.length : Int) HS.out HP.out.1.1 HP.out.1.2 HLP.out.1 HLP.out.2 HR2.out).mono ?_; rintro e w3 ⟨v3, hv0, hv1, rfl, hr, hr2⟩; have HR3 := az hr; have HO3 := az (HR2.out.row hr2 HO2.out (by decide)); obtain ⟨k, hk⟩ : ∃ k : Nat, v3 = (k : Int) := ⟨v3.toNat, by omega⟩; subst hk; have HK := az (show k < l1.length by omega); have hkz : (k : Int) < (l1.length : Int) := hv1; clear hr hr2 hv0 hv1)
   | (go_at_call 47; go_must (refine (pickR (w0 := w0) (w := w) 6 HS.out HP.out.2.1.1 HP.out.2.1.2 (by decide) (by decide) HR3.out).mono ?_); rintro e w4 ⟨v4, hv0, hv1, rfl, hr, hr2⟩; have HR4 := az hr; have HO4 := az (HR3.out.row hr2 HO3.out (by decide)); have HV := az (lt_cases6 hv0 hv1); obtain ⟨y0, y1, y2, y3, ⟨c0, c1, c2, c3⟩, f0, f1, f2, f3⟩ := spanCells HO4.out k HK.out; clear hr hr2 hv0 hv1))
  have hv := HV.out
  clear HV
  rcases hv with rfl | rfl | rfl | rfl | rfl | rfl
  ·
   clear f0 f1 f2 f3
   go_wp2_with (go_at_call 73; go_must (refine (oneLit _ _ _ HS.out HP.out.2.2.1.1 HP.out.2.2.1.2 HR4.out ?hg ?ha ?hn (by decide)).mono ?_); (case hg => rfl); (case ha => rfl); (case hn => rfl); rintro e w5 ⟨x, rfl, hr5, hr6⟩; have HR5 := az hr5; have HO5 := az (HR4.out.row hr6 HO4.out (by decide)); obtain ⟨z0, z1, z2, z3, ⟨d0, d1, d2, d3⟩, g0, g1, g2, g3⟩ := spanCells HO5.out k HK.out; clear hr5 hr6)
   go_ret
   obtain ⟨⟨xs', hx1, hx2⟩, hx3⟩ := (spanSet HO5.out k HK.out 0 (by decide)).2.2 x
   exact ⟨_, xs', p + 1 + 1 + 1, HP.out.2.2.2.2.2.1, HP.out.2.2.2.2.2.2, zE HL.out, rfl, hx2, HR5.out.app HO5.out (by decide) hx3 ((Below.refl _ _).setCell (p := ⟨b, k * 4 + 0, none⟩) HB1.out _)⟩
  ·
   clear f0 f1 f2 f3
   go_wp2_with (go_at_call 73; go_must (refine (oneLit _ _ _ HS.out HP.out.2.2.1.1 HP.out.2.2.1.2 HR4.out ?hg ?ha ?hn (by decide)).mono ?_); (case hg => rfl); (case ha => rfl); (case hn => rfl); rintro e w5 ⟨x, rfl, hr5, hr6⟩; have HR5 := az hr5; have HO5 := az (HR4.out.row hr6 HO4.out (by decide)); obtain ⟨z0, z1, z2, z3, ⟨d0, d1, d2, d3⟩, g0, g1, g2, g3⟩ := spanCells HO5.out k HK.out; clear hr5 hr6)
   go_ret
   obtain ⟨⟨xs', hx1, hx2⟩, hx3⟩ := (spanSet HO5.out k HK.out 1 (by decide)).2.2 x
   exact ⟨_, xs', p + 1 + 1 + 1, HP.out.2.2.2.2.2.1, HP.out.2.2.2.2.2.2, zE HL.out, rfl, hx2, HR5.out.app HO5.out (by decide) hx3 ((Below.refl _ _).setCell (p := ⟨b, k * 4 + 1, none⟩) HB1.out _)⟩
  ·
   clear f0 f1 f2 f3
   go_wp2_with (go_at_call 73; go_must (refine (oneLit _ _ _ HS.out HP.out.2.2.1.1 HP.out.2.2.1.2 HR4.out ?hg ?ha ?hn (by decide)).mono ?_); (case hg => rfl); (case ha => rfl); (case hn => rfl); rintro e w5 ⟨x, rfl, hr5, hr6⟩; have HR5 := az hr5; have HO5 := az (HR4.out.row hr6 HO4.out (by decide)); obtain ⟨z0, z1, z2, z3, ⟨d0, d1, d2, d3⟩, g0, g1, g2, g3⟩ := spanCells HO5.out k HK.out; clear hr5 hr6)
   go_ret
   obtain ⟨⟨xs', hx1, hx2⟩, hx3⟩ := (spanSet HO5.out k HK.out 2 (by decide)).2.2 x
   exact ⟨_, xs', p + 1 + 1 + 1, HP.out.2.2.2.2.2.1, HP.out.2.2.2.2.2.2, zE HL.out, rfl, hx2, HR5.out.app HO5.out (by decide) hx3 ((Below.refl _ _).setCell (p := ⟨b, k * 4 + 2, none⟩) HB1.out _)⟩
  ·
   clear f0 f1 f2 f3
   go_wp2_with (go_at_call 73; go_must (refine (oneLit _ _ _ HS.out HP.out.2.2.1.1 HP.out.2.2.1.2 HR4.out ?hg ?ha ?hn (by decide)).mono ?_); (case hg => rfl); (case ha => rfl); (case hn => rfl); rintro e w5 ⟨x, rfl, hr5, hr6⟩; have HR5 := az hr5; have HO5 := az (HR4.out.row hr6 HO4.out (by decide)); obtain ⟨z0, z1, z2, z3, ⟨d0, d1, d2, d3⟩, g0, g1, g2, g3⟩ := spanCells HO5.out k HK.out; clear hr5 hr6)
   go_ret
   obtain ⟨⟨xs', hx1, hx2⟩, hx3⟩ := (spanSet HO5.out k HK.out 3 (by decide)).2.2 x
   exact ⟨_, xs', p + 1 + 1 + 1, HP.out.2.2.2.2.2.1, HP.out.2.2.2.2.2.2, zE HL.out, rfl, hx2, HR5.out.app HO5.out (by decide) hx3 ((Below.refl _ _).setCell (p := ⟨b, k * 4 + 3, none⟩) HB1.out _)⟩
  ·
   have HLB := HL
   go_wp2_with ((with_reducible refine gate_builtin (b := .append) (xs := #[.tmp 81, .tmp 86]) rfl ?_); at_builtin; go_must (refine Kd.R_append k50 (w0 := w4) w.heap.size rfl (.tmp 81) (.tmp 86) 27 50 _ 32 rfl Tryz.underlying27 info50 rfl (by decide) (by omega) _ l1 (⟨y0, y1, y2, y3⟩ : S50) [.int .i64 y0, .int .i64 y1, .int .i64 y2, .int .i64 y3] (fun _ => True) (fun _ => False) rfl rfl ?aP (fun _ hk => hk.elim) (fun _ _ => trivial) HO4.out (Below.refl _ _) HR4.out.2.2.2.2 ?aL ?_); (case aP => exact k50_mkM _ _ _ (⟨y0, y1, y2, y3⟩ : S50)); (case aL => have := HLB.out; omega); intro v9 w9 ho9 hb9 hg9 hat9; have HO9 := az ho9; have HR9 := az (RdI.app HR4.out HO4.out (by decide) hg9 hb9); clear ho9 hb9 hg9 hat9)
   go_ret
   exact ⟨_, _, p + 1 + 1, HP.out.2.2.2.2.1.1, HP.out.2.2.2.2.1.2, by have := HL.out; simp; omega, rfl, HO9.out, HR9.out⟩
  ·
   clear f0 f1 f2 f3
   go_wp2
   clear c0 c1 c2 c3 bz
   go_loopg [7] 14 (fun gg s7 wr => ∃ (xs : List S50), 13 - xs.length ≤ gg ∧ Aside0 (k < xs.length ∧ xs.length ≤ 13) ∧ Aside0 (Kd.R k50 50 wr w.heap.size (fun _ => True) s7 xs) ∧ Aside0 (RdI w0 w wr g bs (p + 1 + 1)))
   case atStart => exact ⟨l1, by omega, ⟨HK.out, zE HL.out⟩, HO4, HR4⟩
   case round =>
    obtain ⟨xs, hgg, HQ, HOx, HRx⟩ := hrel
    obtain ⟨b2, cap2, he, _, _, _⟩ := Kd.R_form HOx.out (zE HQ.out)
    subst he
    obtain ⟨y0, y1, y2, y3, ⟨c0, c1, c2, c3⟩, _⟩ := spanCells HOx.out k HQ.out.1
    by_cases hlt : xs.length ≤ 12
    ·
     have hltz : (xs.length : Int) ≤ 12 := by omega
     have hkz2 : (k : Int) < (xs.length : Int) := by have := HQ.out; omega
     have HLB := az hlt
     have HGG := az hgg
     clear hgg hlt
     go_wp2_with ((with_reducible refine gate_builtin (b := .append) (xs := #[.tmp 28, .tmp 33]) rfl ?_); at_builtin; go_must (refine Kd.R_append k50 (w0 := wr) w.heap.size rfl (.tmp 28) (.tmp 33) 27 50 _ 32 rfl Tryz.underlying27 info50 rfl (by decide) (by omega) _ xs (⟨y0, y1, y2, y3⟩ : S50) [.int .i64 y0, .int .i64 y1, .int .i64 y2, .int .i64 y3] (fun _ => True) (fun _ => False) rfl rfl ?aP (fun _ hk => hk.elim) (fun _ _ => trivial) HOx.out (Below.refl _ _) HRx.out.2.2.2.2 ?aL ?_); (case aP => exact k50_mkM _ _ _ (⟨y0, y1, y2, y3⟩ : S50)); (case aL => have := HLB.out; omega); intro v9 w9 ho9 hb9 hg9 hat9; have HO9 := az ho9; have HR9 := az (RdI.app HRx.out HOx.out (by decide) hg9 hb9); clear ho9 hb9 hg9 hat9)
     go_roundg (12 - xs.length)
     case measure => have := HGG.out; have := HLB.out; omega
     case rel => exact ⟨xs ++ [_], by simp only [List.length_append, List.length_cons, List.length_nil]; omega, ⟨by have := HQ.out; have := HLB.out; simp only [List.length_append, List.length_cons, List.length_nil]; omega⟩, HO9, HR9⟩
    ·
     have hltz : ¬ (xs.length : Int) ≤ 12 := by omega
     clear hgg
     go_wp2
     go_ret
     exact ⟨_, xs, p + 1 + 1, HP.out.2.2.2.2.1.1, HP.out.2.2.2.2.1.2, HQ.out.2, rfl, HOx.out, HRx.out⟩
theorem anyE {w0 w : World} {g : Nat} {bs : List Int} {p : Int} (a1 : Int) (ha0 : 0 ≤ a1) (ha1 : a1 ≤ 1000) (hs : DrS bs) (h0 : 0 ≤ p) (h1 : p ≤ 700000) (hI : IsS86 w0 w g bs p) (hB : Below w0.heap.size w0 w) :
  Calls Tryz.prog 45 #[.pointer (some ⟨g, 0, none⟩), .int .i64 a1] w fun e w' => ∃ (v : Value) (l : List S50) (p' : Int), p ≤ p' ∧ p' ≤ p + 200 ∧ l.length ≤ 13 ∧ e = .returned v ∧ Kd.R k50 50 w' w.heap.size (fun _ => True) v l ∧ RdI w0 w w' g bs p' := by
 have HS := az hs
 have HI := az (RdI.start hI hB)
 have HP := az (show 0 ≤ p ∧ p ≤ 700000 ∧ p ≤ 800000 by omega)
 have HA := az (And.intro ha0 ha1)
 clear hs hI hB h0 h1 ha0 ha1
 go_enter Tryz.func45, Tryz.ntmps45
 go_upto_if 11 with (first
  | (go_at_call 74; go_must (refine (spansE a1 HA.out.1 HA.out.2 HS.out HP.out.1 HP.out.2.2 HI.out.1 HI.out.2.1).mono ?_); rintro e w1 ⟨v1, l, q, hq1, hq2, hl, rfl, ho, hr⟩; have HO1 := az ho; have HR1 := az hr; have HQ := az (And.intro hq1 (And.intro hq2 hl)); have HQ2 := az (show 0 ≤ q ∧ q ≤ 1000000 ∧ 0 ≤ q + 1 ∧ q + 1 ≤ 900000 from (zE HP.out)); obtain ⟨A2, c2, e2⟩ := Kd.R_slice ho; subst e2; clear ho hr hq1 hq2 hl)
  | (go_at_call 47; go_must (refine (pickR (w0 := w0) (w := w) 12 HS.out HQ2.out.1 HQ2.out.2.1 (by decide) (by decide) HR1.out).mono ?_); rintro e w2 ⟨v2, _, _, rfl, hr, hr2⟩; have HR2 := az hr; have HO2 := az (HR1.out.row hr2 HO1.out (by decide)); clear hr hr2))
 by_cases hz : v2 = 0
 ·
  have bz : (v2 == 0) = true := beq_iff_eq.mpr hz
  clear hz
  go_wp2_with (go_at_call 75; go_must (refine (spoilE A2 c2 l a1 HA.out.1 HA.out.2 HQ.out.2.2 HS.out HQ2.out.2.2.1 HQ2.out.2.2.2 HR2.out.1 HR2.out.2.1 (Kd.R_reads' HO2.out).2.2).mono ?_); rintro e w3 ⟨v3, l3, q3, hq1, hq2, hl, rfl, ho, hr⟩; have HO3 := az (Kd.R_lower ho HR2.out.2.2.2.2); have HR3 := az (HR2.out.step hr); have HQ3 := az (And.intro hq1 (And.intro hq2 hl)); clear ho hr hq1 hq2 hl)
  go_ret
  exact ⟨_, l3, q3, zL HQ.out HQ3.out, zL HQ.out HQ3.out, HQ3.out.2.2, rfl, HO3.out, HR3.out⟩
 ·
  have bz : (v2 == 0) = false := beq_eq_false_iff_ne.mpr hz
  clear hz
  go_wp2
  go_ret
  exact ⟨_, l, q + 1, zE HQ.out, zE HQ.out, zE HQ.out, rfl, HO2.out, HR2.out⟩
theorem anyR {w0 w W : World} {g : Nat} {bs : List Int} {p : Int} (a1 : Int) (ha0 : 0 ≤ a1) (ha1 : a1 ≤ 1000) (hs : DrS bs) (h0 : 0 ≤ p) (h1 : p ≤ 700000) (h : RdI w0 w W g bs p) :
  Calls Tryz.prog 45 #[.pointer (some ⟨g, 0, none⟩), .int .i64 a1] W fun e w' => ∃ (v : Value) (l : List S50) (p' : Int), p ≤ p' ∧ p' ≤ p + 200 ∧ l.length ≤ 13 ∧ e = .returned v ∧ Kd.R k50 50 w' W.heap.size (fun _ => True) v l ∧ RdI w0 w w' g bs p' ∧ RdI w0 W w' g bs p' := by
 refine (anyE a1 ha0 ha1 hs h0 h1 h.1 h.2.1).mono ?_
 rintro e w' ⟨v, l, p', h2, h3, h4, h5, h6, h7⟩
 exact ⟨v, l, p', h2, h3, h4, h5, h6, h.step h7, h7⟩
abbrev wide16 : Array Value := #[.int .i64 0, .int .i64 0, .int .i64 0, .int .i64 1, .int .i64 1, .int .i64 1, .int .i64 2, .int .i64 2, .int .i64 3, .int .i64 4, .int .i64 5, .int .i64 6, .int .i64 7, .int .i64 0, .int .i64 1, .int .i64 0]
theorem wide16_at {n : Nat} (hn : n < 16) : ∃ y : Nat, y < 8 ∧ wide16[n]? = some (.int .i64 (y : Int)) := by
 have h : n = 0 ∨ n = 1 ∨ n = 2 ∨ n = 3 ∨ n = 4 ∨ n = 5 ∨ n = 6 ∨ n = 7 ∨ n = 8 ∨ n = 9 ∨ n = 10 ∨ n = 11 ∨ n = 12 ∨ n = 13 ∨ n = 14 ∨ n = 15 := by omega
 rcases h with rfl | rfl | rfl | rfl | rfl | rfl | rfl | rfl | rfl | rfl | rfl | rfl | rfl | rfl | rfl | rfl
 all_goals first | exact ⟨0, by decide, rfl⟩ | exact ⟨1, by decide, rfl⟩ | exact ⟨2, by decide, rfl⟩ | exact ⟨3, by decide, rfl⟩ | exact ⟨4, by decide, rfl⟩ | exact ⟨5, by decide, rfl⟩ | exact ⟨6, by decide, rfl⟩ | exact ⟨7, by decide, rfl⟩
theorem wide8_at (a b c d e f g h : Int) {n : Nat} (hn : n < 8) : ∃ y : Int, (#[.int .i64 a, .int .i64 b, .int .i64 c, .int .i64 d, .int .i64 e, .int .i64 f, .int .i64 g, .int .i64 h] : Array Value)[n]? = some (.int .i64 y) := by
 have hh : n = 0 ∨ n = 1 ∨ n = 2 ∨ n = 3 ∨ n = 4 ∨ n = 5 ∨ n = 6 ∨ n = 7 := by omega
 rcases hh with rfl | rfl | rfl | rfl | rfl | rfl | rfl | rfl
 all_goals exact ⟨_, rfl⟩
theorem wide_cells {w0 w W W' : World} {g : Nat} {bs : List Int} {p q : Int} {a b : Array Value} (h0 : RdI w0 w W g bs q) (h : RdI w0 ((W.alloc (.cells a 3)).alloc (.cells b 3)) W' g bs p) : (∀ i x, a[i]? = some x → W'.cell? ⟨W.heap.size, i, none⟩ = some x) ∧ ∀ i x, b[i]? = some x → W'.cell? ⟨W.heap.size + 1, i, none⟩ = some x := by
 have hlt := h0.1.lt
 have h2 := blk_new (W.alloc (.cells a 3)) (.cells b 3)
 rw [show (W.alloc (.cells a 3)).heap.size = W.heap.size + 1 by simp] at h2
 exact ⟨fun i x hx => (blk_cell (h.lit (blk_alloc (blk_new W _) _) (by omega)) i).trans hx, fun i x hx => (blk_cell (h.lit h2 (by omega)) i).trans hx⟩
theorem wideE {w0 w : World} {g : Nat} {bs : List Int} {p : Int} (hs : DrS bs) (h0 : 0 ≤ p) (h1 : p ≤ 900000) (hI : IsS86 w0 w g bs p) (hB : Below w0.heap.size w0 w) :
  Calls Tryz.prog 46 #[.pointer (some ⟨g, 0, none⟩)] w fun e w' => ∃ v p' : Int, p ≤ p' ∧ p' ≤ p + 4 ∧ e = .returned (.int .i64 v) ∧ RdI w0 w w' g bs p' := by
 have HS := az hs
 have HI := az (RdI.start hI hB)
 have HP := az (show (0 ≤ p ∧ p ≤ 1000000) ∧ (0 ≤ p + 1 ∧ p + 1 ≤ 1000000) ∧ (0 ≤ p + 1 + 1 ∧ p + 1 + 1 ≤ 1000000) ∧ (0 ≤ p + 1 + 1 + 1 ∧ p + 1 + 1 + 1 ≤ 1000000) ∧ p ≤ p + 1 + 1 + 1 + 1 ∧ p + 1 + 1 + 1 + 1 ≤ p + 4 by omega)
 clear hs hI hB h0 h1
 go_enter Tryz.func46, Tryz.ntmps46
 go_wp2_with (first
  | (go_at_call 47; with_reducible refine (pickR 1200 HS.out HP.out.1.1 HP.out.1.2 ?d1 ?d2 HI.out).mono ?_; (case d1 => decide); (case d2 => decide); rintro e w1 ⟨v1, _, _, rfl, hr, _⟩; have HR1 := az hr; clear hr)
  | (go_at_call 47; with_reducible refine (pickR 400 HS.out HP.out.2.1.1 HP.out.2.1.2 ?d1 ?d2 HR1.out).mono ?_; (case d1 => decide); (case d2 => decide); rintro e w2 ⟨v2, _, _, rfl, hr, _⟩; have HR2 := az hr; clear hr)
  | (go_at_call 47; with_reducible refine (pickR 300 HS.out HP.out.2.2.1.1 HP.out.2.2.1.2 ?d1 ?d2 HR2.out).mono ?_; (case d1 => decide); (case d2 => decide); rintro e w3 ⟨v3, _, _, rfl, hr, _⟩; have HR3 := az hr; clear hr))
 with_reducible refine (pickR 16 HS.out HP.out.2.2.2.1.1 HP.out.2.2.2.1.2 ?d1 ?d2 ((HR3.out.alloc _).alloc _)).mono ?_
 case d1 => decide
 case d2 => decide
 rintro e w4 ⟨v4, hv0, hv1, rfl, hr, hr2⟩
 have HR4 := az hr
 have hcc := wide_cells HR3.out hr2
 obtain ⟨n, hn⟩ : ∃ n : Nat, v4 = (n : Int) := ⟨v4.toNat, by omega⟩
 subst hn
 obtain ⟨y, hy1, hy2⟩ := wide16_at (n := n) (by omega)
 have hx1 := hcc.2 n _ hy2
 obtain ⟨z, hz⟩ := wide8_at (400 + v1) (500 + v2) 600 v3 20000 0 (-1) 20001 hy1
 have hx2 := hcc.1 y _ hz
 have hyz : (y : Int) < 8 := by omega
 clear hr hr2 hcc hz hy2 hy1
 go_wp2
 go_ret
 exact ⟨_, _, HP.out.2.2.2.2.1, HP.out.2.2.2.2.2, rfl, HR4.out⟩
theorem wideR {w0 w W : World} {g : Nat} {bs : List Int} {p : Int} (hs : DrS bs) (h0 : 0 ≤ p) (h1 : p ≤ 900000) (h : RdI w0 w W g bs p) :
  Calls Tryz.prog 46 #[.pointer (some ⟨g, 0, none⟩)] W fun e w' => ∃ v p' : Int, p ≤ p' ∧ p' ≤ p + 4 ∧ e = .returned (.int .i64 v) ∧ RdI w0 w w' g bs p' ∧ RdI w0 W w' g bs p' := by
 refine (wideE hs h0 h1 h.1 h.2.1).mono ?_
 rintro e w' ⟨v, p', h2, h3, h4, h5⟩
 exact ⟨v, p', h2, h3, h4, h.step h5, h5⟩
abbrev mode5 : Array Value := #[.int .i64 0, .int .i64 1, .int .i64 0, .int .i64 1, .int .i64 2]
theorem mode5_at {n : Nat} (hn : n < 5) : ∃ y : Int, mode5[n]? = some (.int .i64 y) := by
 have h : n = 0 ∨ n = 1 ∨ n = 2 ∨ n = 3 ∨ n = 4 := by omega
 rcases h with rfl | rfl | rfl | rfl | rfl
 all_goals exact ⟨_, rfl⟩
theorem five16 {v : Int} (h0 : 0 ≤ v) (h1 : v < 16) : ∃ (aa : Int) (m : Nat), m < 5 ∧ wrap64 (v * 5) = aa ∧ IntKind.i64.wrap (v * 5) = aa ∧ wrap64 (Int.tdiv aa 16) = (m : Int) ∧ IntKind.i64.wrap (Int.tdiv aa 16) = (m : Int) := by
 have e1 : wrap64 (v * 5) = v * 5 := by unfold wrap64; omega
 have e2 : Int.tdiv (v * 5) 16 = ((v * 5 / 16).toNat : Int) := by
  rw [Int.tdiv_eq_ediv_of_nonneg (by omega)]
  omega
 have e3 : wrap64 (Int.tdiv (v * 5) 16) = ((v * 5 / 16).toNat : Int) := by rw [e2]; unfold wrap64; omega
 exact ⟨v * 5, (v * 5 / 16).toNat, by omega, e1, by rw [i64_w]; exact e1, e3, by rw [i64_w]; exact e3⟩
theorem open_f {l0 : List Int} (hb : ∀ x ∈ l0, 0 ≤ x ∧ x ≤ 255) : ∃ r, spec_l1Open.f l0 = some (r, 0) ∧ DrS r := by
 unfold spec_l1Open.f
 by_cases h : (l0.length : Int) > 2000
 ·
  rw [if_pos h, if_pos (by omega)]
  exact ⟨_, rfl, by rw [List.length_take]; omega, fun x hx => hb x (List.mem_of_mem_take hx)⟩
 ·
  rw [if_neg h]
  exact ⟨_, rfl, by omega, hb⟩
theorem results_tmp4 {fn : Func} {t u v x : Tmp} (h : fn.results = #[.tmp t, .tmp u, .tmp v, .tmp x]) (tmps : Array Value) (P : Program) (w : World) :
  (results fn tmps).run P w = .ok (.tuple #[tmps.getD t undef, tmps.getD u undef, tmps.getD v undef, tmps.getD x undef]) w := by
 simp [results, h]
theorem drawLinesE {w : World} (A0 : Option Addr) (c0 : Nat) (l0 : List Int) (hb : ∀ x ∈ l0, 0 ≤ x ∧ x ≤ 255) (hC : Kd.C (Kd.int .u8) w A0 l0.length l0) (hc0 : l0.length ≤ c0) :
  Calls Tryz.prog 21 #[.slice A0 l0.length c0] w fun e w' => ∃ (v0 v1 : Value) (l : List Int) (sp : List S50) (wd md : Int), l.length ≤ 200 ∧ sp.length ≤ 13 ∧ e = .returned (.tuple #[v0, v1, .int .i64 wd, .int .i64 md]) ∧ Kd.R (Kd.int .i64) 3 w' w.heap.size (fun _ => True) v0 l ∧ Kd.R k50 50 w' w.heap.size (fun _ => True) v1 sp ∧ Below w.heap.size w w' := by
 obtain ⟨bs, hf, hs⟩ := open_f hb
 have HF := az hf
 have HS := az hs
 have HC := az hC
 have HC0 := az hc0
 clear hb hC hc0 hf hs
 go_enter Tryz.func21, Tryz.ntmps21
 go_upto_region 3 with (first
  | (go_at_call 43; go_must (refine (spec_l1Open.calls A0 c0 l0 bs 0 w w (Below.refl _ _) HC.out HC0.out HF.out).mono ?_); rintro e w1 ⟨g, rfl, hi, hb1, _⟩; have HR1 := az (RdI.start hi hb1); clear hi hb1)
  | (go_at_call 44; go_must (refine (wordsE (w0 := w) (p := 0) HS.out (by decide) (by decide) HR1.out.1 HR1.out.2.1).mono ?_); rintro e w2 ⟨v2, l, q, hq1, hq2, hl, rfl, ho, hr⟩; have HR2 := az hr; have HO2 := az (Kd.R_lower ho HR1.out.2.1.size); have HQ := az (show (0 ≤ q ∧ q ≤ 700000) ∧ q ≤ 300 ∧ l.length ≤ 200 by omega); have HLN := az (show (0 : Int) ≤ (l.length : Int) ∧ (l.length : Int) ≤ 1000 by omega); obtain ⟨A2, c2, e2⟩ := Kd.R_slice ho; subst e2; clear ho hr hq1 hq2 hl))
 go_region_law (first
  | (refine goes_ Tryz.func45 (by kernel_rfl) rfl #[.pointer (some ⟨g, 0, none⟩), .int .i64 l.length] (by rfl) rfl rfl zC ?_; refine (anyR (w0 := w) (w := w1) (p := q) (l.length : Int) HLN.out.1 HLN.out.2 HS.out HQ.out.1.1 HQ.out.1.2 ?hc).mono ?_; (case hc => exact (by repeat (first | exact HR2.out | apply RdI.alloc | apply RdI.drew))); rintro e w3 ⟨v3, sp, q3, hq1, hq2, hsl, rfl, ho, hr0, hr⟩; refine ⟨_, rfl, ?_⟩; have HR3 := az hr0; have HO3 := az (RdI.row (w := w1) (p := q) (by repeat (first | exact HR2.out | apply RdI.alloc | apply RdI.drew)) hr (zF HO2.out) (by decide)); have HP3 := az (Kd.R_lower ho hr.2.2.2.1); have HQ3 := az (show (0 ≤ q3 ∧ q3 ≤ 900000) ∧ sp.length ≤ 13 from (zE HQ.out)); (first | have HLa := az (RdI.litW (W1 := w2.drew) (a := mode5) hr HR2.out.1.lt) | have HLa := az (RdI.litW (W1 := w2) (a := mode5) hr HR2.out.1.lt) | skip); clear ho hr hr0 hq1 hq2 hsl)
  | (refine goes_ Tryz.func46 (by kernel_rfl) rfl #[.pointer (some ⟨g, 0, none⟩)] (by rfl) rfl rfl zC ?_; refine (wideR (w0 := w) (w := w1) (p := q3) HS.out HQ3.out.1.1 HQ3.out.1.2 ?hc).mono ?_; (case hc => exact (by repeat (first | exact HR3.out | apply RdI.alloc | apply RdI.drew))); rintro e w4 ⟨wd, q4, hq1, hq2, rfl, hr0, hr⟩; refine ⟨_, rfl, ?_⟩; have HR4 := az hr0; have HO4 := az (RdI.row (w := w1) (p := q3) (by repeat (first | exact HR3.out | apply RdI.alloc | apply RdI.drew)) hr (zF HO3.out) (by decide)); have HP4 := az (RdI.row (w := w1) (p := q3) (by repeat (first | exact HR3.out | apply RdI.alloc | apply RdI.drew)) hr (zF HP3.out) (by decide)); have HQ4 := az (show 0 ≤ q4 ∧ q4 ≤ 1000000 from (zE HQ3.out)); (first | have HLb := az (hr.lit (show _ = _ from HLa.out) (Nat.ne_of_gt HR2.out.1.lt)) | have HLc := az (RdI.litW (W1 := w3.drew) (a := mode5) hr HR3.out.1.lt) | have HLc := az (RdI.litW (W1 := w3) (a := mode5) hr HR3.out.1.lt) | skip); clear hr hr0 hq1 hq2)
  | (refine goes_ Tryz.func47 (by kernel_rfl) rfl #[.pointer (some ⟨g, 0, none⟩), .int .i64 16] (by rfl) rfl rfl zC ?_; refine (pickR (w0 := w) (w := w1) (p := q4) 16 HS.out HQ4.out.1 HQ4.out.2 (by decide) (by decide) ?hc).mono ?_; (case hc => exact (by repeat (first | exact HR4.out | apply RdI.alloc | apply RdI.drew))); rintro e w5 ⟨v5, hv0, hv1, rfl, hr, hr2⟩; refine ⟨_, rfl, ?_⟩; have HR5 := az hr; have HO5 := az (RdI.row (w := w1) (p := q4) (by repeat (first | exact HR4.out | apply RdI.alloc | apply RdI.drew)) hr2 (zF HO4.out) (by decide)); have HP5 := az (RdI.row (w := w1) (p := q4) (by repeat (first | exact HR4.out | apply RdI.alloc | apply RdI.drew)) hr2 (zF HP4.out) (by decide)); obtain ⟨aa, m, hm5, ht1, ht2, ht3, ht4⟩ := five16 hv0 hv1; have hmz : (m : Int) < 5 := Int.ofNat_lt.mpr hm5; obtain ⟨y, hy⟩ := mode5_at hm5; have hall := fun (W : World) => (blk_cell (blk_new W (.cells mode5 3)) m).trans hy; (try have hx1 := (show w5.cell? ⟨w2.heap.size, m, none⟩ = some (.int .i64 y) from (blk_cell (hr2.lit (show _ = _ from HLb.out) (Nat.ne_of_gt HR2.out.1.lt)) m).trans hy)); (try have hx2 := (show w5.cell? ⟨w3.heap.size, m, none⟩ = some (.int .i64 y) from (blk_cell (hr2.lit (show _ = _ from HLc.out) (Nat.ne_of_gt HR3.out.1.lt)) m).trans hy)); (first | have hx3 := (show w5.cell? ⟨w4.heap.size, m, none⟩ = some (.int .i64 y) from (blk_cell (RdI.litW (W1 := w4.drew) (a := mode5) hr2 HR4.out.1.lt) m).trans hy) | have hx3 := (show w5.cell? ⟨w4.heap.size, m, none⟩ = some (.int .i64 y) from (blk_cell (RdI.litW (W1 := w4) (a := mode5) hr2 HR4.out.1.lt) m).trans hy) | skip); clear hr hr2 hv0 hv1 hm5))
 all_goals
  go_wp2
  refine bodyPost_ret (results_tmp4 rfl _ _ _) rfl ?_
  exact ⟨_, _, l, sp, wd, y, HQ.out.2.2, HQ3.out.2, rfl, (zF HO5.out), (zF HP5.out), (show RdI w w1 _ g bs _ by repeat (first | exact HR5.out | apply RdI.alloc | apply RdI.drew)).2.1⟩
def impl_isLine.f (a0 : Int) (a1 : Int) (a2 : Int) : Option (Bool) := if a1 ≥ 0 then (if a1 ≤ a2 then (some (decide (a2 ≤ a0))) else (some false)) else (some false)
theorem impl_isLine.calls (a0 : Int) (a1 : Int) (a2 : Int) (r : Bool) (w : World) (h : impl_isLine.f a0 a1 a2 = some r) :
  Calls Tryz.prog 59 #[.int .i64 a0, .int .i64 a1, .int .i64 a2] w fun e w' => e = .returned (.bool r) ∧ Drawn0 w w' := by
 have H : (if a1 ≥ 0 then (if a1 ≤ a2 then (some (decide (a2 ≤ a0))) else (some false)) else (some false)) = some r := h
 clear h
 by_cases c4 : a1 ≥ 0
 ·
  rw [if_pos c4] at H
  have c4b0 : decide (0 ≤ a1) = true := decide_eq_true c4
  clear c4
  by_cases c5 : a1 ≤ a2
  ·
   rw [if_pos c5] at H
   have c5b0 : decide (a1 ≤ a2) = true := decide_eq_true c5
   clear c5
   obtain rfl := Option.some.inj H
   go_enter Tryz.func59, Tryz.ntmps59
   go_wp2
   go_ret
   exact ⟨zB, zD⟩
  ·
   rw [if_neg c5] at H
   have c5b0 : decide (a1 ≤ a2) = false := decide_eq_false c5
   clear c5
   obtain rfl := Option.some.inj H
   go_enter Tryz.func59, Tryz.ntmps59
   go_wp2
   go_ret
   exact ⟨zB, zD⟩
 ·
  rw [if_neg c4] at H
  have c4b0 : decide (0 ≤ a1) = false := decide_eq_false c4
  clear c4
  obtain rfl := Option.some.inj H
  go_enter Tryz.func59, Tryz.ntmps59
  go_wp2
  go_ret
  exact ⟨zB, zD⟩
def isWideV (n : Int) : Bool := decide (0 ≤ n) && decide (n ≤ 20000)
theorem isWide_f (n : Int) : impl_isWide.f n = some (isWideV n) := by
 unfold impl_isWide.f isWideV
 by_cases h : 0 ≤ n
 · rw [if_pos h, decide_eq_true h, Bool.true_and]
 · rw [if_neg h, decide_eq_false h, Bool.false_and]
theorem lineWide_1_calls (x : Int) (W : World) : Calls Tryz.prog 57 #[.int .i64 x] W fun e w' => e = .returned (.bool (!isWideV x)) ∧ Drawn0 W w' := by
 go_enter Tryz.func57, Tryz.ntmps57
 go_wp2_with (go_at_call 58; refine (impl_isWide.calls x (isWideV x) _ (isWide_f x)).mono ?_; rintro e w' ⟨rfl, ⟨nd, rfl⟩⟩)
 go_ret
 exact ⟨rfl, Drawn0.step (Drawn0.refl _) _⟩
theorem lineWideX_calls (k : Nat) (A0 : Option Addr) (c0 : Nat) (l0 : List Int) (A1 : Option Addr) (c1 : Nat) (l1 : List Int) (a2 a3 x : Int) (w : World) (hr0 : Kd.C (Kd.int .i64) w A0 l0.length l0) (hc0 : l0.length ≤ c0) (hr1 : Kd.C (Kd.int .i64) w A1 l1.length l1) (hc1 : l1.length ≤ c1) (hok : okV l0 = true) (hl : l1.length = l0.length) (hw : ∀ y ∈ l1, 0 ≤ y ∧ y ≤ 20000) (h0 : 0 ≤ a2) (h1 : a2 ≤ a3) (h2 : a3 ≤ (l0.length : Int)) (hx : impl_lineWide.f k l0 l1 a2 a3 = some x) :
  Calls Tryz.prog 29 #[.slice A0 l0.length c0, .slice A1 l1.length c1, .int .i64 a2, .int .i64 a3] w fun e w' => e = .returned (.int .i64 x) ∧ Below w.heap.size w w' := by
 have hany : (l1.any fun y => !isWideV y) = false := by
  rw [List.any_eq_false]
  intro y hy
  have := hw y hy
  unfold isWideV
  rw [decide_eq_true this.1, decide_eq_true this.2]
  decide
 have hn : l1.length ≤ 9223372036854775806 := by
  unfold okV at hok
  rw [Bool.and_eq_true, decide_eq_true_eq] at hok
  omega
 have HI := az (show impl_isLine.f (l0.length : Int) a2 a3 = some true by unfold impl_isLine.f; rw [if_pos h0, if_pos h1, decide_eq_true h2])
 have HA := az hany
 have HN := az hn
 have HR0 := az (And.intro hr0 hc0)
 have HR1 := az (And.intro hr1 hc1)
 have HO := az (show impl_lettersOk.f l0 = some true by unfold impl_lettersOk.f; rw [hok])
 have HX := az hx
 have hll : ((l1.length : Int) == (l0.length : Int)) = true := beq_iff_eq.mpr (by omega)
 have hln : ((l1.length : Int) != (l0.length : Int)) = false := bne_eq_false_iff_eq.mpr (by omega)
 clear hany hn hr0 hc0 hr1 hc1 hok hw h0 h1 h2 hx hl
 go_enter Tryz.func29, Tryz.ntmps29
 go_upto_region 2 with (go_at_call 56; refine (hasI_calls (fun y => !isWideV y) 57 #[] (fun _ _ => by first | rfl | (go_simp; done)) A1 c1 l1 _ HR1.out.1 HN.out (fun W hb j hj => ((lineWide_1_calls _ W).mono fun _ _ ⟨he, hd⟩ => ⟨he, hb.trans (hd.below.mono hb.size)⟩))).mono ?_; rw [HA.out]; rintro e w1 ⟨rfl, hb1⟩; have HB1 := az hb1; clear hb1)
 go_wp2_with (first
  | (go_at_call 48; go_must (refine (impl_lettersOk.calls A0 c0 l0 true _ (Kd.C_below HR0.out.1 HB1.out) HR0.out.2 HO.out).mono ?_); rintro e w2 ⟨rfl, hb2⟩; have HB2 := az (below_then HB1.out HB1.out.size hb2); clear hb2)
  | (go_at_call 59; go_must (refine (impl_isLine.calls _ _ _ true _ HI.out).mono ?_); rintro e w3 ⟨rfl, ⟨nd, rfl⟩⟩; have HB3 := az (pw_below_drewN HB2.out nd))
  | (go_at_call 60; go_must (refine (impl_lineWide.calls k A0 c0 l0 A1 c1 l1 a2 a3 x _ (Kd.C_below HR0.out.1 HB3.out) HR0.out.2 (Kd.C_below HR1.out.1 HB3.out) HR1.out.2 HX.out).mono ?_); rintro e w4 ⟨rfl, hb4⟩; have HB4 := az (below_then HB3.out HB3.out.size hb4); clear hb4))
 go_ret
 exact ⟨rfl, HB4.out⟩
theorem ms_R {n k g : Nat} (h : k < n ∧ n - k ≤ g) : n - (k + 1) < g := by omega
theorem ms2_R {n k g : Nat} (h : k < n ∧ n + 1 - k ≤ g) : n + 1 - (k + 1) < g := by omega
theorem fac_R {u t fr n bl : Nat} (h1 : t ≤ u) (h2 : u < n) (h3 : t ≤ n ∧ fr < t ∧ n ≤ 80) (hb : bl = n) : ∃ v : Nat, u = v + 1 ∧ wrap64 ((u : Int) + 1) = ((u + 1 : Nat) : Int) ∧ IntKind.i64.wrap ((u : Int) + 1) = ((u + 1 : Nat) : Int) ∧ wrap64 ((u : Int) - 1) = (v : Int) ∧ IntKind.i64.wrap ((u : Int) - 1) = (v : Int) ∧ (0 : Int) ≤ (v : Int) ∧ (v : Int) < (bl : Int) ∧ (u : Int) < (n : Int) := by
 have e1 : wrap64 ((u : Int) + 1) = ((u + 1 : Nat) : Int) := by unfold wrap64; omega
 have e2 : wrap64 ((u : Int) - 1) = ((u - 1 : Nat) : Int) := by unfold wrap64; omega
 exact ⟨u - 1, by omega, e1, by rw [i64_w]; exact e1, e2, by rw [i64_w]; exact e2, by omega, by omega, by omega⟩
abbrev FcI (ad : Addr) (i : Nat) (te : Int) (w7 W : World) : Prop := W.cell? (ad.add i) = some (.int .i64 te) ∧ Aside0 (Below w7.heap.size w7 W ∧ w7.cell? (ad.add i) = some (.int .i64 te))
theorem FcI.below {ad : Addr} {i : Nat} {te : Int} {w7 W W' : World} (h : FcI ad i te w7 W) (hb : Below W.heap.size W W') : FcI ad i te w7 W' := by
 have h1 := below_then h.2.out.1 h.2.out.1.size hb
 exact ⟨(h1.cell (World.block_lt_of_cell? w7 _ h.2.out.2)).trans h.2.out.2, ⟨⟨h1, h.2.out.2⟩⟩⟩
theorem FcI.drew {ad : Addr} {i : Nat} {te : Int} {w7 W : World} (h : FcI ad i te w7 W) : FcI ad i te w7 W.drew := h.below (below_drew (Below.refl _ _))
theorem u8_wfR {x : Int} (h : (Lit.int .u8 x).wf = true) : 0 ≤ x ∧ x ≤ 255 := by
 simp [Lit.wf, IntKind.min, IntKind.max, IntKind.bits, IntKind.signed] at h
 omega
theorem lawRE {w : World} (A0 : Option Addr) (c0 : Nat) (l0 : List Int) (hb : ∀ x ∈ l0, 0 ≤ x ∧ x ≤ 255) (hC : Kd.C (Kd.int .u8) w A0 l0.length l0) (hc0 : l0.length ≤ c0) :
  Calls Tryz.prog 8 #[.slice A0 l0.length c0] w fun e w' => e = .returned (.bool true) ∧ Below w.heap.size w w' := by
 by_cases hlen : (l0.length : Int) > 1048576
 ·
  clear hb hC hc0
  go_enter Tryz.func8, Tryz.ntmps8
  go_wp2
  go_ret
  exact ⟨rfl, by repeat (first | exact Below.refl _ _ | apply pw_below_drewN | apply below_drew1)⟩
 have HB := az hb
 have HC := az hC
 have HC0 := az hc0
 clear hb hC hc0
 go_enter Tryz.func8, Tryz.ntmps8
 go_upto_region 7 with (first
  | (go_at_call 21; go_must (refine (drawLinesE A0 c0 l0 HB.out HC.out HC0.out).mono ?_); rintro e w1 ⟨v0, v1, l, sp, wd, md, hl, hsp, rfl, ho, hp, hb1⟩; obtain ⟨A1, c1, rfl, hc1, hC1⟩ := Kd.R_reads ho; obtain ⟨A2, c2, rfl, hc2, hC2⟩ := Kd.R_reads hp; obtain ⟨r, hr1, hr2, hr3, hr4⟩ := Pure.linesFull (rs := l) (sp := sp) (wide := wd) (mode := md) (k := 6000) (by omega) (by omega) (by omega); obtain ⟨ws, bs, hA1, hA3, hA5⟩ := Pure.forcedAll (k := 8000) (by omega) (by omega) hr4; have HA1 := az hA1; have HA3 := az hA3; have HA5 := az hA5; clear hA1 hA3 hA5; have HO1 := az (And.intro hC1 hc1); have HP1 := az (And.intro hC2 hc2); have HB1 := az hb1; have HR1 := az hr1; have HR2 := az hr2; have HR3 := az hr3; clear ho hp hb1 hC1 hC2 hc1 hc2 hr1 hr2 hr3 hr4 hl hsp)
  | (go_at_call 15; go_must (refine (impl_FillLines.calls 6000 A1 c1 l A2 c2 sp wd md r _ HO1.out.1 HO1.out.2 HP1.out.1 HP1.out.2 HR2.out).mono ?_); rintro e w2 ⟨v2, rfl, ho2, hb2⟩; obtain ⟨A3, c3, rfl, hc3, hC3⟩ := Kd.R_reads ho2; have HE2 := az (And.intro hC3 hc3); have HB2 := az (below_then HB1.out HB1.out.size hb2); have HO2 := az (And.intro (Kd.C_below HO1.out.1 hb2) HO1.out.2); have HP2 := az (And.intro (Kd.C_below HP1.out.1 hb2) HP1.out.2); clear ho2 hb2 hC3 hc3)
  | (go_at_call 12; go_must (refine (spec_FillLines.calls 6000 A1 c1 l A2 c2 sp wd md r _ HO2.out.1 HO2.out.2 HP2.out.1 HP2.out.2 HR1.out).mono ?_); rintro e w3 ⟨v3, rfl, ho3, hb3⟩; obtain ⟨A4, c4, rfl, hc4, hC4⟩ := Kd.R_reads ho3; have HE3 := az (And.intro (Kd.C_below HE2.out.1 hb3) HE2.out.2); have HF3 := az (And.intro hC4 hc4); have HB3 := az (below_then HB2.out HB2.out.size hb3); have HO3 := az (And.intro (Kd.C_below HO2.out.1 hb3) HO2.out.2); have HP3 := az (And.intro (Kd.C_below HP2.out.1 hb3) HP2.out.2); clear ho3 hb3 hC4 hc4)
  | (go_at_call 22; go_must (refine (laws_wcInts.calls 2000 A3 c3 r A4 c4 r true _ HE3.out.1 HE3.out.2 HF3.out.1 HF3.out.2 (Pure.wcI_p HR3.out (zE HR3.out))).mono ?_); rintro e w4 ⟨rfl, hd4⟩; have HE4 := az (And.intro (Kd.C_below HE3.out.1 hd4.below) HE3.out.2); have HB4 := az (below_then HB3.out HB3.out.size hd4.below); have HO4 := az (And.intro (Kd.C_below HO3.out.1 hd4.below) HO3.out.2); have HP4 := az (And.intro (Kd.C_below HP3.out.1 hd4.below) HP3.out.2); clear hd4))
 go_upto_region 10 with (first
  | (go_at_call 27; go_must (refine (impl_WidesOf.calls 8000 A1 c1 l A2 c2 sp ws _ HO4.out.1 HO4.out.2 HP4.out.1 HP4.out.2 HA1.out).mono ?_); rintro e w5 ⟨v5, rfl, ho5, hb5⟩; obtain ⟨A5, c5, rfl, hc5, hC5⟩ := Kd.R_reads ho5; have HW5 := az (And.intro hC5 hc5); have HE5 := az (And.intro (Kd.C_below HE4.out.1 hb5) HE4.out.2); have HB5 := az (below_then HB4.out HB4.out.size hb5); have HO5 := az (And.intro (Kd.C_below HO4.out.1 hb5) HO4.out.2); clear ho5 hb5 hC5 hc5)
  | (go_at_call 23; go_must (refine (impl_BreaksOf.calls 8000 A1 c1 l bs _ HO5.out.1 HO5.out.2 HA3.out).mono ?_); rintro e w7 ⟨v7, rfl, ho7, hb7⟩; obtain ⟨A7, c7, rfl, hc7, hC7⟩ := Kd.R_reads ho7; have HK7 := az (And.intro hC7 hc7); have HW7 := az (And.intro (Kd.C_below HW5.out.1 hb7) HW5.out.2); have HE7 := az (And.intro (Kd.C_below HE5.out.1 hb7) HE5.out.2); have HB7 := az (below_then HB5.out HB5.out.size hb7); have HO7 := az (And.intro (Kd.C_below HO5.out.1 hb7) HO5.out.2); clear ho7 hb7 hC7 hc7))
 have hl3 := HR3.out
 go_wp2
 go_loopg [10, 11, 12] r.length (fun gg s10 s11 s12 wr => ∃ (i fr : Nat), s11 = .int .i64 (i : Int) ∧ s10 = .int .i64 (fr : Int) ∧ i ≤ r.length ∧ r.length - i ≤ gg ∧ Aside0 (Pure.PL (Pure.QF l ws wd) fr (r.drop i)) ∧ Aside0 (Below w7.heap.size w7 wr))
 case atStart => exact ⟨0, 0, rfl, rfl, Nat.zero_le _, by omega, ⟨HA5.out.elim (fun h => by rw [h]; exact trivial) (fun h => h.2.2.2.2.2)⟩, ⟨by repeat (first | exact Below.refl _ _ | apply pw_below_drewN | apply below_drew1)⟩⟩
 case round =>
  obtain ⟨i, fr, rfl, rfl, hi, hg, HPL, HW⟩ := hrel
  by_cases hlt : i < r.length
  ·
   have hltz : (i : Int) < (r.length : Int) := by omega
   have hi0 : (0 : Int) ≤ (i : Int) := by omega
   have hw1 : wrap64 ((i : Int) + 1) = ((i + 1 : Nat) : Int) := by unfold wrap64; omega
   have hw2 : IntKind.i64.wrap ((i : Int) + 1) = ((i + 1 : Nat) : Int) := by rw [i64_w]; exact hw1
   have hfa := HA5.out.resolve_left (fun h => by rw [h] at hlt; exact absurd hlt (Nat.not_lt_zero _))
   have HFA := az hfa
   obtain ⟨t, ht, htf, hQ, hPL2⟩ := Pure.pl_at HPL.out hlt
   have hQ1 := hQ.1
   have hQ2 := hQ.2
   have hfn := hfa.2.1
   have hbl : bs.length = l.length := by rw [hfa.2.2.1, Pure.bsV_len]
   rw [← hfa.2.2.1] at hQ2
   have HPL2 := az hPL2
   have HRD := az (show rd r (i : Int) = (t : Int) from by rw [← ht]; simp [rd])
   have HQ2 := az hQ2
   have HLT := az (And.intro hlt hg)
   have HTN := az (And.intro hQ1 (And.intro htf hfn))
   obtain ⟨ad, had, hx7⟩ := Kd.at_int HE7.out.1 (i : Int) hi0 hltz
   rw [HRD.out, Int.toNat_natCast] at hx7
   have HC7 := az hx7
   have hx := (HW.out.cell (World.block_lt_of_cell? w7 _ hx7)).trans hx7
   obtain ⟨m, hm⟩ : ∃ m, t = m + 1 := ⟨t - 1, by omega⟩
   have hw3 : wrap64 ((t : Int) - 1) = (m : Int) := by unfold wrap64; omega
   have hw4 : IntKind.i64.wrap ((t : Int) - 1) = (m : Int) := by rw [i64_w]; exact hw3
   have hm0 : (0 : Int) ≤ (m : Int) := by omega
   have hmz : (m : Int) < (bs.length : Int) := by omega
   obtain ⟨adb, hadb, hy7⟩ := Kd.at_int HK7.out.1 (m : Int) hm0 hmz
   obtain ⟨y, hyy⟩ : ∃ y, bs.getD m 0 = y := ⟨_, rfl⟩
   rw [show rd bs (m : Int) = y from by rw [← hyy]; simp [rd], Int.toNat_natCast] at hy7
   have HY7 := az hy7
   have HYY := az (show bs.getD (t - 1) 0 = y by rw [hm]; exact hyy)
   have HBL := az hbl
   obtain ⟨x, hxx⟩ : ∃ x, Pure.lwV l ws fr t = x := ⟨_, rfl⟩
   have HXX := az hxx
   have HLW := az (show impl_lineWide.f 8000 l ws (fr : Int) (t : Int) = some x from hxx ▸ Pure.lineI_p (by omega) hfa.2.2.2.1 (by omega) hQ1 (by omega))
   have HUU := az (show (0 : Int) ≤ (fr : Int) ∧ (fr : Int) ≤ (t : Int) ∧ (t : Int) ≤ (l.length : Int) by omega)
   have HCM := az (show wd < x → impl_ClusterAt.f 8000 l (m : Int) = some (fr : Int) from fun hw => by
    have h := hQ2.1 (by rw [hxx]; exact hw)
    exact Pure.clusterAt_p hfa.1 (by omega) (by omega) (by decide) h.1 (fun j j1 j2 => h.2 j j1 (by omega)))
   subst had hadb
   clear hfa ht htf hQ hQ1 hQ2 hPL2 hfn hm hyy hlt hg hi hbl hx7 hy7 hxx
   by_cases hwx : wd < x
   ·
    have bx : decide (wd < x) = true := decide_eq_true hwx
    have HCL := az (HCM.out hwx)
    have bf : ((fr : Int) == (fr : Int)) = true := beq_self_eq_true _
    clear hwx
    go_upto_region 15 with (first
     | (go_at_call 29; go_must (refine (lineWideX_calls 8000 A1 c1 l A5 c5 ws (fr : Int) (t : Int) _ _ (Kd.C_below HO7.out.1 (by repeat (first | exact HW.out | apply pw_below_drewN | apply below_drew1))) HO7.out.2 (Kd.C_below HW7.out.1 (by repeat (first | exact HW.out | apply pw_below_drewN | apply below_drew1))) HW7.out.2 HFA.out.1 HFA.out.2.2.2.1 HFA.out.2.2.2.2.1 HUU.out.1 HUU.out.2.1 HUU.out.2.2 HLW.out).mono ?_); rintro e w8 ⟨rfl, hb8⟩; have HB8 := az (below_then (w := wr) (B := wr.heap.size) (by repeat (first | exact Below.refl _ _ | apply pw_below_drewN | apply below_drew1)) (by first | exact Nat.le_refl _ | simp) hb8); have HW8 := az (below_then HW.out HW.out.size HB8.out); have hx8 := (HW8.out.cell (World.block_lt_of_cell? w7 _ HC7.out)).trans HC7.out; clear hb8)
     | (go_at_call 30; go_must (refine (impl_ClusterAt.calls 8000 A1 c1 l (m : Int) (fr : Int) _ (Kd.C_below HO7.out.1 (by repeat (first | exact HW8.out | apply pw_below_drewN | apply below_drew1))) HO7.out.2 HCL.out).mono ?_); rintro e w9 ⟨rfl, hb9⟩; have HX := az (below_then (w := w7) (B := w7.heap.size) (by repeat (first | exact HW8.out | apply pw_below_drewN | apply below_drew1)) (by first | exact HW8.out.size | (simp; exact HW8.out.size)) hb9); clear hb9))
    clear hx hx8
    have hx := (HX.out.cell (World.block_lt_of_cell? w7 _ HC7.out)).trans HC7.out
    have hy := (HX.out.cell (World.block_lt_of_cell? w7 _ HY7.out)).trans HY7.out
    by_cases h2 : y = 0
    ·
     have b2 : (y == 0) = true := beq_iff_eq.mpr h2
     have HQ3 := az (HQ2.out.2 (by rw [HYY.out]; exact h2))
     clear h2
     go_wp2
     go_loopg [12] (l.length + 1) (fun gg s12 wq => ∃ (u : Nat), s12 = .int .i64 (u : Int) ∧ t ≤ u ∧ u ≤ l.length ∧ l.length + 1 - u ≤ gg ∧ Aside0 (Below w7.heap.size w7 wq))
     case atStart => exact ⟨t, rfl, Nat.le_refl _, HTN.out.1, by omega, ⟨by repeat (first | exact HX.out | apply pw_below_drewN | apply below_drew1)⟩⟩
     case round =>
      clear hx hy
      obtain ⟨u, rfl, hu1, hu2, hgu, HQW⟩ := hrel
      have HUB := az (And.intro hu1 hu2)
      have hx := (HQW.out.cell (World.block_lt_of_cell? w7 _ HC7.out)).trans HC7.out
      by_cases hun : u < l.length
      ·
       obtain ⟨v, hv, hw5, hw6, hw7, hw8, hv0, hvz, hunz⟩ := fac_R hu1 hun HTN.out HBL.out
       obtain ⟨adv, hadv, hz⟩ := Kd.at_int (Kd.C_below HK7.out.1 HQW.out) (v : Int) hv0 hvz
       obtain ⟨z, hzz⟩ : ∃ z, bs.getD v 0 = z := ⟨_, rfl⟩
       rw [show rd bs (v : Int) = z from by rw [← hzz]; simp [rd], Int.toNat_natCast] at hz
       obtain rfl : adb = adv := Option.some.inj hadv
       have HGU := az (And.intro hun hgu)
       have HVV := az (show bs.getD (u - 1) 0 = z by rw [hv]; exact hzz)
       clear hadv hzz hv hun hgu hu1 hu2
       by_cases hz0 : z = 0
       ·
        have bz : (z == 0) = true := beq_iff_eq.mpr hz0
        clear hz0
        go_wp2
        go_roundg (l.length + 1 - (u + 1))
        case measure => exact ms2_R HGU.out
        case rel => exact ⟨u + 1, by simp, Nat.le_succ_of_le HUB.out.1, HGU.out.1, Nat.le_refl _, ⟨by repeat (first | exact HQW.out | apply pw_below_drewN | apply below_drew1)⟩⟩
       ·
        have bz : (z == 0) = false := beq_eq_false_iff_ne.mpr hz0
        have HZZ := az (show ¬ bs.getD (u - 1) 0 = 0 by rw [HVV.out]; exact hz0)
        clear hz0
        have hz2 : ¬ bs.getD (u - 1) 0 = 0 := HZZ.out
        obtain ⟨x2, hx2⟩ : ∃ x2, Pure.lwV l ws fr u = x2 := ⟨_, rfl⟩
        have hxd2 := HQ3.out.2.2 u HUB.out.1 HUB.out.2 hz2
        rw [hx2] at hxd2
        have bx2 : decide (x2 ≤ wd) = false := decide_eq_false (by omega)
        have HLW2 := az (show impl_lineWide.f 8000 l ws (fr : Int) (u : Int) = some x2 from hx2 ▸ Pure.lineI_p (zE HTN.out) HFA.out.2.2.2.1 (zL HTN.out HUB.out) HUB.out.2 (zE HTN.out))
        have HCL2 := az (show impl_ClusterAt.f 8000 l (t : Int) = some (t : Int) from Pure.clusterAt_p HFA.out.1 (Nat.le_refl _) HQ3.out.1 (by decide) HQ3.out.2.1 (fun j j1 j2 => by omega))
        have bt : ((t : Int) == (t : Int)) = true := beq_self_eq_true _
        have HU2 := az (show (fr : Int) ≤ (u : Int) ∧ (u : Int) ≤ (l.length : Int) from (zL HTN.out HUB.out))
        have hc7 := (Kd.at_int HE7.out.1 (i : Int) hi0 hltz)
        clear hz2 hx2 hxd2
        go_upto_region 19 with fail
        have hS : FcI ad i (t : Int) w7 _ := ⟨hx, ⟨⟨HQW.out, HC7.out⟩⟩⟩
        unfold FcI at hS
        clear hx hc7
        go_region_held3 (fun W => W.cell? (ad.add i) = some (.int .i64 (t : Int)) ∧ Aside0 (Below w7.heap.size w7 W ∧ w7.cell? (ad.add i) = some (.int .i64 (t : Int)))) (first | (with_reducible assumption) | (with_reducible refine FcI.below ?_ zH; with_reducible assumption) | (with_reducible exact FcI.drew zH)) (first
         | (go_at_call 30; refine (impl_ClusterAt.calls 8000 A1 c1 l (t : Int) (t : Int) _ ?s1 HO7.out.2 HCL2.out).mono ?_; (case s1 => exact Kd.C_below HO7.out.1 (show FcI ad i (t : Int) w7 _ from zH).2.out.1); rintro e w9 ⟨rfl, p⟩)
         | (go_at_call 29; refine (lineWideX_calls 8000 A1 c1 l A5 c5 ws (fr : Int) (u : Int) x2 _ ?s1 HO7.out.2 ?s2 HW7.out.2 HFA.out.1 HFA.out.2.2.2.1 HFA.out.2.2.2.2.1 HUU.out.1 HU2.out.1 HU2.out.2 HLW2.out).mono ?_; (case s1 => exact Kd.C_below HO7.out.1 (show FcI ad i (t : Int) w7 _ from zH).2.out.1); (case s2 => exact Kd.C_below HW7.out.1 (show FcI ad i (t : Int) w7 _ from zH).2.out.1); rintro e w9 ⟨rfl, p⟩))
        all_goals
         have hS2 := (show FcI ad i (t : Int) w7 _ from zH)
         have hx := hS2.1
         have HW9 := az hS2.2.out.1
         clear hS2
         go_wp2
         go_roundg (r.length - (i + 1))
         case measure => exact ms_R HLT.out
         case rel => exact ⟨i + 1, t, by simp, rfl, HLT.out.1, Nat.le_refl _, HPL2, ⟨by repeat (first | exact HW9.out | apply pw_below_drewN | apply below_drew1)⟩⟩
      ·
       have hunz : ¬ (u : Int) < (l.length : Int) := fun h => hun (Int.ofNat_lt.mp h)
       have HZZ := az (show ¬ bs.getD (u - 1) 0 = 0 by rw [Nat.le_antisymm HUB.out.2 (Nat.not_lt.mp hun), HFA.out.2.2.1]; exact Pure.bs_end t HQ3.out.1)
       clear hun hgu hu1 hu2
       have hz2 : ¬ bs.getD (u - 1) 0 = 0 := HZZ.out
       obtain ⟨x2, hx2⟩ : ∃ x2, Pure.lwV l ws fr u = x2 := ⟨_, rfl⟩
       have hxd2 := HQ3.out.2.2 u HUB.out.1 HUB.out.2 hz2
       rw [hx2] at hxd2
       have bx2 : decide (x2 ≤ wd) = false := decide_eq_false (by omega)
       have HLW2 := az (show impl_lineWide.f 8000 l ws (fr : Int) (u : Int) = some x2 from hx2 ▸ Pure.lineI_p (zE HTN.out) HFA.out.2.2.2.1 (zL HTN.out HUB.out) HUB.out.2 (zE HTN.out))
       have HCL2 := az (show impl_ClusterAt.f 8000 l (t : Int) = some (t : Int) from Pure.clusterAt_p HFA.out.1 (Nat.le_refl _) HQ3.out.1 (by decide) HQ3.out.2.1 (fun j j1 j2 => by omega))
       have bt : ((t : Int) == (t : Int)) = true := beq_self_eq_true _
       have HU2 := az (show (fr : Int) ≤ (u : Int) ∧ (u : Int) ≤ (l.length : Int) from (zL HTN.out HUB.out))
       have hc7 := (Kd.at_int HE7.out.1 (i : Int) hi0 hltz)
       clear hz2 hx2 hxd2
       go_upto_region 19 with fail
       have hS : FcI ad i (t : Int) w7 _ := ⟨hx, ⟨⟨HQW.out, HC7.out⟩⟩⟩
       unfold FcI at hS
       clear hx hc7
       go_region_held3 (fun W => W.cell? (ad.add i) = some (.int .i64 (t : Int)) ∧ Aside0 (Below w7.heap.size w7 W ∧ w7.cell? (ad.add i) = some (.int .i64 (t : Int)))) (first | (with_reducible assumption) | (with_reducible refine FcI.below ?_ zH; with_reducible assumption) | (with_reducible exact FcI.drew zH)) (first
        | (go_at_call 30; refine (impl_ClusterAt.calls 8000 A1 c1 l (t : Int) (t : Int) _ ?s1 HO7.out.2 HCL2.out).mono ?_; (case s1 => exact Kd.C_below HO7.out.1 (show FcI ad i (t : Int) w7 _ from zH).2.out.1); rintro e w9 ⟨rfl, p⟩)
        | (go_at_call 29; refine (lineWideX_calls 8000 A1 c1 l A5 c5 ws (fr : Int) (u : Int) x2 _ ?s1 HO7.out.2 ?s2 HW7.out.2 HFA.out.1 HFA.out.2.2.2.1 HFA.out.2.2.2.2.1 HUU.out.1 HU2.out.1 HU2.out.2 HLW2.out).mono ?_; (case s1 => exact Kd.C_below HO7.out.1 (show FcI ad i (t : Int) w7 _ from zH).2.out.1); (case s2 => exact Kd.C_below HW7.out.1 (show FcI ad i (t : Int) w7 _ from zH).2.out.1); rintro e w9 ⟨rfl, p⟩))
       all_goals
        have hS2 := (show FcI ad i (t : Int) w7 _ from zH)
        have hx := hS2.1
        have HW9 := az hS2.2.out.1
        clear hS2
        go_wp2
        go_roundg (r.length - (i + 1))
        case measure => exact ms_R HLT.out
        case rel => exact ⟨i + 1, t, by simp, rfl, HLT.out.1, Nat.le_refl _, HPL2, ⟨by repeat (first | exact HW9.out | apply pw_below_drewN | apply below_drew1)⟩⟩
    ·
     have b2 : (y == 0) = false := beq_eq_false_iff_ne.mpr h2
     clear h2
     go_wp2
     go_roundg (r.length - (i + 1))
     case measure => exact ms_R HLT.out
     case rel => exact ⟨i + 1, t, by simp, rfl, HLT.out.1, Nat.le_refl _, HPL2, ⟨by repeat (first | exact HX.out | apply pw_below_drewN | apply below_drew1)⟩⟩
   ·
    have bx : decide (wd < x) = false := decide_eq_false hwx
    clear hwx
    go_upto_region 15 with (go_at_call 29; go_must (refine (lineWideX_calls 8000 A1 c1 l A5 c5 ws (fr : Int) (t : Int) _ _ (Kd.C_below HO7.out.1 (by repeat (first | exact HW.out | apply pw_below_drewN | apply below_drew1))) HO7.out.2 (Kd.C_below HW7.out.1 (by repeat (first | exact HW.out | apply pw_below_drewN | apply below_drew1))) HW7.out.2 HFA.out.1 HFA.out.2.2.2.1 HFA.out.2.2.2.2.1 HUU.out.1 HUU.out.2.1 HUU.out.2.2 HLW.out).mono ?_); rintro e w8 ⟨rfl, hb8⟩; have HB8 := az (below_then (w := wr) (B := wr.heap.size) (by repeat (first | exact Below.refl _ _ | apply pw_below_drewN | apply below_drew1)) (by first | exact Nat.le_refl _ | simp) hb8); have HX := az (below_then HW.out HW.out.size HB8.out); clear hb8)
    clear hx
    have hx := (HX.out.cell (World.block_lt_of_cell? w7 _ HC7.out)).trans HC7.out
    have hy := (HX.out.cell (World.block_lt_of_cell? w7 _ HY7.out)).trans HY7.out
    by_cases h2 : y = 0
    ·
     have b2 : (y == 0) = true := beq_iff_eq.mpr h2
     have HQ3 := az (HQ2.out.2 (by rw [HYY.out]; exact h2))
     clear h2
     go_wp2
     go_loopg [12] (l.length + 1) (fun gg s12 wq => ∃ (u : Nat), s12 = .int .i64 (u : Int) ∧ t ≤ u ∧ u ≤ l.length ∧ l.length + 1 - u ≤ gg ∧ Aside0 (Below w7.heap.size w7 wq))
     case atStart => exact ⟨t, rfl, Nat.le_refl _, HTN.out.1, by omega, ⟨by repeat (first | exact HX.out | apply pw_below_drewN | apply below_drew1)⟩⟩
     case round =>
      clear hx hy
      obtain ⟨u, rfl, hu1, hu2, hgu, HQW⟩ := hrel
      have HUB := az (And.intro hu1 hu2)
      have hx := (HQW.out.cell (World.block_lt_of_cell? w7 _ HC7.out)).trans HC7.out
      by_cases hun : u < l.length
      ·
       obtain ⟨v, hv, hw5, hw6, hw7, hw8, hv0, hvz, hunz⟩ := fac_R hu1 hun HTN.out HBL.out
       obtain ⟨adv, hadv, hz⟩ := Kd.at_int (Kd.C_below HK7.out.1 HQW.out) (v : Int) hv0 hvz
       obtain ⟨z, hzz⟩ : ∃ z, bs.getD v 0 = z := ⟨_, rfl⟩
       rw [show rd bs (v : Int) = z from by rw [← hzz]; simp [rd], Int.toNat_natCast] at hz
       obtain rfl : adb = adv := Option.some.inj hadv
       have HGU := az (And.intro hun hgu)
       have HVV := az (show bs.getD (u - 1) 0 = z by rw [hv]; exact hzz)
       clear hadv hzz hv hun hgu hu1 hu2
       by_cases hz0 : z = 0
       ·
        have bz : (z == 0) = true := beq_iff_eq.mpr hz0
        clear hz0
        go_wp2
        go_roundg (l.length + 1 - (u + 1))
        case measure => exact ms2_R HGU.out
        case rel => exact ⟨u + 1, by simp, Nat.le_succ_of_le HUB.out.1, HGU.out.1, Nat.le_refl _, ⟨by repeat (first | exact HQW.out | apply pw_below_drewN | apply below_drew1)⟩⟩
       ·
        have bz : (z == 0) = false := beq_eq_false_iff_ne.mpr hz0
        have HZZ := az (show ¬ bs.getD (u - 1) 0 = 0 by rw [HVV.out]; exact hz0)
        clear hz0
        have hz2 : ¬ bs.getD (u - 1) 0 = 0 := HZZ.out
        obtain ⟨x2, hx2⟩ : ∃ x2, Pure.lwV l ws fr u = x2 := ⟨_, rfl⟩
        have hxd2 := HQ3.out.2.2 u HUB.out.1 HUB.out.2 hz2
        rw [hx2] at hxd2
        have bx2 : decide (x2 ≤ wd) = false := decide_eq_false (by omega)
        have HLW2 := az (show impl_lineWide.f 8000 l ws (fr : Int) (u : Int) = some x2 from hx2 ▸ Pure.lineI_p (zE HTN.out) HFA.out.2.2.2.1 (zL HTN.out HUB.out) HUB.out.2 (zE HTN.out))
        have HCL2 := az (show impl_ClusterAt.f 8000 l (t : Int) = some (t : Int) from Pure.clusterAt_p HFA.out.1 (Nat.le_refl _) HQ3.out.1 (by decide) HQ3.out.2.1 (fun j j1 j2 => by omega))
        have bt : ((t : Int) == (t : Int)) = true := beq_self_eq_true _
        have HU2 := az (show (fr : Int) ≤ (u : Int) ∧ (u : Int) ≤ (l.length : Int) from (zL HTN.out HUB.out))
        have hc7 := (Kd.at_int HE7.out.1 (i : Int) hi0 hltz)
        clear hz2 hx2 hxd2
        go_upto_region 19 with fail
        have hS : FcI ad i (t : Int) w7 _ := ⟨hx, ⟨⟨HQW.out, HC7.out⟩⟩⟩
        unfold FcI at hS
        clear hx hc7
        go_region_held3 (fun W => W.cell? (ad.add i) = some (.int .i64 (t : Int)) ∧ Aside0 (Below w7.heap.size w7 W ∧ w7.cell? (ad.add i) = some (.int .i64 (t : Int)))) (first | (with_reducible assumption) | (with_reducible refine FcI.below ?_ zH; with_reducible assumption) | (with_reducible exact FcI.drew zH)) (first
         | (go_at_call 30; refine (impl_ClusterAt.calls 8000 A1 c1 l (t : Int) (t : Int) _ ?s1 HO7.out.2 HCL2.out).mono ?_; (case s1 => exact Kd.C_below HO7.out.1 (show FcI ad i (t : Int) w7 _ from zH).2.out.1); rintro e w9 ⟨rfl, p⟩)
         | (go_at_call 29; refine (lineWideX_calls 8000 A1 c1 l A5 c5 ws (fr : Int) (u : Int) x2 _ ?s1 HO7.out.2 ?s2 HW7.out.2 HFA.out.1 HFA.out.2.2.2.1 HFA.out.2.2.2.2.1 HUU.out.1 HU2.out.1 HU2.out.2 HLW2.out).mono ?_; (case s1 => exact Kd.C_below HO7.out.1 (show FcI ad i (t : Int) w7 _ from zH).2.out.1); (case s2 => exact Kd.C_below HW7.out.1 (show FcI ad i (t : Int) w7 _ from zH).2.out.1); rintro e w9 ⟨rfl, p⟩))
        all_goals
         have hS2 := (show FcI ad i (t : Int) w7 _ from zH)
         have hx := hS2.1
         have HW9 := az hS2.2.out.1
         clear hS2
         go_wp2
         go_roundg (r.length - (i + 1))
         case measure => exact ms_R HLT.out
         case rel => exact ⟨i + 1, t, by simp, rfl, HLT.out.1, Nat.le_refl _, HPL2, ⟨by repeat (first | exact HW9.out | apply pw_below_drewN | apply below_drew1)⟩⟩
      ·
       have hunz : ¬ (u : Int) < (l.length : Int) := fun h => hun (Int.ofNat_lt.mp h)
       have HZZ := az (show ¬ bs.getD (u - 1) 0 = 0 by rw [Nat.le_antisymm HUB.out.2 (Nat.not_lt.mp hun), HFA.out.2.2.1]; exact Pure.bs_end t HQ3.out.1)
       clear hun hgu hu1 hu2
       have hz2 : ¬ bs.getD (u - 1) 0 = 0 := HZZ.out
       obtain ⟨x2, hx2⟩ : ∃ x2, Pure.lwV l ws fr u = x2 := ⟨_, rfl⟩
       have hxd2 := HQ3.out.2.2 u HUB.out.1 HUB.out.2 hz2
       rw [hx2] at hxd2
       have bx2 : decide (x2 ≤ wd) = false := decide_eq_false (by omega)
       have HLW2 := az (show impl_lineWide.f 8000 l ws (fr : Int) (u : Int) = some x2 from hx2 ▸ Pure.lineI_p (zE HTN.out) HFA.out.2.2.2.1 (zL HTN.out HUB.out) HUB.out.2 (zE HTN.out))
       have HCL2 := az (show impl_ClusterAt.f 8000 l (t : Int) = some (t : Int) from Pure.clusterAt_p HFA.out.1 (Nat.le_refl _) HQ3.out.1 (by decide) HQ3.out.2.1 (fun j j1 j2 => by omega))
       have bt : ((t : Int) == (t : Int)) = true := beq_self_eq_true _
       have HU2 := az (show (fr : Int) ≤ (u : Int) ∧ (u : Int) ≤ (l.length : Int) from (zL HTN.out HUB.out))
       have hc7 := (Kd.at_int HE7.out.1 (i : Int) hi0 hltz)
       clear hz2 hx2 hxd2
       go_upto_region 19 with fail
       have hS : FcI ad i (t : Int) w7 _ := ⟨hx, ⟨⟨HQW.out, HC7.out⟩⟩⟩
       unfold FcI at hS
       clear hx hc7
       go_region_held3 (fun W => W.cell? (ad.add i) = some (.int .i64 (t : Int)) ∧ Aside0 (Below w7.heap.size w7 W ∧ w7.cell? (ad.add i) = some (.int .i64 (t : Int)))) (first | (with_reducible assumption) | (with_reducible refine FcI.below ?_ zH; with_reducible assumption) | (with_reducible exact FcI.drew zH)) (first
        | (go_at_call 30; refine (impl_ClusterAt.calls 8000 A1 c1 l (t : Int) (t : Int) _ ?s1 HO7.out.2 HCL2.out).mono ?_; (case s1 => exact Kd.C_below HO7.out.1 (show FcI ad i (t : Int) w7 _ from zH).2.out.1); rintro e w9 ⟨rfl, p⟩)
        | (go_at_call 29; refine (lineWideX_calls 8000 A1 c1 l A5 c5 ws (fr : Int) (u : Int) x2 _ ?s1 HO7.out.2 ?s2 HW7.out.2 HFA.out.1 HFA.out.2.2.2.1 HFA.out.2.2.2.2.1 HUU.out.1 HU2.out.1 HU2.out.2 HLW2.out).mono ?_; (case s1 => exact Kd.C_below HO7.out.1 (show FcI ad i (t : Int) w7 _ from zH).2.out.1); (case s2 => exact Kd.C_below HW7.out.1 (show FcI ad i (t : Int) w7 _ from zH).2.out.1); rintro e w9 ⟨rfl, p⟩))
       all_goals
        have hS2 := (show FcI ad i (t : Int) w7 _ from zH)
        have hx := hS2.1
        have HW9 := az hS2.2.out.1
        clear hS2
        go_wp2
        go_roundg (r.length - (i + 1))
        case measure => exact ms_R HLT.out
        case rel => exact ⟨i + 1, t, by simp, rfl, HLT.out.1, Nat.le_refl _, HPL2, ⟨by repeat (first | exact HW9.out | apply pw_below_drewN | apply below_drew1)⟩⟩
    ·
     have b2 : (y == 0) = false := beq_eq_false_iff_ne.mpr h2
     clear h2
     go_wp2
     go_roundg (r.length - (i + 1))
     case measure => exact ms_R HLT.out
     case rel => exact ⟨i + 1, t, by simp, rfl, HLT.out.1, Nat.le_refl _, HPL2, ⟨by repeat (first | exact HX.out | apply pw_below_drewN | apply below_drew1)⟩⟩
  ·
   have hltz : ¬ (i : Int) < (r.length : Int) := by omega
   clear hi hg hlt
   go_wp2
   go_ret
   exact ⟨rfl, below_then HB7.out HB7.out.size HW.out⟩
theorem laws_FnFillForced.walk (a0 : Option Addr) (len0 cap0 : Nat) (z0 : List Int) (w : World) (w0 : (a0 = none ∧ len0 = 0 ∧ cap0 = 0 ∧ z0 = []) ∨ ∃ x, a0 = some x ∧ len0 ≤ cap0 ∧ cap0 ≤ maxLen ∧ z0.length = cap0 ∧ (∀ i, i < z0.length → w.cell? (x.add i) = some (.int .u8 (z0.getD i 0))) ∧ ∀ n ∈ z0, (Lit.int .u8 n).wf = true) :
  Calls Tryz.prog 8 #[.slice a0 len0 cap0] w fun e w' => e = .returned (.bool true) ∧ Below w.heap.size w w' := by
 obtain ⟨l0, rfl, hr0, hm0, hw0, hc0⟩ := ReadsInt.ofRowC w0
 exact lawRE _ _ l0 (fun x hx => u8_wfR (hw0 x hx)) (Kd.C_of_reads (d := (0 : Int)) (h1 := fun _ => rfl) hr0) hc0
end Go.Proofs.YtmcdcogedcbndaaGreat.S
