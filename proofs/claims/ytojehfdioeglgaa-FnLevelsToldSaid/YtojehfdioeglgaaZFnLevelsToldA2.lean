/- What only tells how others are read has no level, all else has one of 0 to 20, and ahead of what tells it is the one at first: of all drawn letters and levels, for every code. No condition beyond the statement's own. (text 3 of 5 of this claim: functions of the program and of the reference as plain Lean functions, what a call of each comes to, and what follows.) -/
import Derived.Test.YtojehfdioeglgaaZFnLevelsToldA0
import Derived.Test.YtojehfdioeglgaaZFnLevelsToldA1
namespace Go.Proofs.Ytojehfdioeglgaa.S
open Go.RowKit Go.Proofs.YtojehfdioeglgaaW.PrintWords Go.Proofs.YtojehfdioeglgaaW.PrintLast Go.Proofs.YtojehfdioeglgaaW.PrintMore
attribute [local go_sem] max2_int min2_int max_two min_two max_three min_three max_four min_four   -- for this text's walks alone
set_option linter.unusedVariables false
set_option linter.unusedSimpArgs false
theorem q4s {α : Type} (l : List α) (i : Nat) (a : α) : l.toArray.setIfInBounds i a = (l.set i a).toArray := List.setIfInBounds_toArray ..
theorem q4z {α : Type} (a : α) (l : List α) (b : α) : (a :: l).set 0 b = b :: l := List.set_cons_zero ..
theorem q4n {α : Type} (a : α) (l : List α) (i : Nat) (b : α) : (a :: l).set (i + 1) b = a :: l.set i b := List.set_cons_succ ..
mutual
def spec_l13Rune.j0 : Nat → Int → Bool → List Int → Int → Option (Int × Int)
 | 0, _, _, _, _ => none
 | k + 1, x4, x5, x1000, x1001 => if x5 = true then ((spec_l1Rd_one.f k x1000 x1001 (([97, 98, 105, 109, 122, 65] : List Int))).bind fun bt383 => (some (bt383.1, bt383.2))) else (if x4 = 4 then (spec_l13Rune.j1 k x4 (x4 == 4) x1000 x1001) else (if x4 = 5 then (spec_l13Rune.j1 k x4 (x4 == 5) x1000 x1001) else (spec_l13Rune.j1 k x4 (x4 == 6) x1000 x1001)))
def spec_l13Rune.j1 : Nat → Int → Bool → List Int → Int → Option (Int × Int)
 | 0, _, _, _, _ => none
 | k + 1, x4, x13, x1000, x1001 => if x13 = true then ((spec_l1Rd_one.f k x1000 x1001 (([1488, 1489, 1514] : List Int))).bind fun bt388 => (some (bt388.1, bt388.2))) else (if x4 = 7 then ((spec_l1Rd_one.f k x1000 x1001 (([1569, 1610, 1600] : List Int))).bind fun bt393 => (some (bt393.1, bt393.2))) else (if x4 = 8 then ((spec_l1Rd_one.f k x1000 x1001 (([48, 55, 1632, 1641] : List Int))).bind fun bt398 => (some (bt398.1, bt398.2))) else (if x4 = 9 then (spec_l13Rune.j2 k x4 (x4 == 9) x1000 x1001) else (spec_l13Rune.j2 k x4 (x4 == 10) x1000 x1001))))
def spec_l13Rune.j2 : Nat → Int → Bool → List Int → Int → Option (Int × Int)
 | 0, _, _, _, _ => none
 | k + 1, x4, x30, x1000, x1001 => if x30 = true then (some (32, x1001)) else (if x4 = 11 then ((spec_l1Rd_one.f k x1000 x1001 (([43, 45, 35, 36, 44, 46, 47, 58, 40, 41, 91, 93, 60, 33, 34, 59, 160] : List Int))).bind fun bt403 => (some (bt403.1, bt403.2))) else (if x4 = 12 then ((spec_l1Rd_one.f k x1000 x1001 (([768, 879, 8203, 8205, 173, 9, 10, 13] : List Int))).bind fun bt408 => (some (bt408.1, bt408.2))) else (if x4 = 13 then ((spec_l1Rd_one.f k x1000 x1001 (([8234, 8235, 8236, 8237, 8238] : List Int))).bind fun bt413 => (some (bt413.1, bt413.2))) else (if x4 = 14 then ((spec_l1Rd_one.f k x1000 x1001 (([8294, 8295, 8296, 8297, 8297] : List Int))).bind fun bt418 => (some (bt418.1, bt418.2))) else ((spec_l1Rd_one.f k x1000 x1001 (([19968, 40959, 127462, 127487, 128512, 200, 40, 41] : List Int))).bind fun bt423 => (some (bt423.1, bt423.2)))))))
end
def spec_l13Rune.f (k : Nat) (s0_0 : List Int) (s0_1 : Int) : Option (Int × Int) := (spec_l1Rd_pick.f k s0_0 s0_1 16).bind fun bt378 => (if bt378.1 = 0 then (spec_l13Rune.j0 k bt378.1 (bt378.1 == 0) s0_0 bt378.2) else (if bt378.1 = 1 then (spec_l13Rune.j0 k bt378.1 (bt378.1 == 1) s0_0 bt378.2) else (if bt378.1 = 2 then (spec_l13Rune.j0 k bt378.1 (bt378.1 == 2) s0_0 bt378.2) else (spec_l13Rune.j0 k bt378.1 (bt378.1 == 3) s0_0 bt378.2))))
theorem spec_l13Rune.mono_l : ∀ k, (∀ y0 y1 y2 y3, LeO (spec_l13Rune.j0 k y0 y1 y2 y3) (spec_l13Rune.j0 (k + 1) y0 y1 y2 y3)) ∧ (∀ y0 y1 y2 y3, LeO (spec_l13Rune.j1 k y0 y1 y2 y3) (spec_l13Rune.j1 (k + 1) y0 y1 y2 y3)) ∧ (∀ y0 y1 y2 y3, LeO (spec_l13Rune.j2 k y0 y1 y2 y3) (spec_l13Rune.j2 (k + 1) y0 y1 y2 y3))
 | 0 => ⟨fun _ _ _ _ r h => by simp [spec_l13Rune.j0] at h, fun _ _ _ _ r h => by simp [spec_l13Rune.j1] at h, fun _ _ _ _ r h => by simp [spec_l13Rune.j2] at h⟩
 | k + 1 => by
  obtain ⟨ih0, ih1, ih2⟩ := spec_l13Rune.mono_l k; refine ⟨?_, ?_, ?_⟩
  ·
   intro y0 y1 y2 y3; unfold spec_l13Rune.j0
   repeat' first
   | (with_reducible exact ih0 _ _ _ _)
   | (with_reducible exact ih1 _ _ _ _)
   | (with_reducible exact ih2 _ _ _ _)
   | (with_reducible exact spec_l1Rd_one.mono _ _ _ _)
   | (with_reducible exact spec_l1Rd_pick.mono _ _ _ _)
   | (with_reducible exact LeO.refl _)
   | (with_reducible exact LeO.none _)
   | (with_reducible refine LeO.ite ?_ ?_)
   | (with_reducible refine LeO.bind ?_ (fun _ => ?_))
   | exact ih0 _ _ _ _
   | exact ih1 _ _ _ _
   | exact ih2 _ _ _ _
   | exact spec_l1Rd_one.mono _ _ _ _
   | exact spec_l1Rd_pick.mono _ _ _ _
   | exact LeO.none _
   | refine LeO.ite ?_ ?_
   | refine LeO.bind ?_ (fun _ => ?_)
  ·
   intro y0 y1 y2 y3; unfold spec_l13Rune.j1
   repeat' first
   | (with_reducible exact ih0 _ _ _ _)
   | (with_reducible exact ih1 _ _ _ _)
   | (with_reducible exact ih2 _ _ _ _)
   | (with_reducible exact spec_l1Rd_one.mono _ _ _ _)
   | (with_reducible exact spec_l1Rd_pick.mono _ _ _ _)
   | (with_reducible exact LeO.refl _)
   | (with_reducible exact LeO.none _)
   | (with_reducible refine LeO.ite ?_ ?_)
   | (with_reducible refine LeO.bind ?_ (fun _ => ?_))
   | exact ih0 _ _ _ _
   | exact ih1 _ _ _ _
   | exact ih2 _ _ _ _
   | exact spec_l1Rd_one.mono _ _ _ _
   | exact spec_l1Rd_pick.mono _ _ _ _
   | exact LeO.none _
   | refine LeO.ite ?_ ?_
   | refine LeO.bind ?_ (fun _ => ?_)
  ·
   intro y0 y1 y2 y3; unfold spec_l13Rune.j2
   repeat' first
   | (with_reducible exact ih0 _ _ _ _)
   | (with_reducible exact ih1 _ _ _ _)
   | (with_reducible exact ih2 _ _ _ _)
   | (with_reducible exact spec_l1Rd_one.mono _ _ _ _)
   | (with_reducible exact spec_l1Rd_pick.mono _ _ _ _)
   | (with_reducible exact LeO.refl _)
   | (with_reducible exact LeO.none _)
   | (with_reducible refine LeO.ite ?_ ?_)
   | (with_reducible refine LeO.bind ?_ (fun _ => ?_))
   | exact ih0 _ _ _ _
   | exact ih1 _ _ _ _
   | exact ih2 _ _ _ _
   | exact spec_l1Rd_one.mono _ _ _ _
   | exact spec_l1Rd_pick.mono _ _ _ _
   | exact LeO.none _
   | refine LeO.ite ?_ ?_
   | refine LeO.bind ?_ (fun _ => ?_)
theorem spec_l13Rune.mono : ∀ a0 a1 k, LeO (spec_l13Rune.f k a0 a1) (spec_l13Rune.f (k + 1) a0 a1) := by
 intro a0 a1 k; obtain ⟨ih0, ih1, ih2⟩ := spec_l13Rune.mono_l k; unfold spec_l13Rune.f
 repeat' first
   | (with_reducible exact ih0 _ _ _ _)
   | (with_reducible exact ih1 _ _ _ _)
   | (with_reducible exact ih2 _ _ _ _)
   | (with_reducible exact spec_l1Rd_one.mono _ _ _ _)
   | (with_reducible exact spec_l1Rd_pick.mono _ _ _ _)
   | (with_reducible exact LeO.refl _)
   | (with_reducible exact LeO.none _)
   | (with_reducible refine LeO.ite ?_ ?_)
   | (with_reducible refine LeO.bind ?_ (fun _ => ?_))
   | exact ih0 _ _ _ _
   | exact ih1 _ _ _ _
   | exact ih2 _ _ _ _
   | exact spec_l1Rd_one.mono _ _ _ _
   | exact spec_l1Rd_pick.mono _ _ _ _
   | exact LeO.none _
   | refine LeO.ite ?_ ?_
   | refine LeO.bind ?_ (fun _ => ?_)
set_option maxHeartbeats 8000000 in
set_option maxRecDepth 100000 in
theorem spec_l13Rune.calls (k : Nat) (g : Nat) (s0_0 : List Int) (s0_1 : Int) (r1 : Int) (r2 : Int) (w0 w : World) (hI : IsS71 w0 w g s0_0 s0_1) (hB : Below w0.heap.size w0 w) (h : spec_l13Rune.f k s0_0 s0_1 = some (r1, r2)) :
  Calls Try.prog 105 #[.pointer (some ⟨g, 0, none⟩)] w fun e w' => e = .returned (.int .i64 r1) ∧ IsS71 w0 w' g s0_0 r2 ∧ Below w0.heap.size w0 w' ∧ KeepBut w w' g none := by
 have HI0 := Aside0.mk hI; have HK := Aside0.mk (KeepBut.refl w g none); have HL := Aside0.mk hB.size; clear hI; have HW0 := Aside0.mk hB.size; have HB := Aside0.mk hB; clear hB; have H : ((spec_l1Rd_pick.f k s0_0 s0_1 16).bind fun bt378 => (if bt378.1 = 0 then (spec_l13Rune.j0 k bt378.1 (bt378.1 == 0) s0_0 bt378.2) else (if bt378.1 = 1 then (spec_l13Rune.j0 k bt378.1 (bt378.1 == 1) s0_0 bt378.2) else (if bt378.1 = 2 then (spec_l13Rune.j0 k bt378.1 (bt378.1 == 2) s0_0 bt378.2) else (spec_l13Rune.j0 k bt378.1 (bt378.1 == 3) s0_0 bt378.2))))) = some (r1, r2) := h; clear h; replace H := Option.bind_eq_some_iff.mp H; obtain ⟨⟨t378, t379⟩, A20, H⟩ := H; replace H : (if t378 = 0 then (spec_l13Rune.j0 k t378 (t378 == 0) s0_0 t379) else (if t378 = 1 then (spec_l13Rune.j0 k t378 (t378 == 1) s0_0 t379) else (if t378 = 2 then (spec_l13Rune.j0 k t378 (t378 == 2) s0_0 t379) else (spec_l13Rune.j0 k t378 (t378 == 3) s0_0 t379)))) = some (r1, r2) := H; have A2 := Aside0.mk A20; clear A20; have HC3 := Aside0.mk H; clear H; go_enter Try.func105, Try.ntmps105; go_upto_if 5 with (first | ((with_reducible refine gate_callee (f := 44) rfl ?_); refine goesL_ (some 4) rfl rfl Try.func44 (by kernel_rfl) rfl #[.pointer (some ⟨g, 0, none⟩), .int .i64 16] rfl (by (try simp only [List.map_toArray, List.map_cons, List.map_nil]); first | done | rfl) ?_; (with_reducible refine (spec_l1Rd_pick.calls k g s0_0 s0_1 16 t378 t379 w0 _ ?side1 ?side2 A2.out).mono ?_); (case side1 => repeat (first | (with_reducible first | exact HI0.out | apply IsS71.alloc | apply IsS71.drewN | apply IsS71.drew | apply IsS71.set_1) | exact HI0.out)); (case side2 => repeat (first | (with_reducible first | exact HB.out | apply below_alloc | apply pw_below_drewN | apply below_drew1 | refine below_set ?_ (IsS71.ge HI0.out)) | exact HB.out)); rintro e w4 ⟨rfl, hi, hb, hk⟩; refine ⟨_, rfl, ?_⟩; have n0_ := Aside0.mk (KeepBut.trans (by repeat (first | (with_reducible first | exact HK.out | apply KeepBut.set_ | apply keep_drewN | apply keep_drew | apply keep_alloc) | exact HK.out)) hk (.inl rfl)); have n1_ := Aside0.mk (hb); have n2_ := Aside0.mk (hi); clear HK; clear HB; clear HI0; have HK := n0_; have HB := n1_; have HI0 := n2_; clear n0_ n1_ n2_; (try clear hb); (try clear hb2); (try clear hk); (try clear hi)))
 (try simp only [Act.put, List.setIfInBounds_toArray, List.set_cons_zero, List.set_cons_succ]); go_cut [5] (fun v5 wc => ∃ (kq : Nat) (x5_2 : Bool), v5 = .bool x5_2 ∧ Aside0 (spec_l13Rune.j0 kq t378 x5_2 s0_0 t379 = some (r1, r2)) ∧ Aside0 (kq ≤ k) ∧ Aside0 (IsS71 w0 wc g s0_0 t379) ∧ Aside0 (KeepBut w wc g none) ∧ Aside0 (Below w0.heap.size w0 wc))
 case first =>
  have H := HC3.out; clear HC3; by_cases c5 : t378 = 0
  ·
   rw [if_pos c5] at H; have c5b0 : (t378 == 0) = true := beq_iff_eq.mpr c5; have c5b1 : (t378 != 0) = false := bne_eq_false_iff_eq.mpr c5; clear c5; (first | rw [c5b0] | (simp only [i64_w, i32_w]; rw [c5b0]) | skip); have H' := Aside0.mk H; clear H; go_wp2; go_meet
   case rel => exact ⟨_, ((t378 == 0)), (by first | rfl | (simp; done) | (simp [*]; done)), H', ⟨by first | omega | exact Nat.le_refl _⟩, ⟨by repeat (first | (with_reducible first | exact HI0.out | apply IsS71.alloc | apply IsS71.drewN | apply IsS71.drew | apply IsS71.set_1) | exact HI0.out)⟩, ⟨by repeat (first | (with_reducible first | exact HK.out | apply KeepBut.set_ | apply keep_drewN | apply keep_drew | apply keep_alloc) | exact HK.out)⟩, ⟨by repeat (first | (with_reducible first | exact HB.out | apply below_alloc | apply pw_below_drewN | apply below_drew1 | refine below_set ?_ (IsS71.ge HI0.out)) | exact HB.out)⟩⟩
  ·
   rw [if_neg c5] at H; have c5b0 : (t378 == 0) = false := beq_eq_false_iff_ne.mpr c5; have c5b1 : (t378 != 0) = true := bne_iff_ne.mpr c5; (first | rw [c5b0] | (simp only [i64_w, i32_w]; rw [c5b0]) | skip); by_cases c6 : t378 = 1
   ·
    rw [if_pos c6] at H; have c6b0 : (t378 == 1) = true := beq_iff_eq.mpr c6; have c6b1 : (t378 != 1) = false := bne_eq_false_iff_eq.mpr c6; clear c6; have H' := Aside0.mk H; clear H; go_wp2; go_meet
    case rel => exact ⟨_, ((t378 == 1)), (by first | rfl | (simp; done) | (simp [*]; done)), H', ⟨by first | omega | exact Nat.le_refl _⟩, ⟨by repeat (first | (with_reducible first | exact HI0.out | apply IsS71.alloc | apply IsS71.drewN | apply IsS71.drew | apply IsS71.set_1) | exact HI0.out)⟩, ⟨by repeat (first | (with_reducible first | exact HK.out | apply KeepBut.set_ | apply keep_drewN | apply keep_drew | apply keep_alloc) | exact HK.out)⟩, ⟨by repeat (first | (with_reducible first | exact HB.out | apply below_alloc | apply pw_below_drewN | apply below_drew1 | refine below_set ?_ (IsS71.ge HI0.out)) | exact HB.out)⟩⟩
   ·
    rw [if_neg c6] at H; have c6b0 : (t378 == 1) = false := beq_eq_false_iff_ne.mpr c6; have c6b1 : (t378 != 1) = true := bne_iff_ne.mpr c6; by_cases c7 : t378 = 2
    ·
     rw [if_pos c7] at H; have c7b0 : (t378 == 2) = true := beq_iff_eq.mpr c7; have c7b1 : (t378 != 2) = false := bne_eq_false_iff_eq.mpr c7; clear c7; have H' := Aside0.mk H; clear H; go_wp2; go_meet
     case rel => exact ⟨_, ((t378 == 2)), (by first | rfl | (simp; done) | (simp [*]; done)), H', ⟨by first | omega | exact Nat.le_refl _⟩, ⟨by repeat (first | (with_reducible first | exact HI0.out | apply IsS71.alloc | apply IsS71.drewN | apply IsS71.drew | apply IsS71.set_1) | exact HI0.out)⟩, ⟨by repeat (first | (with_reducible first | exact HK.out | apply KeepBut.set_ | apply keep_drewN | apply keep_drew | apply keep_alloc) | exact HK.out)⟩, ⟨by repeat (first | (with_reducible first | exact HB.out | apply below_alloc | apply pw_below_drewN | apply below_drew1 | refine below_set ?_ (IsS71.ge HI0.out)) | exact HB.out)⟩⟩
    ·
     rw [if_neg c7] at H; have c7b0 : (t378 == 2) = false := beq_eq_false_iff_ne.mpr c7; have c7b1 : (t378 != 2) = true := bne_iff_ne.mpr c7; have H' := Aside0.mk H; clear H; go_wp2; go_meet
     case rel => exact ⟨_, ((t378 == 3)), (by first | rfl | (simp; done) | (simp [*]; done)), H', ⟨by first | omega | exact Nat.le_refl _⟩, ⟨by repeat (first | (with_reducible first | exact HI0.out | apply IsS71.alloc | apply IsS71.drewN | apply IsS71.drew | apply IsS71.set_1) | exact HI0.out)⟩, ⟨by repeat (first | (with_reducible first | exact HK.out | apply KeepBut.set_ | apply keep_drewN | apply keep_drew | apply keep_alloc) | exact HK.out)⟩, ⟨by repeat (first | (with_reducible first | exact HB.out | apply below_alloc | apply pw_below_drewN | apply below_drew1 | refine below_set ?_ (IsS71.ge HI0.out)) | exact HB.out)⟩⟩
 case rest =>
  clear HC3; (try clear c1); (try clear p2); (try clear c4); (try clear c5); (try clear c5b0); (try clear c5b1); (try clear c6); (try clear c6b0); (try clear c6b1); (try clear c7); (try clear c7b0); (try clear c7b1); obtain ⟨kq, x5_2, rfl, HA, HJ2, HI0, HK, HB⟩ := hcut
  cases kq with
  | zero => exact absurd HA.out (by simp [spec_l13Rune.j0])
  | succ kj2 =>
   have H := HA.out; clear HA; simp only [spec_l13Rune.j0] at H; by_cases c8 : x5_2 = true
   ·
    subst c8; have H1 : ((spec_l1Rd_one.f kj2 s0_0 t379 (([97, 98, 105, 109, 122, 65] : List Int))).bind fun bt383 => (some (bt383.1, bt383.2))) = some (r1, r2) := by rw [if_pos rfl] at H; exact H
    clear H; have H := H1; clear H1; obtain ⟨y380, hy380⟩ : ∃ y_ : List Int, y_ = (([97, 98, 105, 109, 122, 65] : List Int)) := ⟨_, rfl⟩; replace H : ((spec_l1Rd_one.f kj2 s0_0 t379 y380).bind fun bt383 => (some (bt383.1, bt383.2))) = some (r1, r2) := by first | (rw [hy380]; with_reducible exact H) | (have H2_ := (Option.bind_some _ _).symm.trans H; rw [hy380]; with_reducible exact H2_) | (have H2_ := (Option.bind_some _ _).symm.trans H; with_reducible exact H2_) | with_reducible exact H | (rw [hy380]; exact H) | exact H
    have Ny380 := Aside0.mk hy380; clear hy380; replace H := Option.bind_eq_some_iff.mp H; obtain ⟨⟨t383, t384⟩, A90, H⟩ := H; replace H : (some (t383, t384)) = some (r1, r2) := H; have A9 := Aside0.mk A90; clear A90; simp only [Option.some.injEq, Prod.mk.injEq] at H; obtain ⟨rfl, rfl⟩ := H; go_wp2_with (first | ((with_reducible refine gate_dst (N := 11) rfl ?_); refine Kd.R_lit (Kd.int .i64) _ 3 ?hg (N := 11) ?hd (xs := ([97, 98, 105, 109, 122, 65] : List Int)) (inner := [.int .i64 97, .int .i64 98, .int .i64 105, .int .i64 109, .int .i64 122, .int .i64 65]) (ok := fun _ => True) (okp := fun _ => True) ?hr ?hp (fun _ hk => hk) trivial (Below.refl _ _) (Nat.le_refl _) (by simp) ?_; (case hd => rfl); (case hg => rfl); (case hr => first | (go_simp; done) | (go_simp; rfl)); (case hp => exact (Reps.one (show Kd.M (Kd.int .i64) _ _ _ 97 [.int .i64 97] from rfl) (Reps.one (show Kd.M (Kd.int .i64) _ _ _ 98 [.int .i64 98] from rfl) (Reps.one (show Kd.M (Kd.int .i64) _ _ _ 105 [.int .i64 105] from rfl) (Reps.one (show Kd.M (Kd.int .i64) _ _ _ 109 [.int .i64 109] from rfl) (Reps.one (show Kd.M (Kd.int .i64) _ _ _ 122 [.int .i64 122] from rfl) (Reps.one (show Kd.M (Kd.int .i64) _ _ _ 65 [.int .i64 65] from rfl) (Reps.none _ _)))))))); intro v381 w10 ho11 hb hg_ hnew_; clear hg_ hnew_; (first | rw [← Ny380.out] at ho11 | (simp only [Int.reduceToNat] at ho11; rw [← Ny380.out] at ho11)); have n0_ := Aside0.mk (Kd.R_lower ho11 (keep_size (w := w) (g := g) (row := none) (by repeat (first | (with_reducible first | exact HK.out | apply KeepBut.set_ | apply keep_drewN | apply keep_drew | apply keep_alloc) | exact HK.out)))); have n1_ := Aside0.mk (IsS71.below (by repeat (first | (with_reducible first | exact HI0.out | apply IsS71.alloc | apply IsS71.drewN | apply IsS71.drew | apply IsS71.set_1) | exact HI0.out)) hb); have n2_ := Aside0.mk (KeepBut.trans (by repeat (first | (with_reducible first | exact HK.out | apply KeepBut.set_ | apply keep_drewN | apply keep_drew | apply keep_alloc) | exact HK.out)) (KeepBut.of_below hb g none) (.inl rfl)); have n3_ := Aside0.mk (below_step (by repeat (first | (with_reducible first | exact HB.out | apply below_alloc | apply pw_below_drewN | apply below_drew1 | refine below_set ?_ (IsS71.ge HI0.out)) | exact HB.out)) hb); clear HI0; clear HK; clear HB; have HO382 := n0_; have HI0 := n1_; have HK := n2_; have HB := n3_; clear n0_ n1_ n2_ n3_; clear hb ho11; obtain ⟨Ao12, co12, eo12⟩ := Kd.R_slice HO382.out; subst eo12) | ((with_reducible refine gate_callee (f := 70) rfl ?_); refine goesL_ (some 12) rfl rfl Try.func70 (by kernel_rfl) rfl #[.pointer (some ⟨g, 0, none⟩), .slice Ao12 y380.length co12] rfl (by (try simp only [List.map_toArray, List.map_cons, List.map_nil]); first | done | rfl) ?_; (with_reducible refine (spec_l1Rd_one.calls kj2 g s0_0 t379 _ _ y380 t383 t384 w0 _ ?side1 ?side2 ?side3 ?side4 ?side5 A9.out).mono ?_); (case side1 => repeat (first | (with_reducible first | exact HI0.out | apply IsS71.alloc | apply IsS71.drewN | apply IsS71.drew | apply IsS71.set_1) | exact HI0.out)); (case side2 => repeat (first | (with_reducible first | exact HB.out | apply below_alloc | apply pw_below_drewN | apply below_drew1 | refine below_set ?_ (IsS71.ge HI0.out)) | exact HB.out)); (case side3 => repeat (first | exact (Kd.R_reads' HO382.out).2.2 | (with_reducible refine Kd.C_alloc ?_ _) | (with_reducible refine Kd.C_drewN ?_ _) | (with_reducible refine Kd.C_drew ?_))); (case side4 => exact (Kd.R_reads' HO382.out).2.1); (case side5 => exact far_slice (IsS71.own_ne HI0.out HO382.out (by decide))); rintro e w13 ⟨rfl, hi, hb, hk⟩; refine ⟨_, rfl, ?_⟩; have n0_ := Aside0.mk (Kd.R_mono (Kd.R_keep (IsS71.apart (show IsS71 w0 _ g s0_0 t379 from by repeat (first | (with_reducible first | exact HI0.out | apply IsS71.alloc | apply IsS71.drewN | apply IsS71.drew | apply IsS71.set_1) | exact HI0.out)) (by (with_reducible repeat (first | apply Kd.R_alloc | apply Kd.R_drewN | apply Kd.R_drew)); exact HO382.out) (by decide)) hk (fun _ h => h.2)) (fun _ h => h.1)); have n1_ := Aside0.mk (KeepBut.trans (by repeat (first | (with_reducible first | exact HK.out | apply KeepBut.set_ | apply keep_drewN | apply keep_drew | apply keep_alloc) | exact HK.out)) hk (.inl rfl)); have n2_ := Aside0.mk (hb); have n3_ := Aside0.mk (hi); clear HO382; clear HK; clear HB; clear HI0; have HO382 := n0_; have HK := n1_; have HB := n2_; have HI0 := n3_; clear n0_ n1_ n2_ n3_; (try clear hb); (try clear hb2); (try clear hk); (try clear hi)))
    go_ret; exact ⟨by first | rfl | (simp [errW_none, errW_some] <;> rfl) | (simp [*, errW_none, errW_some] <;> rfl), by repeat (first | (with_reducible first | exact HI0.out | apply IsS71.alloc | apply IsS71.drewN | apply IsS71.drew | apply IsS71.set_1) | exact HI0.out), by repeat (first | (with_reducible first | exact HB.out | apply below_alloc | apply pw_below_drewN | apply below_drew1 | refine below_set ?_ (IsS71.ge HI0.out)) | exact HB.out), by repeat (first | (with_reducible first | exact HK.out | apply KeepBut.set_ | apply keep_drewN | apply keep_drew | apply keep_alloc) | exact HK.out)⟩
   ·
    replace c8 := Bool.eq_false_iff.mpr c8; subst c8; have H1 : (if t378 = 4 then (spec_l13Rune.j1 kj2 t378 (t378 == 4) s0_0 t379) else (if t378 = 5 then (spec_l13Rune.j1 kj2 t378 (t378 == 5) s0_0 t379) else (spec_l13Rune.j1 kj2 t378 (t378 == 6) s0_0 t379))) = some (r1, r2) := by rw [if_neg (show ¬ (false = true) by decide)] at H; exact H
    clear H; have H := H1; clear H1; have HC14 := Aside0.mk H; clear H; go_upto_if 13 with (fail)
    go_cut [13] (fun v13 wc => ∃ (kq : Nat) (x13_13 : Bool), v13 = .bool x13_13 ∧ Aside0 (spec_l13Rune.j1 kq t378 x13_13 s0_0 t379 = some (r1, r2)) ∧ Aside0 (kq ≤ kj2) ∧ Aside0 (IsS71 w0 wc g s0_0 t379) ∧ Aside0 (KeepBut w wc g none) ∧ Aside0 (Below w0.heap.size w0 wc))
    case first =>
     have H := HC14.out; clear HC14; by_cases c15 : t378 = 4
     ·
      rw [if_pos c15] at H; have c15b0 : (t378 == 4) = true := beq_iff_eq.mpr c15; have c15b1 : (t378 != 4) = false := bne_eq_false_iff_eq.mpr c15; clear c15; (first | rw [c15b0] | (simp only [i64_w, i32_w]; rw [c15b0]) | skip); have H' := Aside0.mk H; clear H; go_wp2; go_meet
      case rel => exact ⟨_, ((t378 == 4)), (by first | rfl | (simp; done) | (simp [*]; done)), H', ⟨by have := HJ2.out; first | omega | exact Nat.le_refl _⟩, ⟨by repeat (first | (with_reducible first | exact HI0.out | apply IsS71.alloc | apply IsS71.drewN | apply IsS71.drew | apply IsS71.set_1) | exact HI0.out)⟩, ⟨by repeat (first | (with_reducible first | exact HK.out | apply KeepBut.set_ | apply keep_drewN | apply keep_drew | apply keep_alloc) | exact HK.out)⟩, ⟨by repeat (first | (with_reducible first | exact HB.out | apply below_alloc | apply pw_below_drewN | apply below_drew1 | refine below_set ?_ (IsS71.ge HI0.out)) | exact HB.out)⟩⟩
     ·
      rw [if_neg c15] at H; have c15b0 : (t378 == 4) = false := beq_eq_false_iff_ne.mpr c15; have c15b1 : (t378 != 4) = true := bne_iff_ne.mpr c15; (first | rw [c15b0] | (simp only [i64_w, i32_w]; rw [c15b0]) | skip); by_cases c16 : t378 = 5
      ·
       rw [if_pos c16] at H; have c16b0 : (t378 == 5) = true := beq_iff_eq.mpr c16; have c16b1 : (t378 != 5) = false := bne_eq_false_iff_eq.mpr c16; clear c16; have H' := Aside0.mk H; clear H; go_wp2; go_meet
       case rel => exact ⟨_, ((t378 == 5)), (by first | rfl | (simp; done) | (simp [*]; done)), H', ⟨by have := HJ2.out; first | omega | exact Nat.le_refl _⟩, ⟨by repeat (first | (with_reducible first | exact HI0.out | apply IsS71.alloc | apply IsS71.drewN | apply IsS71.drew | apply IsS71.set_1) | exact HI0.out)⟩, ⟨by repeat (first | (with_reducible first | exact HK.out | apply KeepBut.set_ | apply keep_drewN | apply keep_drew | apply keep_alloc) | exact HK.out)⟩, ⟨by repeat (first | (with_reducible first | exact HB.out | apply below_alloc | apply pw_below_drewN | apply below_drew1 | refine below_set ?_ (IsS71.ge HI0.out)) | exact HB.out)⟩⟩
      ·
       rw [if_neg c16] at H; have c16b0 : (t378 == 5) = false := beq_eq_false_iff_ne.mpr c16; have c16b1 : (t378 != 5) = true := bne_iff_ne.mpr c16; have H' := Aside0.mk H; clear H; go_wp2; go_meet
       case rel => exact ⟨_, ((t378 == 6)), (by first | rfl | (simp; done) | (simp [*]; done)), H', ⟨by have := HJ2.out; first | omega | exact Nat.le_refl _⟩, ⟨by repeat (first | (with_reducible first | exact HI0.out | apply IsS71.alloc | apply IsS71.drewN | apply IsS71.drew | apply IsS71.set_1) | exact HI0.out)⟩, ⟨by repeat (first | (with_reducible first | exact HK.out | apply KeepBut.set_ | apply keep_drewN | apply keep_drew | apply keep_alloc) | exact HK.out)⟩, ⟨by repeat (first | (with_reducible first | exact HB.out | apply below_alloc | apply pw_below_drewN | apply below_drew1 | refine below_set ?_ (IsS71.ge HI0.out)) | exact HB.out)⟩⟩
    case rest =>
     clear HC14; (try clear c1); (try clear p2); (try clear c4); (try clear c5); (try clear c5b0); (try clear c5b1); (try clear c6); (try clear c6b0); (try clear c6b1); (try clear c7); (try clear c7b0); (try clear c7b1); (try clear c8); (try clear c10); (try clear c15); (try clear c15b0); (try clear c15b1); (try clear c16); (try clear c16b0); (try clear c16b1); (try clear p2); obtain ⟨kq, x13_13, rfl, HA, HJ13, HI0, HK, HB⟩ := hcut
     cases kq with
     | zero => exact absurd HA.out (by simp [spec_l13Rune.j1])
     | succ kj13 =>
      have H := HA.out; clear HA; simp only [spec_l13Rune.j1] at H; by_cases c17 : x13_13 = true
      ·
       subst c17; have H1 : ((spec_l1Rd_one.f kj13 s0_0 t379 (([1488, 1489, 1514] : List Int))).bind fun bt388 => (some (bt388.1, bt388.2))) = some (r1, r2) := by rw [if_pos rfl] at H; exact H
       clear H; have H := H1; clear H1; obtain ⟨y385, hy385⟩ : ∃ y_ : List Int, y_ = (([1488, 1489, 1514] : List Int)) := ⟨_, rfl⟩; replace H : ((spec_l1Rd_one.f kj13 s0_0 t379 y385).bind fun bt388 => (some (bt388.1, bt388.2))) = some (r1, r2) := by first | (rw [hy385]; with_reducible exact H) | (have H2_ := (Option.bind_some _ _).symm.trans H; rw [hy385]; with_reducible exact H2_) | (have H2_ := (Option.bind_some _ _).symm.trans H; with_reducible exact H2_) | with_reducible exact H | (rw [hy385]; exact H) | exact H
       have Ny385 := Aside0.mk hy385; clear hy385; replace H := Option.bind_eq_some_iff.mp H; obtain ⟨⟨t388, t389⟩, A180, H⟩ := H; replace H : (some (t388, t389)) = some (r1, r2) := H; have A18 := Aside0.mk A180; clear A180; simp only [Option.some.injEq, Prod.mk.injEq] at H; obtain ⟨rfl, rfl⟩ := H; go_wp2_with (first | ((with_reducible refine gate_dst (N := 18) rfl ?_); refine Kd.R_lit (Kd.int .i64) _ 3 ?hg (N := 18) ?hd (xs := ([1488, 1489, 1514] : List Int)) (inner := [.int .i64 1488, .int .i64 1489, .int .i64 1514]) (ok := fun _ => True) (okp := fun _ => True) ?hr ?hp (fun _ hk => hk) trivial (Below.refl _ _) (Nat.le_refl _) (by simp) ?_; (case hd => rfl); (case hg => rfl); (case hr => first | (go_simp; done) | (go_simp; rfl)); (case hp => exact (Reps.one (show Kd.M (Kd.int .i64) _ _ _ 1488 [.int .i64 1488] from rfl) (Reps.one (show Kd.M (Kd.int .i64) _ _ _ 1489 [.int .i64 1489] from rfl) (Reps.one (show Kd.M (Kd.int .i64) _ _ _ 1514 [.int .i64 1514] from rfl) (Reps.none _ _))))); intro v386 w19 ho20 hb hg_ hnew_; clear hg_ hnew_; (first | rw [← Ny385.out] at ho20 | (simp only [Int.reduceToNat] at ho20; rw [← Ny385.out] at ho20)); have n0_ := Aside0.mk (Kd.R_lower ho20 (keep_size (w := w) (g := g) (row := none) (by repeat (first | (with_reducible first | exact HK.out | apply KeepBut.set_ | apply keep_drewN | apply keep_drew | apply keep_alloc) | exact HK.out)))); have n1_ := Aside0.mk (IsS71.below (by repeat (first | (with_reducible first | exact HI0.out | apply IsS71.alloc | apply IsS71.drewN | apply IsS71.drew | apply IsS71.set_1) | exact HI0.out)) hb); have n2_ := Aside0.mk (KeepBut.trans (by repeat (first | (with_reducible first | exact HK.out | apply KeepBut.set_ | apply keep_drewN | apply keep_drew | apply keep_alloc) | exact HK.out)) (KeepBut.of_below hb g none) (.inl rfl)); have n3_ := Aside0.mk (below_step (by repeat (first | (with_reducible first | exact HB.out | apply below_alloc | apply pw_below_drewN | apply below_drew1 | refine below_set ?_ (IsS71.ge HI0.out)) | exact HB.out)) hb); clear HI0; clear HK; clear HB; have HO387 := n0_; have HI0 := n1_; have HK := n2_; have HB := n3_; clear n0_ n1_ n2_ n3_; clear hb ho20; obtain ⟨Ao21, co21, eo21⟩ := Kd.R_slice HO387.out; subst eo21) | ((with_reducible refine gate_callee (f := 70) rfl ?_); refine goesL_ (some 19) rfl rfl Try.func70 (by kernel_rfl) rfl #[.pointer (some ⟨g, 0, none⟩), .slice Ao21 y385.length co21] rfl (by (try simp only [List.map_toArray, List.map_cons, List.map_nil]); first | done | rfl) ?_; (with_reducible refine (spec_l1Rd_one.calls kj13 g s0_0 t379 _ _ y385 t388 t389 w0 _ ?side1 ?side2 ?side3 ?side4 ?side5 A18.out).mono ?_); (case side1 => repeat (first | (with_reducible first | exact HI0.out | apply IsS71.alloc | apply IsS71.drewN | apply IsS71.drew | apply IsS71.set_1) | exact HI0.out)); (case side2 => repeat (first | (with_reducible first | exact HB.out | apply below_alloc | apply pw_below_drewN | apply below_drew1 | refine below_set ?_ (IsS71.ge HI0.out)) | exact HB.out)); (case side3 => repeat (first | exact (Kd.R_reads' HO387.out).2.2 | (with_reducible refine Kd.C_alloc ?_ _) | (with_reducible refine Kd.C_drewN ?_ _) | (with_reducible refine Kd.C_drew ?_))); (case side4 => exact (Kd.R_reads' HO387.out).2.1); (case side5 => exact far_slice (IsS71.own_ne HI0.out HO387.out (by decide))); rintro e w22 ⟨rfl, hi, hb, hk⟩; refine ⟨_, rfl, ?_⟩; have n0_ := Aside0.mk (Kd.R_mono (Kd.R_keep (IsS71.apart (show IsS71 w0 _ g s0_0 t379 from by repeat (first | (with_reducible first | exact HI0.out | apply IsS71.alloc | apply IsS71.drewN | apply IsS71.drew | apply IsS71.set_1) | exact HI0.out)) (by (with_reducible repeat (first | apply Kd.R_alloc | apply Kd.R_drewN | apply Kd.R_drew)); exact HO387.out) (by decide)) hk (fun _ h => h.2)) (fun _ h => h.1)); have n1_ := Aside0.mk (KeepBut.trans (by repeat (first | (with_reducible first | exact HK.out | apply KeepBut.set_ | apply keep_drewN | apply keep_drew | apply keep_alloc) | exact HK.out)) hk (.inl rfl)); have n2_ := Aside0.mk (hb); have n3_ := Aside0.mk (hi); clear HO387; clear HK; clear HB; clear HI0; have HO387 := n0_; have HK := n1_; have HB := n2_; have HI0 := n3_; clear n0_ n1_ n2_ n3_; (try clear hb); (try clear hb2); (try clear hk); (try clear hi)))
       go_ret; exact ⟨by first | rfl | (simp [errW_none, errW_some] <;> rfl) | (simp [*, errW_none, errW_some] <;> rfl), by repeat (first | (with_reducible first | exact HI0.out | apply IsS71.alloc | apply IsS71.drewN | apply IsS71.drew | apply IsS71.set_1) | exact HI0.out), by repeat (first | (with_reducible first | exact HB.out | apply below_alloc | apply pw_below_drewN | apply below_drew1 | refine below_set ?_ (IsS71.ge HI0.out)) | exact HB.out), by repeat (first | (with_reducible first | exact HK.out | apply KeepBut.set_ | apply keep_drewN | apply keep_drew | apply keep_alloc) | exact HK.out)⟩
      ·
       replace c17 := Bool.eq_false_iff.mpr c17; subst c17; have H1 : (if t378 = 7 then ((spec_l1Rd_one.f kj13 s0_0 t379 (([1569, 1610, 1600] : List Int))).bind fun bt393 => (some (bt393.1, bt393.2))) else (if t378 = 8 then ((spec_l1Rd_one.f kj13 s0_0 t379 (([48, 55, 1632, 1641] : List Int))).bind fun bt398 => (some (bt398.1, bt398.2))) else (if t378 = 9 then (spec_l13Rune.j2 kj13 t378 (t378 == 9) s0_0 t379) else (spec_l13Rune.j2 kj13 t378 (t378 == 10) s0_0 t379)))) = some (r1, r2) := by rw [if_neg (show ¬ (false = true) by decide)] at H; exact H
       clear H; have H := H1; clear H1; by_cases c23 : t378 = 7
       ·
        rw [if_pos c23] at H; have c23b0 : (t378 == 7) = true := beq_iff_eq.mpr c23; have c23b1 : (t378 != 7) = false := bne_eq_false_iff_eq.mpr c23; clear c23; obtain ⟨y390, hy390⟩ : ∃ y_ : List Int, y_ = (([1569, 1610, 1600] : List Int)) := ⟨_, rfl⟩; replace H : ((spec_l1Rd_one.f kj13 s0_0 t379 y390).bind fun bt393 => (some (bt393.1, bt393.2))) = some (r1, r2) := by first | (rw [hy390]; with_reducible exact H) | (have H2_ := (Option.bind_some _ _).symm.trans H; rw [hy390]; with_reducible exact H2_) | (have H2_ := (Option.bind_some _ _).symm.trans H; with_reducible exact H2_) | with_reducible exact H | (rw [hy390]; exact H) | exact H
        have Ny390 := Aside0.mk hy390; clear hy390; replace H := Option.bind_eq_some_iff.mp H; obtain ⟨⟨t393, t394⟩, A240, H⟩ := H; replace H : (some (t393, t394)) = some (r1, r2) := H; have A24 := Aside0.mk A240; clear A240; simp only [Option.some.injEq, Prod.mk.injEq] at H; obtain ⟨rfl, rfl⟩ := H; go_wp2_with (first | ((with_reducible refine gate_dst (N := 23) rfl ?_); refine Kd.R_lit (Kd.int .i64) _ 3 ?hg (N := 23) ?hd (xs := ([1569, 1610, 1600] : List Int)) (inner := [.int .i64 1569, .int .i64 1610, .int .i64 1600]) (ok := fun _ => True) (okp := fun _ => True) ?hr ?hp (fun _ hk => hk) trivial (Below.refl _ _) (Nat.le_refl _) (by simp) ?_; (case hd => rfl); (case hg => rfl); (case hr => first | (go_simp; done) | (go_simp; rfl)); (case hp => exact (Reps.one (show Kd.M (Kd.int .i64) _ _ _ 1569 [.int .i64 1569] from rfl) (Reps.one (show Kd.M (Kd.int .i64) _ _ _ 1610 [.int .i64 1610] from rfl) (Reps.one (show Kd.M (Kd.int .i64) _ _ _ 1600 [.int .i64 1600] from rfl) (Reps.none _ _))))); intro v391 w25 ho26 hb hg_ hnew_; clear hg_ hnew_; (first | rw [← Ny390.out] at ho26 | (simp only [Int.reduceToNat] at ho26; rw [← Ny390.out] at ho26)); have n0_ := Aside0.mk (Kd.R_lower ho26 (keep_size (w := w) (g := g) (row := none) (by repeat (first | (with_reducible first | exact HK.out | apply KeepBut.set_ | apply keep_drewN | apply keep_drew | apply keep_alloc) | exact HK.out)))); have n1_ := Aside0.mk (IsS71.below (by repeat (first | (with_reducible first | exact HI0.out | apply IsS71.alloc | apply IsS71.drewN | apply IsS71.drew | apply IsS71.set_1) | exact HI0.out)) hb); have n2_ := Aside0.mk (KeepBut.trans (by repeat (first | (with_reducible first | exact HK.out | apply KeepBut.set_ | apply keep_drewN | apply keep_drew | apply keep_alloc) | exact HK.out)) (KeepBut.of_below hb g none) (.inl rfl)); have n3_ := Aside0.mk (below_step (by repeat (first | (with_reducible first | exact HB.out | apply below_alloc | apply pw_below_drewN | apply below_drew1 | refine below_set ?_ (IsS71.ge HI0.out)) | exact HB.out)) hb); clear HI0; clear HK; clear HB; have HO392 := n0_; have HI0 := n1_; have HK := n2_; have HB := n3_; clear n0_ n1_ n2_ n3_; clear hb ho26; obtain ⟨Ao27, co27, eo27⟩ := Kd.R_slice HO392.out; subst eo27) | ((with_reducible refine gate_callee (f := 70) rfl ?_); refine goesL_ (some 24) rfl rfl Try.func70 (by kernel_rfl) rfl #[.pointer (some ⟨g, 0, none⟩), .slice Ao27 y390.length co27] rfl (by (try simp only [List.map_toArray, List.map_cons, List.map_nil]); first | done | rfl) ?_; (with_reducible refine (spec_l1Rd_one.calls kj13 g s0_0 t379 _ _ y390 t393 t394 w0 _ ?side1 ?side2 ?side3 ?side4 ?side5 A24.out).mono ?_); (case side1 => repeat (first | (with_reducible first | exact HI0.out | apply IsS71.alloc | apply IsS71.drewN | apply IsS71.drew | apply IsS71.set_1) | exact HI0.out)); (case side2 => repeat (first | (with_reducible first | exact HB.out | apply below_alloc | apply pw_below_drewN | apply below_drew1 | refine below_set ?_ (IsS71.ge HI0.out)) | exact HB.out)); (case side3 => repeat (first | exact (Kd.R_reads' HO392.out).2.2 | (with_reducible refine Kd.C_alloc ?_ _) | (with_reducible refine Kd.C_drewN ?_ _) | (with_reducible refine Kd.C_drew ?_))); (case side4 => exact (Kd.R_reads' HO392.out).2.1); (case side5 => exact far_slice (IsS71.own_ne HI0.out HO392.out (by decide))); rintro e w28 ⟨rfl, hi, hb, hk⟩; refine ⟨_, rfl, ?_⟩; have n0_ := Aside0.mk (Kd.R_mono (Kd.R_keep (IsS71.apart (show IsS71 w0 _ g s0_0 t379 from by repeat (first | (with_reducible first | exact HI0.out | apply IsS71.alloc | apply IsS71.drewN | apply IsS71.drew | apply IsS71.set_1) | exact HI0.out)) (by (with_reducible repeat (first | apply Kd.R_alloc | apply Kd.R_drewN | apply Kd.R_drew)); exact HO392.out) (by decide)) hk (fun _ h => h.2)) (fun _ h => h.1)); have n1_ := Aside0.mk (KeepBut.trans (by repeat (first | (with_reducible first | exact HK.out | apply KeepBut.set_ | apply keep_drewN | apply keep_drew | apply keep_alloc) | exact HK.out)) hk (.inl rfl)); have n2_ := Aside0.mk (hb); have n3_ := Aside0.mk (hi); clear HO392; clear HK; clear HB; clear HI0; have HO392 := n0_; have HK := n1_; have HB := n2_; have HI0 := n3_; clear n0_ n1_ n2_ n3_; (try clear hb); (try clear hb2); (try clear hk); (try clear hi)))
        go_ret; exact ⟨by first | rfl | (simp [errW_none, errW_some] <;> rfl) | (simp [*, errW_none, errW_some] <;> rfl), by repeat (first | (with_reducible first | exact HI0.out | apply IsS71.alloc | apply IsS71.drewN | apply IsS71.drew | apply IsS71.set_1) | exact HI0.out), by repeat (first | (with_reducible first | exact HB.out | apply below_alloc | apply pw_below_drewN | apply below_drew1 | refine below_set ?_ (IsS71.ge HI0.out)) | exact HB.out), by repeat (first | (with_reducible first | exact HK.out | apply KeepBut.set_ | apply keep_drewN | apply keep_drew | apply keep_alloc) | exact HK.out)⟩
       ·
        rw [if_neg c23] at H; have c23b0 : (t378 == 7) = false := beq_eq_false_iff_ne.mpr c23; have c23b1 : (t378 != 7) = true := bne_iff_ne.mpr c23; by_cases c29 : t378 = 8
        ·
         rw [if_pos c29] at H; have c29b0 : (t378 == 8) = true := beq_iff_eq.mpr c29; have c29b1 : (t378 != 8) = false := bne_eq_false_iff_eq.mpr c29; clear c29; obtain ⟨y395, hy395⟩ : ∃ y_ : List Int, y_ = (([48, 55, 1632, 1641] : List Int)) := ⟨_, rfl⟩; replace H : ((spec_l1Rd_one.f kj13 s0_0 t379 y395).bind fun bt398 => (some (bt398.1, bt398.2))) = some (r1, r2) := by first | (rw [hy395]; with_reducible exact H) | (have H2_ := (Option.bind_some _ _).symm.trans H; rw [hy395]; with_reducible exact H2_) | (have H2_ := (Option.bind_some _ _).symm.trans H; with_reducible exact H2_) | with_reducible exact H | (rw [hy395]; exact H) | exact H
         have Ny395 := Aside0.mk hy395; clear hy395; replace H := Option.bind_eq_some_iff.mp H; obtain ⟨⟨t398, t399⟩, A300, H⟩ := H; replace H : (some (t398, t399)) = some (r1, r2) := H; have A30 := Aside0.mk A300; clear A300; simp only [Option.some.injEq, Prod.mk.injEq] at H; obtain ⟨rfl, rfl⟩ := H; go_wp2_with (first | ((with_reducible refine gate_dst (N := 28) rfl ?_); refine Kd.R_lit (Kd.int .i64) _ 3 ?hg (N := 28) ?hd (xs := ([48, 55, 1632, 1641] : List Int)) (inner := [.int .i64 48, .int .i64 55, .int .i64 1632, .int .i64 1641]) (ok := fun _ => True) (okp := fun _ => True) ?hr ?hp (fun _ hk => hk) trivial (Below.refl _ _) (Nat.le_refl _) (by simp) ?_; (case hd => rfl); (case hg => rfl); (case hr => first | (go_simp; done) | (go_simp; rfl)); (case hp => exact (Reps.one (show Kd.M (Kd.int .i64) _ _ _ 48 [.int .i64 48] from rfl) (Reps.one (show Kd.M (Kd.int .i64) _ _ _ 55 [.int .i64 55] from rfl) (Reps.one (show Kd.M (Kd.int .i64) _ _ _ 1632 [.int .i64 1632] from rfl) (Reps.one (show Kd.M (Kd.int .i64) _ _ _ 1641 [.int .i64 1641] from rfl) (Reps.none _ _)))))); intro v396 w31 ho32 hb hg_ hnew_; clear hg_ hnew_; (first | rw [← Ny395.out] at ho32 | (simp only [Int.reduceToNat] at ho32; rw [← Ny395.out] at ho32)); have n0_ := Aside0.mk (Kd.R_lower ho32 (keep_size (w := w) (g := g) (row := none) (by repeat (first | (with_reducible first | exact HK.out | apply KeepBut.set_ | apply keep_drewN | apply keep_drew | apply keep_alloc) | exact HK.out)))); have n1_ := Aside0.mk (IsS71.below (by repeat (first | (with_reducible first | exact HI0.out | apply IsS71.alloc | apply IsS71.drewN | apply IsS71.drew | apply IsS71.set_1) | exact HI0.out)) hb); have n2_ := Aside0.mk (KeepBut.trans (by repeat (first | (with_reducible first | exact HK.out | apply KeepBut.set_ | apply keep_drewN | apply keep_drew | apply keep_alloc) | exact HK.out)) (KeepBut.of_below hb g none) (.inl rfl)); have n3_ := Aside0.mk (below_step (by repeat (first | (with_reducible first | exact HB.out | apply below_alloc | apply pw_below_drewN | apply below_drew1 | refine below_set ?_ (IsS71.ge HI0.out)) | exact HB.out)) hb); clear HI0; clear HK; clear HB; have HO397 := n0_; have HI0 := n1_; have HK := n2_; have HB := n3_; clear n0_ n1_ n2_ n3_; clear hb ho32; obtain ⟨Ao33, co33, eo33⟩ := Kd.R_slice HO397.out; subst eo33) | ((with_reducible refine gate_callee (f := 70) rfl ?_); refine goesL_ (some 29) rfl rfl Try.func70 (by kernel_rfl) rfl #[.pointer (some ⟨g, 0, none⟩), .slice Ao33 y395.length co33] rfl (by (try simp only [List.map_toArray, List.map_cons, List.map_nil]); first | done | rfl) ?_; (with_reducible refine (spec_l1Rd_one.calls kj13 g s0_0 t379 _ _ y395 t398 t399 w0 _ ?side1 ?side2 ?side3 ?side4 ?side5 A30.out).mono ?_); (case side1 => repeat (first | (with_reducible first | exact HI0.out | apply IsS71.alloc | apply IsS71.drewN | apply IsS71.drew | apply IsS71.set_1) | exact HI0.out)); (case side2 => repeat (first | (with_reducible first | exact HB.out | apply below_alloc | apply pw_below_drewN | apply below_drew1 | refine below_set ?_ (IsS71.ge HI0.out)) | exact HB.out)); (case side3 => repeat (first | exact (Kd.R_reads' HO397.out).2.2 | (with_reducible refine Kd.C_alloc ?_ _) | (with_reducible refine Kd.C_drewN ?_ _) | (with_reducible refine Kd.C_drew ?_))); (case side4 => exact (Kd.R_reads' HO397.out).2.1); (case side5 => exact far_slice (IsS71.own_ne HI0.out HO397.out (by decide))); rintro e w34 ⟨rfl, hi, hb, hk⟩; refine ⟨_, rfl, ?_⟩; have n0_ := Aside0.mk (Kd.R_mono (Kd.R_keep (IsS71.apart (show IsS71 w0 _ g s0_0 t379 from by repeat (first | (with_reducible first | exact HI0.out | apply IsS71.alloc | apply IsS71.drewN | apply IsS71.drew | apply IsS71.set_1) | exact HI0.out)) (by (with_reducible repeat (first | apply Kd.R_alloc | apply Kd.R_drewN | apply Kd.R_drew)); exact HO397.out) (by decide)) hk (fun _ h => h.2)) (fun _ h => h.1)); have n1_ := Aside0.mk (KeepBut.trans (by repeat (first | (with_reducible first | exact HK.out | apply KeepBut.set_ | apply keep_drewN | apply keep_drew | apply keep_alloc) | exact HK.out)) hk (.inl rfl)); have n2_ := Aside0.mk (hb); have n3_ := Aside0.mk (hi); clear HO397; clear HK; clear HB; clear HI0; have HO397 := n0_; have HK := n1_; have HB := n2_; have HI0 := n3_; clear n0_ n1_ n2_ n3_; (try clear hb); (try clear hb2); (try clear hk); (try clear hi)))
         go_ret; exact ⟨by first | rfl | (simp [errW_none, errW_some] <;> rfl) | (simp [*, errW_none, errW_some] <;> rfl), by repeat (first | (with_reducible first | exact HI0.out | apply IsS71.alloc | apply IsS71.drewN | apply IsS71.drew | apply IsS71.set_1) | exact HI0.out), by repeat (first | (with_reducible first | exact HB.out | apply below_alloc | apply pw_below_drewN | apply below_drew1 | refine below_set ?_ (IsS71.ge HI0.out)) | exact HB.out), by repeat (first | (with_reducible first | exact HK.out | apply KeepBut.set_ | apply keep_drewN | apply keep_drew | apply keep_alloc) | exact HK.out)⟩
        ·
         rw [if_neg c29] at H; have c29b0 : (t378 == 8) = false := beq_eq_false_iff_ne.mpr c29; have c29b1 : (t378 != 8) = true := bne_iff_ne.mpr c29; have HC35 := Aside0.mk H; clear H; go_upto_if 30 with (fail)
         go_cut [30] (fun v30 wc => ∃ (kq : Nat) (x30_34 : Bool), v30 = .bool x30_34 ∧ Aside0 (spec_l13Rune.j2 kq t378 x30_34 s0_0 t379 = some (r1, r2)) ∧ Aside0 (kq ≤ kj13) ∧ Aside0 (IsS71 w0 wc g s0_0 t379) ∧ Aside0 (KeepBut w wc g none) ∧ Aside0 (Below w0.heap.size w0 wc))
         case first =>
          have H := HC35.out; clear HC35; by_cases c36 : t378 = 9
          ·
           rw [if_pos c36] at H; have c36b0 : (t378 == 9) = true := beq_iff_eq.mpr c36; have c36b1 : (t378 != 9) = false := bne_eq_false_iff_eq.mpr c36; clear c36; (first | rw [c36b0] | (simp only [i64_w, i32_w]; rw [c36b0]) | skip); have H' := Aside0.mk H; clear H; go_wp2; go_meet
           case rel => exact ⟨_, ((t378 == 9)), (by first | rfl | (simp; done) | (simp [*]; done)), H', ⟨by have := HJ2.out; have := HJ13.out; first | omega | exact Nat.le_refl _⟩, ⟨by repeat (first | (with_reducible first | exact HI0.out | apply IsS71.alloc | apply IsS71.drewN | apply IsS71.drew | apply IsS71.set_1) | exact HI0.out)⟩, ⟨by repeat (first | (with_reducible first | exact HK.out | apply KeepBut.set_ | apply keep_drewN | apply keep_drew | apply keep_alloc) | exact HK.out)⟩, ⟨by repeat (first | (with_reducible first | exact HB.out | apply below_alloc | apply pw_below_drewN | apply below_drew1 | refine below_set ?_ (IsS71.ge HI0.out)) | exact HB.out)⟩⟩
          ·
           rw [if_neg c36] at H; have c36b0 : (t378 == 9) = false := beq_eq_false_iff_ne.mpr c36; have c36b1 : (t378 != 9) = true := bne_iff_ne.mpr c36; (first | rw [c36b0] | (simp only [i64_w, i32_w]; rw [c36b0]) | skip); have H' := Aside0.mk H; clear H; go_wp2; go_meet
           case rel => exact ⟨_, ((t378 == 10)), (by first | rfl | (simp; done) | (simp [*]; done)), H', ⟨by have := HJ2.out; have := HJ13.out; first | omega | exact Nat.le_refl _⟩, ⟨by repeat (first | (with_reducible first | exact HI0.out | apply IsS71.alloc | apply IsS71.drewN | apply IsS71.drew | apply IsS71.set_1) | exact HI0.out)⟩, ⟨by repeat (first | (with_reducible first | exact HK.out | apply KeepBut.set_ | apply keep_drewN | apply keep_drew | apply keep_alloc) | exact HK.out)⟩, ⟨by repeat (first | (with_reducible first | exact HB.out | apply below_alloc | apply pw_below_drewN | apply below_drew1 | refine below_set ?_ (IsS71.ge HI0.out)) | exact HB.out)⟩⟩
         case rest =>
          clear HC35; (try clear c1); (try clear c2); (try clear p2); (try clear c3); (try clear c4); (try clear c5); (try clear c5b0); (try clear c5b1); (try clear c6); (try clear c6b0); (try clear c6b1); (try clear c7); (try clear c7b0); (try clear c7b1); (try clear c8); (try clear c10); (try clear c15); (try clear c15b0); (try clear c15b1); (try clear c16); (try clear c16b0); (try clear c16b1); (try clear c17); (try clear c23); (try clear c23b0); (try clear c23b1); (try clear c29); (try clear c29b0); (try clear c29b1); (try clear c36); (try clear c36b0); (try clear c36b1); (try clear p2); obtain ⟨kq, x30_34, rfl, HA, HJ34, HI0, HK, HB⟩ := hcut
          cases kq with
          | zero => exact absurd HA.out (by simp [spec_l13Rune.j2])
          | succ kj34 =>
           have H := HA.out; clear HA; simp only [spec_l13Rune.j2] at H; by_cases c37 : x30_34 = true
           ·
            subst c37; have H1 : (some (32, t379)) = some (r1, r2) := by rw [if_pos rfl] at H; exact H
            clear H; have H := H1; clear H1; simp only [Option.some.injEq, Prod.mk.injEq] at H; obtain ⟨rfl, rfl⟩ := H; go_wp2; go_ret; exact ⟨by first | rfl | (simp [errW_none, errW_some] <;> rfl) | (simp [*, errW_none, errW_some] <;> rfl), by repeat (first | (with_reducible first | exact HI0.out | apply IsS71.alloc | apply IsS71.drewN | apply IsS71.drew | apply IsS71.set_1) | exact HI0.out), by repeat (first | (with_reducible first | exact HB.out | apply below_alloc | apply pw_below_drewN | apply below_drew1 | refine below_set ?_ (IsS71.ge HI0.out)) | exact HB.out), by repeat (first | (with_reducible first | exact HK.out | apply KeepBut.set_ | apply keep_drewN | apply keep_drew | apply keep_alloc) | exact HK.out)⟩
           ·
            replace c37 := Bool.eq_false_iff.mpr c37; subst c37; have H1 : (if t378 = 11 then ((spec_l1Rd_one.f kj34 s0_0 t379 (([43, 45, 35, 36, 44, 46, 47, 58, 40, 41, 91, 93, 60, 33, 34, 59, 160] : List Int))).bind fun bt403 => (some (bt403.1, bt403.2))) else (if t378 = 12 then ((spec_l1Rd_one.f kj34 s0_0 t379 (([768, 879, 8203, 8205, 173, 9, 10, 13] : List Int))).bind fun bt408 => (some (bt408.1, bt408.2))) else (if t378 = 13 then ((spec_l1Rd_one.f kj34 s0_0 t379 (([8234, 8235, 8236, 8237, 8238] : List Int))).bind fun bt413 => (some (bt413.1, bt413.2))) else (if t378 = 14 then ((spec_l1Rd_one.f kj34 s0_0 t379 (([8294, 8295, 8296, 8297, 8297] : List Int))).bind fun bt418 => (some (bt418.1, bt418.2))) else ((spec_l1Rd_one.f kj34 s0_0 t379 (([19968, 40959, 127462, 127487, 128512, 200, 40, 41] : List Int))).bind fun bt423 => (some (bt423.1, bt423.2))))))) = some (r1, r2) := by rw [if_neg (show ¬ (false = true) by decide)] at H; exact H
            clear H; have H := H1; clear H1; by_cases c38 : t378 = 11
            ·
             rw [if_pos c38] at H; have c38b0 : (t378 == 11) = true := beq_iff_eq.mpr c38; have c38b1 : (t378 != 11) = false := bne_eq_false_iff_eq.mpr c38; clear c38; obtain ⟨y400, hy400⟩ : ∃ y_ : List Int, y_ = (([43, 45, 35, 36, 44, 46, 47, 58, 40, 41, 91, 93, 60, 33, 34, 59, 160] : List Int)) := ⟨_, rfl⟩; replace H : ((spec_l1Rd_one.f kj34 s0_0 t379 y400).bind fun bt403 => (some (bt403.1, bt403.2))) = some (r1, r2) := by first | (rw [hy400]; with_reducible exact H) | (have H2_ := (Option.bind_some _ _).symm.trans H; rw [hy400]; with_reducible exact H2_) | (have H2_ := (Option.bind_some _ _).symm.trans H; with_reducible exact H2_) | with_reducible exact H | (rw [hy400]; exact H) | exact H
             have Ny400 := Aside0.mk hy400; clear hy400; replace H := Option.bind_eq_some_iff.mp H; obtain ⟨⟨t403, t404⟩, A390, H⟩ := H; replace H : (some (t403, t404)) = some (r1, r2) := H; have A39 := Aside0.mk A390; clear A390; simp only [Option.some.injEq, Prod.mk.injEq] at H; obtain ⟨rfl, rfl⟩ := H; go_wp2_with (first | ((with_reducible refine gate_dst (N := 36) rfl ?_); refine Kd.R_lit (Kd.int .i64) _ 3 ?hg (N := 36) ?hd (xs := ([43, 45, 35, 36, 44, 46, 47, 58, 40, 41, 91, 93, 60, 33, 34, 59, 160] : List Int)) (inner := [.int .i64 43, .int .i64 45, .int .i64 35, .int .i64 36, .int .i64 44, .int .i64 46, .int .i64 47, .int .i64 58, .int .i64 40, .int .i64 41, .int .i64 91, .int .i64 93, .int .i64 60, .int .i64 33, .int .i64 34, .int .i64 59, .int .i64 160]) (ok := fun _ => True) (okp := fun _ => True) ?hr ?hp (fun _ hk => hk) trivial (Below.refl _ _) (Nat.le_refl _) (by simp) ?_; (case hd => rfl); (case hg => rfl); (case hr => first | (go_simp; done) | (go_simp; rfl)); (case hp => exact (Reps.one (show Kd.M (Kd.int .i64) _ _ _ 43 [.int .i64 43] from rfl) (Reps.one (show Kd.M (Kd.int .i64) _ _ _ 45 [.int .i64 45] from rfl) (Reps.one (show Kd.M (Kd.int .i64) _ _ _ 35 [.int .i64 35] from rfl) (Reps.one (show Kd.M (Kd.int .i64) _ _ _ 36 [.int .i64 36] from rfl) (Reps.one (show Kd.M (Kd.int .i64) _ _ _ 44 [.int .i64 44] from rfl) (Reps.one (show Kd.M (Kd.int .i64) _ _ _ 46 [.int .i64 46] from rfl) (Reps.one (show Kd.M (Kd.int .i64) _ _ _ 47 [.int .i64 47] from rfl) (Reps.one (show Kd.M (Kd.int .i64) _ _ _ 58 [.int .i64 58] from rfl) (Reps.one (show Kd.M (Kd.int .i64) _ _ _ 40 [.int .i64 40] from rfl) (Reps.one (show Kd.M (Kd.int .i64) _ _ _ 41 [.int .i64 41] from rfl) (Reps.one (show Kd.M (Kd.int .i64) _ _ _ 91 [.int .i64 91] from rfl) (Reps.one (show Kd.M (Kd.int .i64) _ _ _ 93 [.int .i64 93] from rfl) (Reps.one (show Kd.M (Kd.int .i64) _ _ _ 60 [.int .i64 60] from rfl) (Reps.one (show Kd.M (Kd.int .i64) _ _ _ 33 [.int .i64 33] from rfl) (Reps.one (show Kd.M (Kd.int .i64) _ _ _ 34 [.int .i64 34] from rfl) (Reps.one (show Kd.M (Kd.int .i64) _ _ _ 59 [.int .i64 59] from rfl) (Reps.one (show Kd.M (Kd.int .i64) _ _ _ 160 [.int .i64 160] from rfl) (Reps.none _ _))))))))))))))))))); intro v401 w40 ho41 hb hg_ hnew_; clear hg_ hnew_; (first | rw [← Ny400.out] at ho41 | (simp only [Int.reduceToNat] at ho41; rw [← Ny400.out] at ho41)); have n0_ := Aside0.mk (Kd.R_lower ho41 (keep_size (w := w) (g := g) (row := none) (by repeat (first | (with_reducible first | exact HK.out | apply KeepBut.set_ | apply keep_drewN | apply keep_drew | apply keep_alloc) | exact HK.out)))); have n1_ := Aside0.mk (IsS71.below (by repeat (first | (with_reducible first | exact HI0.out | apply IsS71.alloc | apply IsS71.drewN | apply IsS71.drew | apply IsS71.set_1) | exact HI0.out)) hb); have n2_ := Aside0.mk (KeepBut.trans (by repeat (first | (with_reducible first | exact HK.out | apply KeepBut.set_ | apply keep_drewN | apply keep_drew | apply keep_alloc) | exact HK.out)) (KeepBut.of_below hb g none) (.inl rfl)); have n3_ := Aside0.mk (below_step (by repeat (first | (with_reducible first | exact HB.out | apply below_alloc | apply pw_below_drewN | apply below_drew1 | refine below_set ?_ (IsS71.ge HI0.out)) | exact HB.out)) hb); clear HI0; clear HK; clear HB; have HO402 := n0_; have HI0 := n1_; have HK := n2_; have HB := n3_; clear n0_ n1_ n2_ n3_; clear hb ho41; obtain ⟨Ao42, co42, eo42⟩ := Kd.R_slice HO402.out; subst eo42) | ((with_reducible refine gate_callee (f := 70) rfl ?_); refine goesL_ (some 37) rfl rfl Try.func70 (by kernel_rfl) rfl #[.pointer (some ⟨g, 0, none⟩), .slice Ao42 y400.length co42] rfl (by (try simp only [List.map_toArray, List.map_cons, List.map_nil]); first | done | rfl) ?_; (with_reducible refine (spec_l1Rd_one.calls kj34 g s0_0 t379 _ _ y400 t403 t404 w0 _ ?side1 ?side2 ?side3 ?side4 ?side5 A39.out).mono ?_); (case side1 => repeat (first | (with_reducible first | exact HI0.out | apply IsS71.alloc | apply IsS71.drewN | apply IsS71.drew | apply IsS71.set_1) | exact HI0.out)); (case side2 => repeat (first | (with_reducible first | exact HB.out | apply below_alloc | apply pw_below_drewN | apply below_drew1 | refine below_set ?_ (IsS71.ge HI0.out)) | exact HB.out)); (case side3 => repeat (first | exact (Kd.R_reads' HO402.out).2.2 | (with_reducible refine Kd.C_alloc ?_ _) | (with_reducible refine Kd.C_drewN ?_ _) | (with_reducible refine Kd.C_drew ?_))); (case side4 => exact (Kd.R_reads' HO402.out).2.1); (case side5 => exact far_slice (IsS71.own_ne HI0.out HO402.out (by decide))); rintro e w43 ⟨rfl, hi, hb, hk⟩; refine ⟨_, rfl, ?_⟩; have n0_ := Aside0.mk (Kd.R_mono (Kd.R_keep (IsS71.apart (show IsS71 w0 _ g s0_0 t379 from by repeat (first | (with_reducible first | exact HI0.out | apply IsS71.alloc | apply IsS71.drewN | apply IsS71.drew | apply IsS71.set_1) | exact HI0.out)) (by (with_reducible repeat (first | apply Kd.R_alloc | apply Kd.R_drewN | apply Kd.R_drew)); exact HO402.out) (by decide)) hk (fun _ h => h.2)) (fun _ h => h.1)); have n1_ := Aside0.mk (KeepBut.trans (by repeat (first | (with_reducible first | exact HK.out | apply KeepBut.set_ | apply keep_drewN | apply keep_drew | apply keep_alloc) | exact HK.out)) hk (.inl rfl)); have n2_ := Aside0.mk (hb); have n3_ := Aside0.mk (hi); clear HO402; clear HK; clear HB; clear HI0; have HO402 := n0_; have HK := n1_; have HB := n2_; have HI0 := n3_; clear n0_ n1_ n2_ n3_; (try clear hb); (try clear hb2); (try clear hk); (try clear hi)))
             go_ret; exact ⟨by first | rfl | (simp [errW_none, errW_some] <;> rfl) | (simp [*, errW_none, errW_some] <;> rfl), by repeat (first | (with_reducible first | exact HI0.out | apply IsS71.alloc | apply IsS71.drewN | apply IsS71.drew | apply IsS71.set_1) | exact HI0.out), by repeat (first | (with_reducible first | exact HB.out | apply below_alloc | apply pw_below_drewN | apply below_drew1 | refine below_set ?_ (IsS71.ge HI0.out)) | exact HB.out), by repeat (first | (with_reducible first | exact HK.out | apply KeepBut.set_ | apply keep_drewN | apply keep_drew | apply keep_alloc) | exact HK.out)⟩
            ·
             rw [if_neg c38] at H; have c38b0 : (t378 == 11) = false := beq_eq_false_iff_ne.mpr c38; have c38b1 : (t378 != 11) = true := bne_iff_ne.mpr c38; by_cases c44 : t378 = 12
             ·
              rw [if_pos c44] at H; have c44b0 : (t378 == 12) = true := beq_iff_eq.mpr c44; have c44b1 : (t378 != 12) = false := bne_eq_false_iff_eq.mpr c44; clear c44; obtain ⟨y405, hy405⟩ : ∃ y_ : List Int, y_ = (([768, 879, 8203, 8205, 173, 9, 10, 13] : List Int)) := ⟨_, rfl⟩; replace H : ((spec_l1Rd_one.f kj34 s0_0 t379 y405).bind fun bt408 => (some (bt408.1, bt408.2))) = some (r1, r2) := by first | (rw [hy405]; with_reducible exact H) | (have H2_ := (Option.bind_some _ _).symm.trans H; rw [hy405]; with_reducible exact H2_) | (have H2_ := (Option.bind_some _ _).symm.trans H; with_reducible exact H2_) | with_reducible exact H | (rw [hy405]; exact H) | exact H
              have Ny405 := Aside0.mk hy405; clear hy405; replace H := Option.bind_eq_some_iff.mp H; obtain ⟨⟨t408, t409⟩, A450, H⟩ := H; replace H : (some (t408, t409)) = some (r1, r2) := H; have A45 := Aside0.mk A450; clear A450; simp only [Option.some.injEq, Prod.mk.injEq] at H; obtain ⟨rfl, rfl⟩ := H; go_wp2_with (first | ((with_reducible refine gate_dst (N := 41) rfl ?_); refine Kd.R_lit (Kd.int .i64) _ 3 ?hg (N := 41) ?hd (xs := ([768, 879, 8203, 8205, 173, 9, 10, 13] : List Int)) (inner := [.int .i64 768, .int .i64 879, .int .i64 8203, .int .i64 8205, .int .i64 173, .int .i64 9, .int .i64 10, .int .i64 13]) (ok := fun _ => True) (okp := fun _ => True) ?hr ?hp (fun _ hk => hk) trivial (Below.refl _ _) (Nat.le_refl _) (by simp) ?_; (case hd => rfl); (case hg => rfl); (case hr => first | (go_simp; done) | (go_simp; rfl)); (case hp => exact (Reps.one (show Kd.M (Kd.int .i64) _ _ _ 768 [.int .i64 768] from rfl) (Reps.one (show Kd.M (Kd.int .i64) _ _ _ 879 [.int .i64 879] from rfl) (Reps.one (show Kd.M (Kd.int .i64) _ _ _ 8203 [.int .i64 8203] from rfl) (Reps.one (show Kd.M (Kd.int .i64) _ _ _ 8205 [.int .i64 8205] from rfl) (Reps.one (show Kd.M (Kd.int .i64) _ _ _ 173 [.int .i64 173] from rfl) (Reps.one (show Kd.M (Kd.int .i64) _ _ _ 9 [.int .i64 9] from rfl) (Reps.one (show Kd.M (Kd.int .i64) _ _ _ 10 [.int .i64 10] from rfl) (Reps.one (show Kd.M (Kd.int .i64) _ _ _ 13 [.int .i64 13] from rfl) (Reps.none _ _)))))))))); intro v406 w46 ho47 hb hg_ hnew_; clear hg_ hnew_; (first | rw [← Ny405.out] at ho47 | (simp only [Int.reduceToNat] at ho47; rw [← Ny405.out] at ho47)); have n0_ := Aside0.mk (Kd.R_lower ho47 (keep_size (w := w) (g := g) (row := none) (by repeat (first | (with_reducible first | exact HK.out | apply KeepBut.set_ | apply keep_drewN | apply keep_drew | apply keep_alloc) | exact HK.out)))); have n1_ := Aside0.mk (IsS71.below (by repeat (first | (with_reducible first | exact HI0.out | apply IsS71.alloc | apply IsS71.drewN | apply IsS71.drew | apply IsS71.set_1) | exact HI0.out)) hb); have n2_ := Aside0.mk (KeepBut.trans (by repeat (first | (with_reducible first | exact HK.out | apply KeepBut.set_ | apply keep_drewN | apply keep_drew | apply keep_alloc) | exact HK.out)) (KeepBut.of_below hb g none) (.inl rfl)); have n3_ := Aside0.mk (below_step (by repeat (first | (with_reducible first | exact HB.out | apply below_alloc | apply pw_below_drewN | apply below_drew1 | refine below_set ?_ (IsS71.ge HI0.out)) | exact HB.out)) hb); clear HI0; clear HK; clear HB; have HO407 := n0_; have HI0 := n1_; have HK := n2_; have HB := n3_; clear n0_ n1_ n2_ n3_; clear hb ho47; obtain ⟨Ao48, co48, eo48⟩ := Kd.R_slice HO407.out; subst eo48) | ((with_reducible refine gate_callee (f := 70) rfl ?_); refine goesL_ (some 42) rfl rfl Try.func70 (by kernel_rfl) rfl #[.pointer (some ⟨g, 0, none⟩), .slice Ao48 y405.length co48] rfl (by (try simp only [List.map_toArray, List.map_cons, List.map_nil]); first | done | rfl) ?_; (with_reducible refine (spec_l1Rd_one.calls kj34 g s0_0 t379 _ _ y405 t408 t409 w0 _ ?side1 ?side2 ?side3 ?side4 ?side5 A45.out).mono ?_); (case side1 => repeat (first | (with_reducible first | exact HI0.out | apply IsS71.alloc | apply IsS71.drewN | apply IsS71.drew | apply IsS71.set_1) | exact HI0.out)); (case side2 => repeat (first | (with_reducible first | exact HB.out | apply below_alloc | apply pw_below_drewN | apply below_drew1 | refine below_set ?_ (IsS71.ge HI0.out)) | exact HB.out)); (case side3 => repeat (first | exact (Kd.R_reads' HO407.out).2.2 | (with_reducible refine Kd.C_alloc ?_ _) | (with_reducible refine Kd.C_drewN ?_ _) | (with_reducible refine Kd.C_drew ?_))); (case side4 => exact (Kd.R_reads' HO407.out).2.1); (case side5 => exact far_slice (IsS71.own_ne HI0.out HO407.out (by decide))); rintro e w49 ⟨rfl, hi, hb, hk⟩; refine ⟨_, rfl, ?_⟩; have n0_ := Aside0.mk (Kd.R_mono (Kd.R_keep (IsS71.apart (show IsS71 w0 _ g s0_0 t379 from by repeat (first | (with_reducible first | exact HI0.out | apply IsS71.alloc | apply IsS71.drewN | apply IsS71.drew | apply IsS71.set_1) | exact HI0.out)) (by (with_reducible repeat (first | apply Kd.R_alloc | apply Kd.R_drewN | apply Kd.R_drew)); exact HO407.out) (by decide)) hk (fun _ h => h.2)) (fun _ h => h.1)); have n1_ := Aside0.mk (KeepBut.trans (by repeat (first | (with_reducible first | exact HK.out | apply KeepBut.set_ | apply keep_drewN | apply keep_drew | apply keep_alloc) | exact HK.out)) hk (.inl rfl)); have n2_ := Aside0.mk (hb); have n3_ := Aside0.mk (hi); clear HO407; clear HK; clear HB; clear HI0; have HO407 := n0_; have HK := n1_; have HB := n2_; have HI0 := n3_; clear n0_ n1_ n2_ n3_; (try clear hb); (try clear hb2); (try clear hk); (try clear hi)))
              go_ret; exact ⟨by first | rfl | (simp [errW_none, errW_some] <;> rfl) | (simp [*, errW_none, errW_some] <;> rfl), by repeat (first | (with_reducible first | exact HI0.out | apply IsS71.alloc | apply IsS71.drewN | apply IsS71.drew | apply IsS71.set_1) | exact HI0.out), by repeat (first | (with_reducible first | exact HB.out | apply below_alloc | apply pw_below_drewN | apply below_drew1 | refine below_set ?_ (IsS71.ge HI0.out)) | exact HB.out), by repeat (first | (with_reducible first | exact HK.out | apply KeepBut.set_ | apply keep_drewN | apply keep_drew | apply keep_alloc) | exact HK.out)⟩
             ·
              rw [if_neg c44] at H; have c44b0 : (t378 == 12) = false := beq_eq_false_iff_ne.mpr c44; have c44b1 : (t378 != 12) = true := bne_iff_ne.mpr c44; by_cases c50 : t378 = 13
              ·
               rw [if_pos c50] at H; have c50b0 : (t378 == 13) = true := beq_iff_eq.mpr c50; have c50b1 : (t378 != 13) = false := bne_eq_false_iff_eq.mpr c50; clear c50; obtain ⟨y410, hy410⟩ : ∃ y_ : List Int, y_ = (([8234, 8235, 8236, 8237, 8238] : List Int)) := ⟨_, rfl⟩; replace H : ((spec_l1Rd_one.f kj34 s0_0 t379 y410).bind fun bt413 => (some (bt413.1, bt413.2))) = some (r1, r2) := by first | (rw [hy410]; with_reducible exact H) | (have H2_ := (Option.bind_some _ _).symm.trans H; rw [hy410]; with_reducible exact H2_) | (have H2_ := (Option.bind_some _ _).symm.trans H; with_reducible exact H2_) | with_reducible exact H | (rw [hy410]; exact H) | exact H
               have Ny410 := Aside0.mk hy410; clear hy410; replace H := Option.bind_eq_some_iff.mp H; obtain ⟨⟨t413, t414⟩, A510, H⟩ := H; replace H : (some (t413, t414)) = some (r1, r2) := H; have A51 := Aside0.mk A510; clear A510; simp only [Option.some.injEq, Prod.mk.injEq] at H; obtain ⟨rfl, rfl⟩ := H; go_wp2_with (first | ((with_reducible refine gate_dst (N := 46) rfl ?_); refine Kd.R_lit (Kd.int .i64) _ 3 ?hg (N := 46) ?hd (xs := ([8234, 8235, 8236, 8237, 8238] : List Int)) (inner := [.int .i64 8234, .int .i64 8235, .int .i64 8236, .int .i64 8237, .int .i64 8238]) (ok := fun _ => True) (okp := fun _ => True) ?hr ?hp (fun _ hk => hk) trivial (Below.refl _ _) (Nat.le_refl _) (by simp) ?_; (case hd => rfl); (case hg => rfl); (case hr => first | (go_simp; done) | (go_simp; rfl)); (case hp => exact (Reps.one (show Kd.M (Kd.int .i64) _ _ _ 8234 [.int .i64 8234] from rfl) (Reps.one (show Kd.M (Kd.int .i64) _ _ _ 8235 [.int .i64 8235] from rfl) (Reps.one (show Kd.M (Kd.int .i64) _ _ _ 8236 [.int .i64 8236] from rfl) (Reps.one (show Kd.M (Kd.int .i64) _ _ _ 8237 [.int .i64 8237] from rfl) (Reps.one (show Kd.M (Kd.int .i64) _ _ _ 8238 [.int .i64 8238] from rfl) (Reps.none _ _))))))); intro v411 w52 ho53 hb hg_ hnew_; clear hg_ hnew_; (first | rw [← Ny410.out] at ho53 | (simp only [Int.reduceToNat] at ho53; rw [← Ny410.out] at ho53)); have n0_ := Aside0.mk (Kd.R_lower ho53 (keep_size (w := w) (g := g) (row := none) (by repeat (first | (with_reducible first | exact HK.out | apply KeepBut.set_ | apply keep_drewN | apply keep_drew | apply keep_alloc) | exact HK.out)))); have n1_ := Aside0.mk (IsS71.below (by repeat (first | (with_reducible first | exact HI0.out | apply IsS71.alloc | apply IsS71.drewN | apply IsS71.drew | apply IsS71.set_1) | exact HI0.out)) hb); have n2_ := Aside0.mk (KeepBut.trans (by repeat (first | (with_reducible first | exact HK.out | apply KeepBut.set_ | apply keep_drewN | apply keep_drew | apply keep_alloc) | exact HK.out)) (KeepBut.of_below hb g none) (.inl rfl)); have n3_ := Aside0.mk (below_step (by repeat (first | (with_reducible first | exact HB.out | apply below_alloc | apply pw_below_drewN | apply below_drew1 | refine below_set ?_ (IsS71.ge HI0.out)) | exact HB.out)) hb); clear HI0; clear HK; clear HB; have HO412 := n0_; have HI0 := n1_; have HK := n2_; have HB := n3_; clear n0_ n1_ n2_ n3_; clear hb ho53; obtain ⟨Ao54, co54, eo54⟩ := Kd.R_slice HO412.out; subst eo54) | ((with_reducible refine gate_callee (f := 70) rfl ?_); refine goesL_ (some 47) rfl rfl Try.func70 (by kernel_rfl) rfl #[.pointer (some ⟨g, 0, none⟩), .slice Ao54 y410.length co54] rfl (by (try simp only [List.map_toArray, List.map_cons, List.map_nil]); first | done | rfl) ?_; (with_reducible refine (spec_l1Rd_one.calls kj34 g s0_0 t379 _ _ y410 t413 t414 w0 _ ?side1 ?side2 ?side3 ?side4 ?side5 A51.out).mono ?_); (case side1 => repeat (first | (with_reducible first | exact HI0.out | apply IsS71.alloc | apply IsS71.drewN | apply IsS71.drew | apply IsS71.set_1) | exact HI0.out)); (case side2 => repeat (first | (with_reducible first | exact HB.out | apply below_alloc | apply pw_below_drewN | apply below_drew1 | refine below_set ?_ (IsS71.ge HI0.out)) | exact HB.out)); (case side3 => repeat (first | exact (Kd.R_reads' HO412.out).2.2 | (with_reducible refine Kd.C_alloc ?_ _) | (with_reducible refine Kd.C_drewN ?_ _) | (with_reducible refine Kd.C_drew ?_))); (case side4 => exact (Kd.R_reads' HO412.out).2.1); (case side5 => exact far_slice (IsS71.own_ne HI0.out HO412.out (by decide))); rintro e w55 ⟨rfl, hi, hb, hk⟩; refine ⟨_, rfl, ?_⟩; have n0_ := Aside0.mk (Kd.R_mono (Kd.R_keep (IsS71.apart (show IsS71 w0 _ g s0_0 t379 from by repeat (first | (with_reducible first | exact HI0.out | apply IsS71.alloc | apply IsS71.drewN | apply IsS71.drew | apply IsS71.set_1) | exact HI0.out)) (by (with_reducible repeat (first | apply Kd.R_alloc | apply Kd.R_drewN | apply Kd.R_drew)); exact HO412.out) (by decide)) hk (fun _ h => h.2)) (fun _ h => h.1)); have n1_ := Aside0.mk (KeepBut.trans (by repeat (first | (with_reducible first | exact HK.out | apply KeepBut.set_ | apply keep_drewN | apply keep_drew | apply keep_alloc) | exact HK.out)) hk (.inl rfl)); have n2_ := Aside0.mk (hb); have n3_ := Aside0.mk (hi); clear HO412; clear HK; clear HB; clear HI0; have HO412 := n0_; have HK := n1_; have HB := n2_; have HI0 := n3_; clear n0_ n1_ n2_ n3_; (try clear hb); (try clear hb2); (try clear hk); (try clear hi)))
               go_ret; exact ⟨by first | rfl | (simp [errW_none, errW_some] <;> rfl) | (simp [*, errW_none, errW_some] <;> rfl), by repeat (first | (with_reducible first | exact HI0.out | apply IsS71.alloc | apply IsS71.drewN | apply IsS71.drew | apply IsS71.set_1) | exact HI0.out), by repeat (first | (with_reducible first | exact HB.out | apply below_alloc | apply pw_below_drewN | apply below_drew1 | refine below_set ?_ (IsS71.ge HI0.out)) | exact HB.out), by repeat (first | (with_reducible first | exact HK.out | apply KeepBut.set_ | apply keep_drewN | apply keep_drew | apply keep_alloc) | exact HK.out)⟩
              ·
               rw [if_neg c50] at H; have c50b0 : (t378 == 13) = false := beq_eq_false_iff_ne.mpr c50; have c50b1 : (t378 != 13) = true := bne_iff_ne.mpr c50; by_cases c56 : t378 = 14
               ·
                rw [if_pos c56] at H; have c56b0 : (t378 == 14) = true := beq_iff_eq.mpr c56; have c56b1 : (t378 != 14) = false := bne_eq_false_iff_eq.mpr c56; clear c56; obtain ⟨y415, hy415⟩ : ∃ y_ : List Int, y_ = (([8294, 8295, 8296, 8297, 8297] : List Int)) := ⟨_, rfl⟩; replace H : ((spec_l1Rd_one.f kj34 s0_0 t379 y415).bind fun bt418 => (some (bt418.1, bt418.2))) = some (r1, r2) := by first | (rw [hy415]; with_reducible exact H) | (have H2_ := (Option.bind_some _ _).symm.trans H; rw [hy415]; with_reducible exact H2_) | (have H2_ := (Option.bind_some _ _).symm.trans H; with_reducible exact H2_) | with_reducible exact H | (rw [hy415]; exact H) | exact H
                have Ny415 := Aside0.mk hy415; clear hy415; replace H := Option.bind_eq_some_iff.mp H; obtain ⟨⟨t418, t419⟩, A570, H⟩ := H; replace H : (some (t418, t419)) = some (r1, r2) := H; have A57 := Aside0.mk A570; clear A570; simp only [Option.some.injEq, Prod.mk.injEq] at H; obtain ⟨rfl, rfl⟩ := H; go_wp2_with (first | ((with_reducible refine gate_dst (N := 51) rfl ?_); refine Kd.R_lit (Kd.int .i64) _ 3 ?hg (N := 51) ?hd (xs := ([8294, 8295, 8296, 8297, 8297] : List Int)) (inner := [.int .i64 8294, .int .i64 8295, .int .i64 8296, .int .i64 8297, .int .i64 8297]) (ok := fun _ => True) (okp := fun _ => True) ?hr ?hp (fun _ hk => hk) trivial (Below.refl _ _) (Nat.le_refl _) (by simp) ?_; (case hd => rfl); (case hg => rfl); (case hr => first | (go_simp; done) | (go_simp; rfl)); (case hp => exact (Reps.one (show Kd.M (Kd.int .i64) _ _ _ 8294 [.int .i64 8294] from rfl) (Reps.one (show Kd.M (Kd.int .i64) _ _ _ 8295 [.int .i64 8295] from rfl) (Reps.one (show Kd.M (Kd.int .i64) _ _ _ 8296 [.int .i64 8296] from rfl) (Reps.one (show Kd.M (Kd.int .i64) _ _ _ 8297 [.int .i64 8297] from rfl) (Reps.one (show Kd.M (Kd.int .i64) _ _ _ 8297 [.int .i64 8297] from rfl) (Reps.none _ _))))))); intro v416 w58 ho59 hb hg_ hnew_; clear hg_ hnew_; (first | rw [← Ny415.out] at ho59 | (simp only [Int.reduceToNat] at ho59; rw [← Ny415.out] at ho59)); have n0_ := Aside0.mk (Kd.R_lower ho59 (keep_size (w := w) (g := g) (row := none) (by repeat (first | (with_reducible first | exact HK.out | apply KeepBut.set_ | apply keep_drewN | apply keep_drew | apply keep_alloc) | exact HK.out)))); have n1_ := Aside0.mk (IsS71.below (by repeat (first | (with_reducible first | exact HI0.out | apply IsS71.alloc | apply IsS71.drewN | apply IsS71.drew | apply IsS71.set_1) | exact HI0.out)) hb); have n2_ := Aside0.mk (KeepBut.trans (by repeat (first | (with_reducible first | exact HK.out | apply KeepBut.set_ | apply keep_drewN | apply keep_drew | apply keep_alloc) | exact HK.out)) (KeepBut.of_below hb g none) (.inl rfl)); have n3_ := Aside0.mk (below_step (by repeat (first | (with_reducible first | exact HB.out | apply below_alloc | apply pw_below_drewN | apply below_drew1 | refine below_set ?_ (IsS71.ge HI0.out)) | exact HB.out)) hb); clear HI0; clear HK; clear HB; have HO417 := n0_; have HI0 := n1_; have HK := n2_; have HB := n3_; clear n0_ n1_ n2_ n3_; clear hb ho59; obtain ⟨Ao60, co60, eo60⟩ := Kd.R_slice HO417.out; subst eo60) | ((with_reducible refine gate_callee (f := 70) rfl ?_); refine goesL_ (some 52) rfl rfl Try.func70 (by kernel_rfl) rfl #[.pointer (some ⟨g, 0, none⟩), .slice Ao60 y415.length co60] rfl (by (try simp only [List.map_toArray, List.map_cons, List.map_nil]); first | done | rfl) ?_; (with_reducible refine (spec_l1Rd_one.calls kj34 g s0_0 t379 _ _ y415 t418 t419 w0 _ ?side1 ?side2 ?side3 ?side4 ?side5 A57.out).mono ?_); (case side1 => repeat (first | (with_reducible first | exact HI0.out | apply IsS71.alloc | apply IsS71.drewN | apply IsS71.drew | apply IsS71.set_1) | exact HI0.out)); (case side2 => repeat (first | (with_reducible first | exact HB.out | apply below_alloc | apply pw_below_drewN | apply below_drew1 | refine below_set ?_ (IsS71.ge HI0.out)) | exact HB.out)); (case side3 => repeat (first | exact (Kd.R_reads' HO417.out).2.2 | (with_reducible refine Kd.C_alloc ?_ _) | (with_reducible refine Kd.C_drewN ?_ _) | (with_reducible refine Kd.C_drew ?_))); (case side4 => exact (Kd.R_reads' HO417.out).2.1); (case side5 => exact far_slice (IsS71.own_ne HI0.out HO417.out (by decide))); rintro e w61 ⟨rfl, hi, hb, hk⟩; refine ⟨_, rfl, ?_⟩; have n0_ := Aside0.mk (Kd.R_mono (Kd.R_keep (IsS71.apart (show IsS71 w0 _ g s0_0 t379 from by repeat (first | (with_reducible first | exact HI0.out | apply IsS71.alloc | apply IsS71.drewN | apply IsS71.drew | apply IsS71.set_1) | exact HI0.out)) (by (with_reducible repeat (first | apply Kd.R_alloc | apply Kd.R_drewN | apply Kd.R_drew)); exact HO417.out) (by decide)) hk (fun _ h => h.2)) (fun _ h => h.1)); have n1_ := Aside0.mk (KeepBut.trans (by repeat (first | (with_reducible first | exact HK.out | apply KeepBut.set_ | apply keep_drewN | apply keep_drew | apply keep_alloc) | exact HK.out)) hk (.inl rfl)); have n2_ := Aside0.mk (hb); have n3_ := Aside0.mk (hi); clear HO417; clear HK; clear HB; clear HI0; have HO417 := n0_; have HK := n1_; have HB := n2_; have HI0 := n3_; clear n0_ n1_ n2_ n3_; (try clear hb); (try clear hb2); (try clear hk); (try clear hi)))
                go_ret; exact ⟨by first | rfl | (simp [errW_none, errW_some] <;> rfl) | (simp [*, errW_none, errW_some] <;> rfl), by repeat (first | (with_reducible first | exact HI0.out | apply IsS71.alloc | apply IsS71.drewN | apply IsS71.drew | apply IsS71.set_1) | exact HI0.out), by repeat (first | (with_reducible first | exact HB.out | apply below_alloc | apply pw_below_drewN | apply below_drew1 | refine below_set ?_ (IsS71.ge HI0.out)) | exact HB.out), by repeat (first | (with_reducible first | exact HK.out | apply KeepBut.set_ | apply keep_drewN | apply keep_drew | apply keep_alloc) | exact HK.out)⟩
               ·
                rw [if_neg c56] at H; have c56b0 : (t378 == 14) = false := beq_eq_false_iff_ne.mpr c56; have c56b1 : (t378 != 14) = true := bne_iff_ne.mpr c56; obtain ⟨y420, hy420⟩ : ∃ y_ : List Int, y_ = (([19968, 40959, 127462, 127487, 128512, 200, 40, 41] : List Int)) := ⟨_, rfl⟩; replace H : ((spec_l1Rd_one.f kj34 s0_0 t379 y420).bind fun bt423 => (some (bt423.1, bt423.2))) = some (r1, r2) := by first | (rw [hy420]; with_reducible exact H) | (have H2_ := (Option.bind_some _ _).symm.trans H; rw [hy420]; with_reducible exact H2_) | (have H2_ := (Option.bind_some _ _).symm.trans H; with_reducible exact H2_) | with_reducible exact H | (rw [hy420]; exact H) | exact H
                have Ny420 := Aside0.mk hy420; clear hy420; replace H := Option.bind_eq_some_iff.mp H; obtain ⟨⟨t423, t424⟩, A620, H⟩ := H; replace H : (some (t423, t424)) = some (r1, r2) := H; have A62 := Aside0.mk A620; clear A620; simp only [Option.some.injEq, Prod.mk.injEq] at H; obtain ⟨rfl, rfl⟩ := H; go_wp2_with (first | ((with_reducible refine gate_dst (N := 54) rfl ?_); refine Kd.R_lit (Kd.int .i64) _ 3 ?hg (N := 54) ?hd (xs := ([19968, 40959, 127462, 127487, 128512, 200, 40, 41] : List Int)) (inner := [.int .i64 19968, .int .i64 40959, .int .i64 127462, .int .i64 127487, .int .i64 128512, .int .i64 200, .int .i64 40, .int .i64 41]) (ok := fun _ => True) (okp := fun _ => True) ?hr ?hp (fun _ hk => hk) trivial (Below.refl _ _) (Nat.le_refl _) (by simp) ?_; (case hd => rfl); (case hg => rfl); (case hr => first | (go_simp; done) | (go_simp; rfl)); (case hp => exact (Reps.one (show Kd.M (Kd.int .i64) _ _ _ 19968 [.int .i64 19968] from rfl) (Reps.one (show Kd.M (Kd.int .i64) _ _ _ 40959 [.int .i64 40959] from rfl) (Reps.one (show Kd.M (Kd.int .i64) _ _ _ 127462 [.int .i64 127462] from rfl) (Reps.one (show Kd.M (Kd.int .i64) _ _ _ 127487 [.int .i64 127487] from rfl) (Reps.one (show Kd.M (Kd.int .i64) _ _ _ 128512 [.int .i64 128512] from rfl) (Reps.one (show Kd.M (Kd.int .i64) _ _ _ 200 [.int .i64 200] from rfl) (Reps.one (show Kd.M (Kd.int .i64) _ _ _ 40 [.int .i64 40] from rfl) (Reps.one (show Kd.M (Kd.int .i64) _ _ _ 41 [.int .i64 41] from rfl) (Reps.none _ _)))))))))); intro v421 w63 ho64 hb hg_ hnew_; clear hg_ hnew_; (first | rw [← Ny420.out] at ho64 | (simp only [Int.reduceToNat] at ho64; rw [← Ny420.out] at ho64)); have n0_ := Aside0.mk (Kd.R_lower ho64 (keep_size (w := w) (g := g) (row := none) (by repeat (first | (with_reducible first | exact HK.out | apply KeepBut.set_ | apply keep_drewN | apply keep_drew | apply keep_alloc) | exact HK.out)))); have n1_ := Aside0.mk (IsS71.below (by repeat (first | (with_reducible first | exact HI0.out | apply IsS71.alloc | apply IsS71.drewN | apply IsS71.drew | apply IsS71.set_1) | exact HI0.out)) hb); have n2_ := Aside0.mk (KeepBut.trans (by repeat (first | (with_reducible first | exact HK.out | apply KeepBut.set_ | apply keep_drewN | apply keep_drew | apply keep_alloc) | exact HK.out)) (KeepBut.of_below hb g none) (.inl rfl)); have n3_ := Aside0.mk (below_step (by repeat (first | (with_reducible first | exact HB.out | apply below_alloc | apply pw_below_drewN | apply below_drew1 | refine below_set ?_ (IsS71.ge HI0.out)) | exact HB.out)) hb); clear HI0; clear HK; clear HB; have HO422 := n0_; have HI0 := n1_; have HK := n2_; have HB := n3_; clear n0_ n1_ n2_ n3_; clear hb ho64; obtain ⟨Ao65, co65, eo65⟩ := Kd.R_slice HO422.out; subst eo65) | ((with_reducible refine gate_callee (f := 70) rfl ?_); refine goesL_ (some 55) rfl rfl Try.func70 (by kernel_rfl) rfl #[.pointer (some ⟨g, 0, none⟩), .slice Ao65 y420.length co65] rfl (by (try simp only [List.map_toArray, List.map_cons, List.map_nil]); first | done | rfl) ?_; (with_reducible refine (spec_l1Rd_one.calls kj34 g s0_0 t379 _ _ y420 t423 t424 w0 _ ?side1 ?side2 ?side3 ?side4 ?side5 A62.out).mono ?_); (case side1 => repeat (first | (with_reducible first | exact HI0.out | apply IsS71.alloc | apply IsS71.drewN | apply IsS71.drew | apply IsS71.set_1) | exact HI0.out)); (case side2 => repeat (first | (with_reducible first | exact HB.out | apply below_alloc | apply pw_below_drewN | apply below_drew1 | refine below_set ?_ (IsS71.ge HI0.out)) | exact HB.out)); (case side3 => repeat (first | exact (Kd.R_reads' HO422.out).2.2 | (with_reducible refine Kd.C_alloc ?_ _) | (with_reducible refine Kd.C_drewN ?_ _) | (with_reducible refine Kd.C_drew ?_))); (case side4 => exact (Kd.R_reads' HO422.out).2.1); (case side5 => exact far_slice (IsS71.own_ne HI0.out HO422.out (by decide))); rintro e w66 ⟨rfl, hi, hb, hk⟩; refine ⟨_, rfl, ?_⟩; have n0_ := Aside0.mk (Kd.R_mono (Kd.R_keep (IsS71.apart (show IsS71 w0 _ g s0_0 t379 from by repeat (first | (with_reducible first | exact HI0.out | apply IsS71.alloc | apply IsS71.drewN | apply IsS71.drew | apply IsS71.set_1) | exact HI0.out)) (by (with_reducible repeat (first | apply Kd.R_alloc | apply Kd.R_drewN | apply Kd.R_drew)); exact HO422.out) (by decide)) hk (fun _ h => h.2)) (fun _ h => h.1)); have n1_ := Aside0.mk (KeepBut.trans (by repeat (first | (with_reducible first | exact HK.out | apply KeepBut.set_ | apply keep_drewN | apply keep_drew | apply keep_alloc) | exact HK.out)) hk (.inl rfl)); have n2_ := Aside0.mk (hb); have n3_ := Aside0.mk (hi); clear HO422; clear HK; clear HB; clear HI0; have HO422 := n0_; have HK := n1_; have HB := n2_; have HI0 := n3_; clear n0_ n1_ n2_ n3_; (try clear hb); (try clear hb2); (try clear hk); (try clear hi)))
                go_ret; exact ⟨by first | rfl | (simp [errW_none, errW_some] <;> rfl) | (simp [*, errW_none, errW_some] <;> rfl), by repeat (first | (with_reducible first | exact HI0.out | apply IsS71.alloc | apply IsS71.drewN | apply IsS71.drew | apply IsS71.set_1) | exact HI0.out), by repeat (first | (with_reducible first | exact HB.out | apply below_alloc | apply pw_below_drewN | apply below_drew1 | refine below_set ?_ (IsS71.ge HI0.out)) | exact HB.out), by repeat (first | (with_reducible first | exact HK.out | apply KeepBut.set_ | apply keep_drewN | apply keep_drew | apply keep_alloc) | exact HK.out)⟩
end Go.Proofs.Ytojehfdioeglgaa.S
namespace Go.Proofs.Ytojehfdioeglgaa.S
open Go.RowKit Go.Proofs.YtojehfdioeglgaaW.PrintWords Go.Proofs.YtojehfdioeglgaaW.PrintLast Go.Proofs.YtojehfdioeglgaaW.PrintMore
attribute [local go_sem] max2_int min2_int max_two min_two max_three min_three max_four min_four   -- for this text's walks alone
set_option linter.unusedVariables false
set_option linter.unusedSimpArgs false
mutual
def spec_l13Runes.l0 : Nat → List Int → Int → List Int → Int → Option (List Int × Int)
  | 0, _, _, _, _ => none
  | k + 1, x3, x4, x1000, x1001 => if x4 > 0 then ((spec_l13Rune.f k x1000 x1001).bind fun bt430 => (if x3.length < 17592186044416 then (spec_l13Runes.l0 k (x3 ++ [bt430.1]) (wrap64 (x4 - 1)) x1000 bt430.2) else (none))) else ((spec_l1Rd_pick.f k x1000 x1001 24).bind fun bt435 => (if bt435.1 = 0 then (spec_l13Runes.l1 k x3 x1000 bt435.2) else (some (x3, bt435.2))))
def spec_l13Runes.l1 : Nat → List Int → List Int → Int → Option (List Int × Int)
  | 0, _, _, _ => none
  | k + 1, x3, x1000, x1001 => if (x3.length : Int) < 80 then ((spec_l1Rd_one.f k x1000 x1001 (([8235, 8238, 8295, 1488, 97] : List Int))).bind fun bt440 => (if x3.length < 17592186044416 then (spec_l13Runes.l1 k (x3 ++ [bt440.1]) x1000 bt440.2) else (none))) else (some (x3, x1001))
end
def spec_l13Runes.f (k : Nat) (s0_0 : List Int) (s0_1 : Int) : Option (List Int × Int) := (spec_l1Rd_pick.f k s0_0 s0_1 24).bind fun bt428 => (spec_l13Runes.l0 k (([] : List Int)) bt428.1 s0_0 bt428.2)
theorem spec_l13Runes.mono_l : ∀ k, (∀ y0 y1 y2 y3, LeO (spec_l13Runes.l0 k y0 y1 y2 y3) (spec_l13Runes.l0 (k + 1) y0 y1 y2 y3)) ∧ (∀ y0 y1 y2, LeO (spec_l13Runes.l1 k y0 y1 y2) (spec_l13Runes.l1 (k + 1) y0 y1 y2))
  | 0 => ⟨fun _ _ _ _ r h => by simp [spec_l13Runes.l0] at h, fun _ _ _ r h => by simp [spec_l13Runes.l1] at h⟩
  | k + 1 => by
    obtain ⟨ih0, ih1⟩ := spec_l13Runes.mono_l k
    refine ⟨?_, ?_⟩
    · intro y0 y1 y2 y3
      unfold spec_l13Runes.l0
      repeat' first
      | (with_reducible exact ih0 _ _ _ _)
      | (with_reducible exact ih1 _ _ _)
      | (with_reducible exact spec_l13Rune.mono _ _ _)
      | (with_reducible exact spec_l1Rd_one.mono _ _ _ _)
      | (with_reducible exact spec_l1Rd_pick.mono _ _ _ _)
      | (with_reducible exact LeO.refl _)
      | (with_reducible exact LeO.none _)
      | (with_reducible refine LeO.ite ?_ ?_)
      | (with_reducible refine LeO.bind ?_ (fun _ => ?_))
      | exact ih0 _ _ _ _
      | exact ih1 _ _ _
      | exact spec_l13Rune.mono _ _ _
      | exact spec_l1Rd_one.mono _ _ _ _
      | exact spec_l1Rd_pick.mono _ _ _ _
      | exact LeO.none _
      | refine LeO.ite ?_ ?_
      | refine LeO.bind ?_ (fun _ => ?_)
    · intro y0 y1 y2
      unfold spec_l13Runes.l1
      repeat' first
      | (with_reducible exact ih0 _ _ _ _)
      | (with_reducible exact ih1 _ _ _)
      | (with_reducible exact spec_l13Rune.mono _ _ _)
      | (with_reducible exact spec_l1Rd_one.mono _ _ _ _)
      | (with_reducible exact spec_l1Rd_pick.mono _ _ _ _)
      | (with_reducible exact LeO.refl _)
      | (with_reducible exact LeO.none _)
      | (with_reducible refine LeO.ite ?_ ?_)
      | (with_reducible refine LeO.bind ?_ (fun _ => ?_))
      | exact ih0 _ _ _ _
      | exact ih1 _ _ _
      | exact spec_l13Rune.mono _ _ _
      | exact spec_l1Rd_one.mono _ _ _ _
      | exact spec_l1Rd_pick.mono _ _ _ _
      | exact LeO.none _
      | refine LeO.ite ?_ ?_
      | refine LeO.bind ?_ (fun _ => ?_)
theorem spec_l13Runes.mono : ∀ a0 a1 k, LeO (spec_l13Runes.f k a0 a1) (spec_l13Runes.f (k + 1) a0 a1) := by
  intro a0 a1 k
  obtain ⟨ih0, ih1⟩ := spec_l13Runes.mono_l k
  unfold spec_l13Runes.f
  repeat' first
      | (with_reducible exact ih0 _ _ _ _)
      | (with_reducible exact ih1 _ _ _)
      | (with_reducible exact spec_l13Rune.mono _ _ _)
      | (with_reducible exact spec_l1Rd_one.mono _ _ _ _)
      | (with_reducible exact spec_l1Rd_pick.mono _ _ _ _)
      | (with_reducible exact LeO.refl _)
      | (with_reducible exact LeO.none _)
      | (with_reducible refine LeO.ite ?_ ?_)
      | (with_reducible refine LeO.bind ?_ (fun _ => ?_))
      | exact ih0 _ _ _ _
      | exact ih1 _ _ _
      | exact spec_l13Rune.mono _ _ _
      | exact spec_l1Rd_one.mono _ _ _ _
      | exact spec_l1Rd_pick.mono _ _ _ _
      | exact LeO.none _
      | refine LeO.ite ?_ ?_
      | refine LeO.bind ?_ (fun _ => ?_)
set_option maxHeartbeats 8000000 in
set_option maxRecDepth 100000 in
theorem spec_l13Runes.calls (k : Nat) (g : Nat) (s0_0 : List Int) (s0_1 : Int) (r1 : List Int) (r2 : Int) (w0 w : World) (hI : IsS71 w0 w g s0_0 s0_1) (hB : Below w0.heap.size w0 w) (h : spec_l13Runes.f k s0_0 s0_1 = some (r1, r2)) :
    Calls Try.prog 79 #[.pointer (some ⟨g, 0, none⟩)] w fun e w' => ∃ v0_ : Value, e = .returned (v0_) ∧ Kd.R (Kd.int .i64) 3 w' w.heap.size (fun _ => True) v0_ r1 ∧ IsS71 w0 w' g s0_0 r2 ∧ Below w0.heap.size w0 w' ∧ KeepBut w w' g none := by
  have HI0 := Aside0.mk hI
  have HK := Aside0.mk (KeepBut.refl w g none)
  have HL := Aside0.mk hB.size
  clear hI
  have HW0 := Aside0.mk hB.size
  have HB := Aside0.mk hB
  clear hB
  have H : ((spec_l1Rd_pick.f k s0_0 s0_1 24).bind fun bt428 => (spec_l13Runes.l0 k (([] : List Int)) bt428.1 s0_0 bt428.2)) = some (r1, r2) := h
  clear h
  obtain ⟨y425, hy425⟩ : ∃ y_ : List Int, y_ = (([] : List Int)) := ⟨_, rfl⟩
  replace H : ((spec_l1Rd_pick.f k s0_0 s0_1 24).bind fun bt428 => (spec_l13Runes.l0 k y425 bt428.1 s0_0 bt428.2)) = some (r1, r2) := by first | (rw [hy425]; with_reducible exact H) | (have H2_ := (Option.bind_some _ _).symm.trans H; rw [hy425]; with_reducible exact H2_) | (have H2_ := (Option.bind_some _ _).symm.trans H; with_reducible exact H2_) | with_reducible exact H | (rw [hy425]; exact H) | exact H
  have Ny425 := Aside0.mk hy425
  clear hy425
  replace H := Option.bind_eq_some_iff.mp H
  obtain ⟨⟨t428, t429⟩, A20, H⟩ := H
  replace H : (spec_l13Runes.l0 k y425 t428 s0_0 t429) = some (r1, r2) := H
  have A2 := Aside0.mk A20
  clear A20
  have H' := Aside0.mk H
  clear H
  go_enter Try.func79, Try.ntmps79
  go_wp2_with (first | ((with_reducible refine gate_dst (N := 5) rfl ?_); refine Kd.R_lit (Kd.int .i64) _ 3 ?hg (N := 5) ?hd (xs := ([] : List Int)) (inner := []) (ok := fun _ => True) (okp := fun _ => True) ?hr ?hp (fun _ hk => hk) trivial (Below.refl _ _) (Nat.le_refl _) (by simp) ?_; (case hd => rfl); (case hg => rfl); (case hr => first | (go_simp; done) | (go_simp; rfl)); (case hp => exact (Reps.none _ _)); intro v426 w3 ho4 hb hg_ hnew_; clear hg_ hnew_; (first | rw [← Ny425.out] at ho4 | (simp only [Int.reduceToNat] at ho4; rw [← Ny425.out] at ho4)); have n0_ := Aside0.mk (Kd.R_lower ho4 (keep_size (w := w) (g := g) (row := none) (by repeat (first | (with_reducible first | exact HK.out | apply KeepBut.set_ | apply keep_drewN | apply keep_drew | apply keep_alloc) | exact HK.out)))); have n1_ := Aside0.mk (IsS71.below (by repeat (first | (with_reducible first | exact HI0.out | apply IsS71.alloc | apply IsS71.drewN | apply IsS71.drew | apply IsS71.set_1) | exact HI0.out)) hb); have n2_ := Aside0.mk (KeepBut.trans (by repeat (first | (with_reducible first | exact HK.out | apply KeepBut.set_ | apply keep_drewN | apply keep_drew | apply keep_alloc) | exact HK.out)) (KeepBut.of_below hb g none) (.inl rfl)); have n3_ := Aside0.mk (below_step (by repeat (first | (with_reducible first | exact HB.out | apply below_alloc | apply pw_below_drewN | apply below_drew1 | refine below_set ?_ (IsS71.ge HI0.out)) | exact HB.out)) hb); clear HI0; clear HK; clear HB; have HO427 := n0_; have HI0 := n1_; have HK := n2_; have HB := n3_; clear n0_ n1_ n2_ n3_; clear hb ho4) | ((with_reducible refine gate_callee (f := 44) rfl ?_); refine goesL_ (some 7) rfl rfl Try.func44 (by kernel_rfl) rfl #[.pointer (some ⟨g, 0, none⟩), .int .i64 24] rfl (by (try simp only [List.map_toArray, List.map_cons, List.map_nil]); first | done | rfl | (simp only [List.length_drop, List.length_take]; rfl)) ?_; (with_reducible refine (spec_l1Rd_pick.calls k g s0_0 s0_1 24 t428 t429 w0 _ ?side1 ?side2 A2.out).mono ?_); (case side1 => repeat (first | (with_reducible first | exact HI0.out | apply IsS71.alloc | apply IsS71.drewN | apply IsS71.drew | apply IsS71.set_1) | exact HI0.out)); (case side2 => repeat (first | (with_reducible first | exact HB.out | apply below_alloc | apply pw_below_drewN | apply below_drew1 | refine below_set ?_ (IsS71.ge HI0.out)) | exact HB.out)); rintro e w5 ⟨rfl, hi, hb, hk⟩; refine ⟨_, rfl, ?_⟩; have n0_ := Aside0.mk (Kd.R_mono (Kd.R_keep (IsS71.apart (show IsS71 w0 _ g s0_0 s0_1 from by repeat (first | (with_reducible first | exact HI0.out | apply IsS71.alloc | apply IsS71.drewN | apply IsS71.drew | apply IsS71.set_1) | exact HI0.out)) (by (with_reducible repeat (first | apply Kd.R_alloc | apply Kd.R_drewN | apply Kd.R_drew)); exact HO427.out) (by decide)) hk (fun _ h => h.2)) (fun _ h => h.1)); have n1_ := Aside0.mk (KeepBut.trans (by repeat (first | (with_reducible first | exact HK.out | apply KeepBut.set_ | apply keep_drewN | apply keep_drew | apply keep_alloc) | exact HK.out)) hk (.inl rfl)); have n2_ := Aside0.mk (hb); have n3_ := Aside0.mk (hi); clear HO427; clear HK; clear HB; clear HI0; have HO427 := n0_; have HK := n1_; have HB := n2_; have HI0 := n3_; clear n0_ n1_ n2_ n3_; (try clear hb); (try clear hb2); (try clear hk); (try clear hi)))
  go_loopg [3, 4] k (fun kq v3 v4 w' => ∃ (x3_1 : List Int) (x4_1 : Int) (x1001_1 : Int), v4 = .int .i64 x4_1 ∧ Aside0 (spec_l13Runes.l0 kq x3_1 x4_1 s0_0 x1001_1 = some (r1, r2)) ∧ Aside0 (kq ≤ k) ∧ Aside0 (Kd.R (Kd.int .i64) 3 w' w.heap.size (fun _ => True) v3 x3_1) ∧ Aside0 (IsS71 w0 w' g s0_0 x1001_1) ∧ Aside0 (KeepBut w w' g none) ∧ Aside0 (Below w0.heap.size w0 w'))
  case atStart => exact ⟨(y425), (t428), (t429), (by first | rfl | (simp; done) | (simp [*]; done)), H', ⟨Nat.le_refl _⟩, ⟨by (with_reducible repeat (first | apply Kd.R_alloc | apply Kd.R_drewN | apply Kd.R_drew)); exact HO427.out⟩, ⟨by repeat (first | (with_reducible first | exact HI0.out | apply IsS71.alloc | apply IsS71.drewN | apply IsS71.drew | apply IsS71.set_1) | exact HI0.out)⟩, ⟨by repeat (first | (with_reducible first | exact HK.out | apply KeepBut.set_ | apply keep_drewN | apply keep_drew | apply keep_alloc) | exact HK.out)⟩, ⟨by repeat (first | (with_reducible first | exact HB.out | apply below_alloc | apply pw_below_drewN | apply below_drew1 | refine below_set ?_ (IsS71.ge HI0.out)) | exact HB.out)⟩⟩
  case round =>
    clear H'
    try clear p2
    try clear c4
    obtain ⟨x3_1, x4_1, x1001_1, rfl, HA, HK1, HO_3, HI0, HK, HB⟩ := hrel
    cases gk with
    | zero => exact absurd HA.out (by simp [spec_l13Runes.l0])
    | succ k1 =>
      have H := HA.out
      clear HA
      simp only [spec_l13Runes.l0] at H
      by_cases c6 : x4_1 > 0
      · rw [if_pos c6] at H
        have c6b0 : decide (0 < x4_1) = true := decide_eq_true c6
        clear c6
        replace H := Option.bind_eq_some_iff.mp H
        obtain ⟨⟨t430, t431⟩, A70, H⟩ := H
        replace H : (if x3_1.length < 17592186044416 then (spec_l13Runes.l0 k1 (x3_1 ++ [t430]) (wrap64 (x4_1 - 1)) s0_0 t431) else (none)) = some (r1, r2) := H
        have A7 := Aside0.mk A70
        clear A70
        by_cases c8 : x3_1.length < 17592186044416
        · rw [if_pos c8] at H
          have LMc8 := Aside0.mk c8
          clear c8
          obtain ⟨y432, hy432⟩ : ∃ y_ : List Int, y_ = (x3_1 ++ [t430]) := ⟨_, rfl⟩
          replace H : (spec_l13Runes.l0 k1 y432 (wrap64 (x4_1 - 1)) s0_0 t431) = some (r1, r2) := by first | (rw [hy432]; with_reducible exact H) | (have H2_ := (Option.bind_some _ _).symm.trans H; rw [hy432]; with_reducible exact H2_) | (have H2_ := (Option.bind_some _ _).symm.trans H; with_reducible exact H2_) | with_reducible exact H | (rw [hy432]; exact H) | exact H
          have Ny432 := Aside0.mk hy432
          clear hy432
          have H' := Aside0.mk H
          clear H
          go_wp2_with (first | ((with_reducible refine gate_callee (f := 105) rfl ?_); refine goesL_ (some 14) rfl rfl Try.func105 (by kernel_rfl) rfl #[.pointer (some ⟨g, 0, none⟩)] rfl (by (try simp only [List.map_toArray, List.map_cons, List.map_nil]); first | done | rfl | (simp only [List.length_drop, List.length_take]; rfl)) ?_; (with_reducible refine (spec_l13Rune.calls k1 g s0_0 x1001_1 t430 t431 w0 _ ?side1 ?side2 A7.out).mono ?_); (case side1 => repeat (first | (with_reducible first | exact HI0.out | apply IsS71.alloc | apply IsS71.drewN | apply IsS71.drew | apply IsS71.set_1) | exact HI0.out)); (case side2 => repeat (first | (with_reducible first | exact HB.out | apply below_alloc | apply pw_below_drewN | apply below_drew1 | refine below_set ?_ (IsS71.ge HI0.out)) | exact HB.out)); rintro e w9 ⟨rfl, hi, hb, hk⟩; refine ⟨_, rfl, ?_⟩; have n0_ := Aside0.mk (Kd.R_mono (Kd.R_keep (IsS71.apart (show IsS71 w0 _ g s0_0 x1001_1 from by repeat (first | (with_reducible first | exact HI0.out | apply IsS71.alloc | apply IsS71.drewN | apply IsS71.drew | apply IsS71.set_1) | exact HI0.out)) (by (with_reducible repeat (first | apply Kd.R_alloc | apply Kd.R_drewN | apply Kd.R_drew)); exact HO_3.out) (by decide)) hk (fun _ h => h.2)) (fun _ h => h.1)); have n1_ := Aside0.mk (KeepBut.trans (by repeat (first | (with_reducible first | exact HK.out | apply KeepBut.set_ | apply keep_drewN | apply keep_drew | apply keep_alloc) | exact HK.out)) hk (.inl rfl)); have n2_ := Aside0.mk (hb); have n3_ := Aside0.mk (hi); clear HO_3; clear HK; clear HB; clear HI0; have HO_3 := n0_; have HK := n1_; have HB := n2_; have HI0 := n3_; clear n0_ n1_ n2_ n3_; (try clear hb); (try clear hb2); (try clear hk); (try clear hi)) | ((with_reducible refine gate_builtin (b := .append) (xs := #[.tmp 12, .tmp 15]) rfl ?_); at_builtin; refine Kd.R_append (Kd.int .i64) w.heap.size rfl (.tmp 12) (.tmp 15) 22 3 (.int .i64 0) 8 rfl Try.underlying22 info3 rfl (by decide) (by omega) u3 x3_1 t430 [.int .i64 t430] (fun _ => True) (fun _ => False) rfl rfl ?aP (fun _ hk => hk.elim) ?aF ?aO (Below.refl _ _) ?aS ?aL ?_; (case aP => exact rfl); (case aF => exact (fun _ _ => trivial)); (case aO => exact (by (with_reducible repeat (first | apply Kd.R_alloc | apply Kd.R_drewN | apply Kd.R_drew)); exact HO_3.out)); (case aS => exact (keep_size (w := w) (g := g) (row := none) (by repeat (first | (with_reducible first | exact HK.out | apply KeepBut.set_ | apply keep_drewN | apply keep_drew | apply keep_alloc) | exact HK.out)))); (case aL => have := LMc8.out; omega); intro v433 w10 ho hb hg hat; rw [← Ny432.out] at ho; have n0_ := Aside0.mk (IsS71.grown (by repeat (first | (with_reducible first | exact HI0.out | apply IsS71.alloc | apply IsS71.drewN | apply IsS71.drew | apply IsS71.set_1) | exact HI0.out)) hg (IsS71.own_ne HI0.out HO_3.out (by decide))); have n1_ := Aside0.mk (below_weaken (by repeat (first | (with_reducible first | exact HB.out | apply below_alloc | apply pw_below_drewN | apply below_drew1 | refine below_set ?_ (IsS71.ge HI0.out)) | exact HB.out)) HL.out hb); have n2_ := Aside0.mk (KeepBut.trans (by repeat (first | (with_reducible first | exact HK.out | apply KeepBut.set_ | apply keep_drewN | apply keep_drew | apply keep_alloc) | exact HK.out)) (KeepBut.of_grown hg g) (Kd.R_base2 HO_3.out)); have n3_ := Aside0.mk (ho); clear HI0; clear HB; clear HK; clear HO_3; have HI0 := n0_; have HB := n1_; have HK := n2_; have HO434 := n3_; clear n0_ n1_ n2_ n3_; clear ho hb hg hat))
          go_roundg k1
          case measure => have := HK1.out; omega
          case rel => exact ⟨(y432), (wrap64 (x4_1 - 1)), (t431), (by first | rfl | (simp; done) | (simp [*]; done)), H', ⟨by have := HK1.out; omega⟩, ⟨by (with_reducible repeat (first | apply Kd.R_alloc | apply Kd.R_drewN | apply Kd.R_drew)); exact HO434.out⟩, ⟨by repeat (first | (with_reducible first | exact HI0.out | apply IsS71.alloc | apply IsS71.drewN | apply IsS71.drew | apply IsS71.set_1) | exact HI0.out)⟩, ⟨by repeat (first | (with_reducible first | exact HK.out | apply KeepBut.set_ | apply keep_drewN | apply keep_drew | apply keep_alloc) | exact HK.out)⟩, ⟨by repeat (first | (with_reducible first | exact HB.out | apply below_alloc | apply pw_below_drewN | apply below_drew1 | refine below_set ?_ (IsS71.ge HI0.out)) | exact HB.out)⟩⟩
        · rw [if_neg c8] at H
          exact absurd H (by simp)
      · rw [if_neg c6] at H
        have c6b0 : decide (0 < x4_1) = false := decide_eq_false c6
        clear c6
        replace H := Option.bind_eq_some_iff.mp H
        obtain ⟨⟨t435, t436⟩, A110, H⟩ := H
        replace H : (if t435 = 0 then (spec_l13Runes.l1 k1 x3_1 s0_0 t436) else (some (x3_1, t436))) = some (r1, r2) := H
        have A11 := Aside0.mk A110
        clear A110
        by_cases c12 : t435 = 0
        · rw [if_pos c12] at H
          have c12b0 : (t435 == 0) = true := beq_iff_eq.mpr c12
          have c12b1 : (t435 != 0) = false := bne_eq_false_iff_eq.mpr c12
          clear c12
          have H' := Aside0.mk H
          clear H
          go_wp2_with (first | ((with_reducible refine gate_callee (f := 44) rfl ?_); refine goesL_ (some 18) rfl rfl Try.func44 (by kernel_rfl) rfl #[.pointer (some ⟨g, 0, none⟩), .int .i64 24] rfl (by (try simp only [List.map_toArray, List.map_cons, List.map_nil]); first | done | rfl | (simp only [List.length_drop, List.length_take]; rfl)) ?_; (with_reducible refine (spec_l1Rd_pick.calls k1 g s0_0 x1001_1 24 t435 t436 w0 _ ?side1 ?side2 A11.out).mono ?_); (case side1 => repeat (first | (with_reducible first | exact HI0.out | apply IsS71.alloc | apply IsS71.drewN | apply IsS71.drew | apply IsS71.set_1) | exact HI0.out)); (case side2 => repeat (first | (with_reducible first | exact HB.out | apply below_alloc | apply pw_below_drewN | apply below_drew1 | refine below_set ?_ (IsS71.ge HI0.out)) | exact HB.out)); rintro e w13 ⟨rfl, hi, hb, hk⟩; refine ⟨_, rfl, ?_⟩; have n0_ := Aside0.mk (Kd.R_mono (Kd.R_keep (IsS71.apart (show IsS71 w0 _ g s0_0 x1001_1 from by repeat (first | (with_reducible first | exact HI0.out | apply IsS71.alloc | apply IsS71.drewN | apply IsS71.drew | apply IsS71.set_1) | exact HI0.out)) (by (with_reducible repeat (first | apply Kd.R_alloc | apply Kd.R_drewN | apply Kd.R_drew)); exact HO_3.out) (by decide)) hk (fun _ h => h.2)) (fun _ h => h.1)); have n1_ := Aside0.mk (KeepBut.trans (by repeat (first | (with_reducible first | exact HK.out | apply KeepBut.set_ | apply keep_drewN | apply keep_drew | apply keep_alloc) | exact HK.out)) hk (.inl rfl)); have n2_ := Aside0.mk (hb); have n3_ := Aside0.mk (hi); clear HO_3; clear HK; clear HB; clear HI0; have HO_3 := n0_; have HK := n1_; have HB := n2_; have HI0 := n3_; clear n0_ n1_ n2_ n3_; (try clear hb); (try clear hb2); (try clear hk); (try clear hi)))
          go_loopg [3] k1 (fun kq v3 w' => ∃ (x3_2 : List Int) (x1001_2 : Int), Aside0 (spec_l13Runes.l1 kq x3_2 s0_0 x1001_2 = some (r1, r2)) ∧ Aside0 (kq ≤ k1) ∧ Aside0 (Kd.R (Kd.int .i64) 3 w' w.heap.size (fun _ => True) v3 x3_2) ∧ Aside0 (IsS71 w0 w' g s0_0 x1001_2) ∧ Aside0 (KeepBut w w' g none) ∧ Aside0 (Below w0.heap.size w0 w'))
          case atStart => exact ⟨(x3_1), (t436), H', ⟨Nat.le_refl _⟩, ⟨by (with_reducible repeat (first | apply Kd.R_alloc | apply Kd.R_drewN | apply Kd.R_drew)); exact HO_3.out⟩, ⟨by repeat (first | (with_reducible first | exact HI0.out | apply IsS71.alloc | apply IsS71.drewN | apply IsS71.drew | apply IsS71.set_1) | exact HI0.out)⟩, ⟨by repeat (first | (with_reducible first | exact HK.out | apply KeepBut.set_ | apply keep_drewN | apply keep_drew | apply keep_alloc) | exact HK.out)⟩, ⟨by repeat (first | (with_reducible first | exact HB.out | apply below_alloc | apply pw_below_drewN | apply below_drew1 | refine below_set ?_ (IsS71.ge HI0.out)) | exact HB.out)⟩⟩
          case round =>
            clear H'
            try clear c1
            try clear p2
            try clear c4
            try clear c6
            try clear c6b0
            try clear p6
            try clear c7
            try clear c8
            try clear c10
            try clear c12
            try clear c12b0
            try clear c12b1
            try clear p2
            obtain ⟨x3_2, x1001_2, HA, HK2, HO_3, HI0, HK, HB⟩ := hrel
            cases gk with
            | zero => exact absurd HA.out (by simp [spec_l13Runes.l1])
            | succ k2 =>
              have H := HA.out
              clear HA
              simp only [spec_l13Runes.l1] at H
              by_cases c14 : (x3_2.length : Int) < 80
              · rw [if_pos c14] at H
                have c14b0 : decide ((x3_2.length : Int) < 80) = true := decide_eq_true c14
                have c14b1 : decide (x3_2.length < 80) = true := decide_eq_true (by omega)
                clear c14
                obtain ⟨y437, hy437⟩ : ∃ y_ : List Int, y_ = (([8235, 8238, 8295, 1488, 97] : List Int)) := ⟨_, rfl⟩
                replace H : ((spec_l1Rd_one.f k2 s0_0 x1001_2 y437).bind fun bt440 => (if x3_2.length < 17592186044416 then (spec_l13Runes.l1 k2 (x3_2 ++ [bt440.1]) s0_0 bt440.2) else (none))) = some (r1, r2) := by first | (rw [hy437]; with_reducible exact H) | (have H2_ := (Option.bind_some _ _).symm.trans H; rw [hy437]; with_reducible exact H2_) | (have H2_ := (Option.bind_some _ _).symm.trans H; with_reducible exact H2_) | with_reducible exact H | (rw [hy437]; exact H) | exact H
                have Ny437 := Aside0.mk hy437
                clear hy437
                replace H := Option.bind_eq_some_iff.mp H
                obtain ⟨⟨t440, t441⟩, A150, H⟩ := H
                replace H : (if x3_2.length < 17592186044416 then (spec_l13Runes.l1 k2 (x3_2 ++ [t440]) s0_0 t441) else (none)) = some (r1, r2) := H
                have A15 := Aside0.mk A150
                clear A150
                by_cases c16 : x3_2.length < 17592186044416
                · rw [if_pos c16] at H
                  have LMc16 := Aside0.mk c16
                  clear c16
                  obtain ⟨y442, hy442⟩ : ∃ y_ : List Int, y_ = (x3_2 ++ [t440]) := ⟨_, rfl⟩
                  replace H : (spec_l13Runes.l1 k2 y442 s0_0 t441) = some (r1, r2) := by first | (rw [hy442]; with_reducible exact H) | (have H2_ := (Option.bind_some _ _).symm.trans H; rw [hy442]; with_reducible exact H2_) | (have H2_ := (Option.bind_some _ _).symm.trans H; with_reducible exact H2_) | with_reducible exact H | (rw [hy442]; exact H) | exact H
                  have Ny442 := Aside0.mk hy442
                  clear hy442
                  have H' := Aside0.mk H
                  clear H
                  obtain ⟨Ao17, co17, eo17⟩ := Kd.R_slice HO_3.out
                  subst eo17
                  go_wp2_with (first | ((with_reducible refine gate_dst (N := 25) rfl ?_); refine Kd.R_lit (Kd.int .i64) _ 3 ?hg (N := 25) ?hd (xs := ([8235, 8238, 8295, 1488, 97] : List Int)) (inner := [.int .i64 8235, .int .i64 8238, .int .i64 8295, .int .i64 1488, .int .i64 97]) (ok := fun _ => True) (okp := fun _ => True) ?hr ?hp (fun _ hk => hk) trivial (Below.refl _ _) (Nat.le_refl _) (by simp) ?_; (case hd => rfl); (case hg => rfl); (case hr => first | (go_simp; done) | (go_simp; rfl)); (case hp => exact (Reps.one (show Kd.M (Kd.int .i64) _ _ _ 8235 [.int .i64 8235] from rfl) (Reps.one (show Kd.M (Kd.int .i64) _ _ _ 8238 [.int .i64 8238] from rfl) (Reps.one (show Kd.M (Kd.int .i64) _ _ _ 8295 [.int .i64 8295] from rfl) (Reps.one (show Kd.M (Kd.int .i64) _ _ _ 1488 [.int .i64 1488] from rfl) (Reps.one (show Kd.M (Kd.int .i64) _ _ _ 97 [.int .i64 97] from rfl) (Reps.none _ _))))))); intro v438 w18 ho19 hb hg_ hnew_; clear hg_ hnew_; (first | rw [← Ny437.out] at ho19 | (simp only [Int.reduceToNat] at ho19; rw [← Ny437.out] at ho19)); have n0_ := Aside0.mk (Kd.R_elder' (by (with_reducible repeat (first | apply Kd.R_alloc | apply Kd.R_drewN | apply Kd.R_drew)); exact HO_3.out) (Kd.R_base ho19) hb); have n1_ := Aside0.mk (Kd.R_lower (Kd.R_new' ho19 (Kd.R_lt (by (with_reducible repeat (first | apply Kd.R_alloc | apply Kd.R_drewN | apply Kd.R_drew)); exact HO_3.out))) (keep_size (w := w) (g := g) (row := none) (by repeat (first | (with_reducible first | exact HK.out | apply KeepBut.set_ | apply keep_drewN | apply keep_drew | apply keep_alloc) | exact HK.out)))); have n2_ := Aside0.mk (IsS71.below (by repeat (first | (with_reducible first | exact HI0.out | apply IsS71.alloc | apply IsS71.drewN | apply IsS71.drew | apply IsS71.set_1) | exact HI0.out)) hb); have n3_ := Aside0.mk (KeepBut.trans (by repeat (first | (with_reducible first | exact HK.out | apply KeepBut.set_ | apply keep_drewN | apply keep_drew | apply keep_alloc) | exact HK.out)) (KeepBut.of_below hb g none) (.inl rfl)); have n4_ := Aside0.mk (below_step (by repeat (first | (with_reducible first | exact HB.out | apply below_alloc | apply pw_below_drewN | apply below_drew1 | refine below_set ?_ (IsS71.ge HI0.out)) | exact HB.out)) hb); clear HO_3; clear HI0; clear HK; clear HB; have HO_3 := n0_; have HO439 := n1_; have HI0 := n2_; have HK := n3_; have HB := n4_; clear n0_ n1_ n2_ n3_ n4_; clear hb ho19; obtain ⟨Ao20, co20, eo20⟩ := Kd.R_slice HO439.out; subst eo20) | ((with_reducible refine gate_callee (f := 70) rfl ?_); refine goesL_ (some 26) rfl rfl Try.func70 (by kernel_rfl) rfl #[.pointer (some ⟨g, 0, none⟩), .slice Ao20 y437.length co20] rfl (by (try simp only [List.map_toArray, List.map_cons, List.map_nil]); first | done | rfl | (simp only [List.length_drop, List.length_take]; rfl)) ?_; (with_reducible refine (spec_l1Rd_one.calls k2 g s0_0 x1001_2 _ _ y437 t440 t441 w0 _ ?side1 ?side2 ?side3 ?side4 ?side5 A15.out).mono ?_); (case side1 => repeat (first | (with_reducible first | exact HI0.out | apply IsS71.alloc | apply IsS71.drewN | apply IsS71.drew | apply IsS71.set_1) | exact HI0.out)); (case side2 => repeat (first | (with_reducible first | exact HB.out | apply below_alloc | apply pw_below_drewN | apply below_drew1 | refine below_set ?_ (IsS71.ge HI0.out)) | exact HB.out)); (case side3 => repeat (first | exact (Kd.R_reads' HO439.out).2.2 | (with_reducible refine Kd.C_alloc ?_ _) | (with_reducible refine Kd.C_drewN ?_ _) | (with_reducible refine Kd.C_drew ?_))); (case side4 => exact (Kd.R_reads' HO439.out).2.1); (case side5 => exact far_slice (IsS71.own_ne HI0.out HO439.out (by decide))); rintro e w21 ⟨rfl, hi, hb, hk⟩; refine ⟨_, rfl, ?_⟩; have n0_ := Aside0.mk (Kd.R_mono (Kd.R_keep (IsS71.apart (show IsS71 w0 _ g s0_0 x1001_2 from by repeat (first | (with_reducible first | exact HI0.out | apply IsS71.alloc | apply IsS71.drewN | apply IsS71.drew | apply IsS71.set_1) | exact HI0.out)) (by (with_reducible repeat (first | apply Kd.R_alloc | apply Kd.R_drewN | apply Kd.R_drew)); exact HO_3.out) (by decide)) hk (fun _ h => h.2)) (fun _ h => h.1)); have n1_ := Aside0.mk (Kd.R_mono (Kd.R_keep (IsS71.apart (show IsS71 w0 _ g s0_0 x1001_2 from by repeat (first | (with_reducible first | exact HI0.out | apply IsS71.alloc | apply IsS71.drewN | apply IsS71.drew | apply IsS71.set_1) | exact HI0.out)) (by (with_reducible repeat (first | apply Kd.R_alloc | apply Kd.R_drewN | apply Kd.R_drew)); exact HO439.out) (by decide)) hk (fun _ h => h.2)) (fun _ h => h.1)); have n2_ := Aside0.mk (KeepBut.trans (by repeat (first | (with_reducible first | exact HK.out | apply KeepBut.set_ | apply keep_drewN | apply keep_drew | apply keep_alloc) | exact HK.out)) hk (.inl rfl)); have n3_ := Aside0.mk (hb); have n4_ := Aside0.mk (hi); clear HO_3; clear HO439; clear HK; clear HB; clear HI0; have HO_3 := n0_; have HO439 := n1_; have HK := n2_; have HB := n3_; have HI0 := n4_; clear n0_ n1_ n2_ n3_ n4_; (try clear hb); (try clear hb2); (try clear hk); (try clear hi)) | ((with_reducible refine gate_builtin (b := .append) (xs := #[.tmp 23, .tmp 27]) rfl ?_); at_builtin; refine Kd.R_append (Kd.int .i64) w.heap.size rfl (.tmp 23) (.tmp 27) 22 3 (.int .i64 0) 8 rfl Try.underlying22 info3 rfl (by decide) (by omega) (.slice Ao17 x3_2.length co17) x3_2 t440 [.int .i64 t440] (fun k_ => some k_ ≠ (.slice Ao20 y437.length co20 : Value).ownBlock) (fun _ => False) rfl rfl ?aP (fun _ hk => hk.elim) ?aF ?aO (Below.refl _ _) ?aS ?aL ?_; (case aP => exact rfl); (case aF => exact (fun k_ hk => Kd.fresh' (Kd.R_lt (by (with_reducible repeat (first | apply Kd.R_alloc | apply Kd.R_drewN | apply Kd.R_drew)); exact HO439.out)) k_ hk)); (case aO => exact (by (with_reducible repeat (first | apply Kd.R_alloc | apply Kd.R_drewN | apply Kd.R_drew)); exact Kd.R_mono HO_3.out (fun _ hk => hk.2))); (case aS => exact (keep_size (w := w) (g := g) (row := none) (by repeat (first | (with_reducible first | exact HK.out | apply KeepBut.set_ | apply keep_drewN | apply keep_drew | apply keep_alloc) | exact HK.out)))); (case aL => have := LMc16.out; omega); intro v443 w22 ho hb hg hat; rw [← Ny442.out] at ho; have n0_ := Aside0.mk (IsS71.grown (by repeat (first | (with_reducible first | exact HI0.out | apply IsS71.alloc | apply IsS71.drewN | apply IsS71.drew | apply IsS71.set_1) | exact HI0.out)) hg (IsS71.own_ne HI0.out HO_3.out (by decide))); have n1_ := Aside0.mk (Kd.R_after (ok := (fun _ => True)) (by (with_reducible repeat (first | apply Kd.R_alloc | apply Kd.R_drewN | apply Kd.R_drew)); exact HO439.out) hg hat); have n2_ := Aside0.mk (below_weaken (by repeat (first | (with_reducible first | exact HB.out | apply below_alloc | apply pw_below_drewN | apply below_drew1 | refine below_set ?_ (IsS71.ge HI0.out)) | exact HB.out)) HL.out hb); have n3_ := Aside0.mk (KeepBut.trans (by repeat (first | (with_reducible first | exact HK.out | apply KeepBut.set_ | apply keep_drewN | apply keep_drew | apply keep_alloc) | exact HK.out)) (KeepBut.of_grown hg g) (Kd.R_base2 HO_3.out)); have n4_ := Aside0.mk (ho); clear HI0; clear HO439; clear HB; clear HK; clear HO_3; have HI0 := n0_; have HO439 := n1_; have HB := n2_; have HK := n3_; have HO444 := n4_; clear n0_ n1_ n2_ n3_ n4_; clear ho hb hg hat))
                  go_roundg k2
                  case measure => have := HK1.out; have := HK2.out; omega
                  case rel => exact ⟨(y442), (t441), H', ⟨by have := HK1.out; have := HK2.out; omega⟩, ⟨by (with_reducible repeat (first | apply Kd.R_alloc | apply Kd.R_drewN | apply Kd.R_drew)); exact Kd.R_mono HO444.out (fun _ hk => trivial)⟩, ⟨by repeat (first | (with_reducible first | exact HI0.out | apply IsS71.alloc | apply IsS71.drewN | apply IsS71.drew | apply IsS71.set_1) | exact HI0.out)⟩, ⟨by repeat (first | (with_reducible first | exact HK.out | apply KeepBut.set_ | apply keep_drewN | apply keep_drew | apply keep_alloc) | exact HK.out)⟩, ⟨by repeat (first | (with_reducible first | exact HB.out | apply below_alloc | apply pw_below_drewN | apply below_drew1 | refine below_set ?_ (IsS71.ge HI0.out)) | exact HB.out)⟩⟩
                · rw [if_neg c16] at H
                  exact absurd H (by simp)
              · rw [if_neg c14] at H
                have c14b0 : decide ((x3_2.length : Int) < 80) = false := decide_eq_false c14
                have c14b1 : decide (x3_2.length < 80) = false := decide_eq_false (by omega)
                clear c14
                simp only [Option.some.injEq, Prod.mk.injEq] at H
                obtain ⟨rfl, rfl⟩ := H
                obtain ⟨Ao23, co23, eo23⟩ := Kd.R_slice HO_3.out
                subst eo23
                go_wp2
                go_ret
                exact ⟨_, by first | rfl | (simp [errW_none, errW_some] <;> rfl) | (simp [*, errW_none, errW_some] <;> rfl), by (with_reducible repeat (first | apply Kd.R_alloc | apply Kd.R_drewN | apply Kd.R_drew)); exact HO_3.out, by repeat (first | (with_reducible first | exact HI0.out | apply IsS71.alloc | apply IsS71.drewN | apply IsS71.drew | apply IsS71.set_1) | exact HI0.out), by repeat (first | (with_reducible first | exact HB.out | apply below_alloc | apply pw_below_drewN | apply below_drew1 | refine below_set ?_ (IsS71.ge HI0.out)) | exact HB.out), by repeat (first | (with_reducible first | exact HK.out | apply KeepBut.set_ | apply keep_drewN | apply keep_drew | apply keep_alloc) | exact HK.out)⟩
        · rw [if_neg c12] at H
          have c12b0 : (t435 == 0) = false := beq_eq_false_iff_ne.mpr c12
          have c12b1 : (t435 != 0) = true := bne_iff_ne.mpr c12
          simp only [Option.some.injEq, Prod.mk.injEq] at H
          obtain ⟨rfl, rfl⟩ := H
          go_wp2_with (first | ((with_reducible refine gate_callee (f := 44) rfl ?_); refine goesL_ (some 18) rfl rfl Try.func44 (by kernel_rfl) rfl #[.pointer (some ⟨g, 0, none⟩), .int .i64 24] rfl (by (try simp only [List.map_toArray, List.map_cons, List.map_nil]); first | done | rfl | (simp only [List.length_drop, List.length_take]; rfl)) ?_; (with_reducible refine (spec_l1Rd_pick.calls k1 g s0_0 x1001_1 24 t435 t436 w0 _ ?side1 ?side2 A11.out).mono ?_); (case side1 => repeat (first | (with_reducible first | exact HI0.out | apply IsS71.alloc | apply IsS71.drewN | apply IsS71.drew | apply IsS71.set_1) | exact HI0.out)); (case side2 => repeat (first | (with_reducible first | exact HB.out | apply below_alloc | apply pw_below_drewN | apply below_drew1 | refine below_set ?_ (IsS71.ge HI0.out)) | exact HB.out)); rintro e w24 ⟨rfl, hi, hb, hk⟩; refine ⟨_, rfl, ?_⟩; have n0_ := Aside0.mk (Kd.R_mono (Kd.R_keep (IsS71.apart (show IsS71 w0 _ g s0_0 x1001_1 from by repeat (first | (with_reducible first | exact HI0.out | apply IsS71.alloc | apply IsS71.drewN | apply IsS71.drew | apply IsS71.set_1) | exact HI0.out)) (by (with_reducible repeat (first | apply Kd.R_alloc | apply Kd.R_drewN | apply Kd.R_drew)); exact HO_3.out) (by decide)) hk (fun _ h => h.2)) (fun _ h => h.1)); have n1_ := Aside0.mk (KeepBut.trans (by repeat (first | (with_reducible first | exact HK.out | apply KeepBut.set_ | apply keep_drewN | apply keep_drew | apply keep_alloc) | exact HK.out)) hk (.inl rfl)); have n2_ := Aside0.mk (hb); have n3_ := Aside0.mk (hi); clear HO_3; clear HK; clear HB; clear HI0; have HO_3 := n0_; have HK := n1_; have HB := n2_; have HI0 := n3_; clear n0_ n1_ n2_ n3_; (try clear hb); (try clear hb2); (try clear hk); (try clear hi)))
          go_ret
          exact ⟨_, by first | rfl | (simp [errW_none, errW_some] <;> rfl) | (simp [*, errW_none, errW_some] <;> rfl), by (with_reducible repeat (first | apply Kd.R_alloc | apply Kd.R_drewN | apply Kd.R_drew)); exact HO_3.out, by repeat (first | (with_reducible first | exact HI0.out | apply IsS71.alloc | apply IsS71.drewN | apply IsS71.drew | apply IsS71.set_1) | exact HI0.out), by repeat (first | (with_reducible first | exact HB.out | apply below_alloc | apply pw_below_drewN | apply below_drew1 | refine below_set ?_ (IsS71.ge HI0.out)) | exact HB.out), by repeat (first | (with_reducible first | exact HK.out | apply KeepBut.set_ | apply keep_drewN | apply keep_drew | apply keep_alloc) | exact HK.out)⟩
end Go.Proofs.Ytojehfdioeglgaa.S
namespace Go.Proofs.Ytojehfdioeglgaa.S
open Go.RowKit Go.Proofs.YtojehfdioeglgaaW.PrintWords Go.Proofs.YtojehfdioeglgaaW.PrintLast Go.Proofs.YtojehfdioeglgaaW.PrintMore
attribute [local go_sem] max2_int min2_int max_two min_two max_three min_three max_four min_four   -- for this text's walks alone
set_option linter.unusedVariables false
set_option linter.unusedSimpArgs false
def spec_l13Any.l0 : Nat → List Int → List Int → Int → Option (List Int × Int)
  | 0, _, _, _ => none
  | k + 1, x3, x1000, x1001 => if (x3.length : Int) ≤ 80 then (if x3.length < 17592186044416 then (spec_l13Any.l0 k (x3 ++ [97]) x1000 x1001) else (none)) else (some (x3, x1001))
def spec_l13Any.f (k : Nat) (s0_0 : List Int) (s0_1 : Int) : Option (List Int × Int) := (spec_l13Runes.f k s0_0 s0_1).bind fun bt445 => ((spec_l1Rd_pick.f k s0_0 bt445.2 24).bind fun bt449 => (if bt449.1 = 0 then ((spec_l1Rd_one.f k s0_0 bt449.2 (([(-1), 55296, 57343, 1114112] : List Int))).bind fun bt454 => (if bt445.1.length < 17592186044416 then (some ((bt445.1 ++ [bt454.1]), bt454.2)) else (none))) else (if bt449.1 = 1 then (spec_l13Any.l0 k bt445.1 s0_0 bt449.2) else (some (bt445.1, bt449.2)))))
theorem spec_l13Any.mono_l : ∀ k, (∀ y0 y1 y2, LeO (spec_l13Any.l0 k y0 y1 y2) (spec_l13Any.l0 (k + 1) y0 y1 y2))
  | 0 => fun _ _ _ r h => by simp [spec_l13Any.l0] at h
  | k + 1 => by
    have ih0 := spec_l13Any.mono_l k
    · intro y0 y1 y2
      unfold spec_l13Any.l0
      repeat' first
      | (with_reducible exact ih0 _ _ _)
      | (with_reducible exact spec_l13Runes.mono _ _ _)
      | (with_reducible exact spec_l1Rd_one.mono _ _ _ _)
      | (with_reducible exact spec_l1Rd_pick.mono _ _ _ _)
      | (with_reducible exact LeO.refl _)
      | (with_reducible exact LeO.none _)
      | (with_reducible refine LeO.ite ?_ ?_)
      | (with_reducible refine LeO.bind ?_ (fun _ => ?_))
      | exact ih0 _ _ _
      | exact spec_l13Runes.mono _ _ _
      | exact spec_l1Rd_one.mono _ _ _ _
      | exact spec_l1Rd_pick.mono _ _ _ _
      | exact LeO.none _
      | refine LeO.ite ?_ ?_
      | refine LeO.bind ?_ (fun _ => ?_)
theorem spec_l13Any.mono : ∀ a0 a1 k, LeO (spec_l13Any.f k a0 a1) (spec_l13Any.f (k + 1) a0 a1) := by
  intro a0 a1 k
  have ih0 := spec_l13Any.mono_l k
  unfold spec_l13Any.f
  repeat' first
      | (with_reducible exact ih0 _ _ _)
      | (with_reducible exact spec_l13Runes.mono _ _ _)
      | (with_reducible exact spec_l1Rd_one.mono _ _ _ _)
      | (with_reducible exact spec_l1Rd_pick.mono _ _ _ _)
      | (with_reducible exact LeO.refl _)
      | (with_reducible exact LeO.none _)
      | (with_reducible refine LeO.ite ?_ ?_)
      | (with_reducible refine LeO.bind ?_ (fun _ => ?_))
      | exact ih0 _ _ _
      | exact spec_l13Runes.mono _ _ _
      | exact spec_l1Rd_one.mono _ _ _ _
      | exact spec_l1Rd_pick.mono _ _ _ _
      | exact LeO.none _
      | refine LeO.ite ?_ ?_
      | refine LeO.bind ?_ (fun _ => ?_)
set_option maxHeartbeats 8000000 in
set_option maxRecDepth 100000 in
theorem spec_l13Any.calls (k : Nat) (g : Nat) (s0_0 : List Int) (s0_1 : Int) (r1 : List Int) (r2 : Int) (w0 w : World) (hI : IsS71 w0 w g s0_0 s0_1) (hB : Below w0.heap.size w0 w) (h : spec_l13Any.f k s0_0 s0_1 = some (r1, r2)) :
    Calls Try.prog 51 #[.pointer (some ⟨g, 0, none⟩)] w fun e w' => ∃ v0_ : Value, e = .returned (v0_) ∧ Kd.R (Kd.int .i64) 3 w' w.heap.size (fun _ => True) v0_ r1 ∧ IsS71 w0 w' g s0_0 r2 ∧ Below w0.heap.size w0 w' ∧ KeepBut w w' g none := by
  have HI0 := Aside0.mk hI
  have HK := Aside0.mk (KeepBut.refl w g none)
  have HL := Aside0.mk hB.size
  clear hI
  have HW0 := Aside0.mk hB.size
  have HB := Aside0.mk hB
  clear hB
  have H : ((spec_l13Runes.f k s0_0 s0_1).bind fun bt445 => ((spec_l1Rd_pick.f k s0_0 bt445.2 24).bind fun bt449 => (if bt449.1 = 0 then ((spec_l1Rd_one.f k s0_0 bt449.2 (([(-1), 55296, 57343, 1114112] : List Int))).bind fun bt454 => (if bt445.1.length < 17592186044416 then (some ((bt445.1 ++ [bt454.1]), bt454.2)) else (none))) else (if bt449.1 = 1 then (spec_l13Any.l0 k bt445.1 s0_0 bt449.2) else (some (bt445.1, bt449.2)))))) = some (r1, r2) := h
  clear h
  replace H := Option.bind_eq_some_iff.mp H
  obtain ⟨⟨t445, t448⟩, A20, H⟩ := H
  replace H : ((spec_l1Rd_pick.f k s0_0 t448 24).bind fun bt449 => (if bt449.1 = 0 then ((spec_l1Rd_one.f k s0_0 bt449.2 (([(-1), 55296, 57343, 1114112] : List Int))).bind fun bt454 => (if t445.length < 17592186044416 then (some ((t445 ++ [bt454.1]), bt454.2)) else (none))) else (if bt449.1 = 1 then (spec_l13Any.l0 k t445 s0_0 bt449.2) else (some (t445, bt449.2))))) = some (r1, r2) := H
  have A2 := Aside0.mk A20
  clear A20
  replace H := Option.bind_eq_some_iff.mp H
  obtain ⟨⟨t449, t450⟩, A30, H⟩ := H
  replace H : (if t449 = 0 then ((spec_l1Rd_one.f k s0_0 t450 (([(-1), 55296, 57343, 1114112] : List Int))).bind fun bt454 => (if t445.length < 17592186044416 then (some ((t445 ++ [bt454.1]), bt454.2)) else (none))) else (if t449 = 1 then (spec_l13Any.l0 k t445 s0_0 t450) else (some (t445, t450)))) = some (r1, r2) := H
  have A3 := Aside0.mk A30
  clear A30
  by_cases c4 : t449 = 0
  · rw [if_pos c4] at H
    have c4b0 : (t449 == 0) = true := beq_iff_eq.mpr c4
    have c4b1 : (t449 != 0) = false := bne_eq_false_iff_eq.mpr c4
    clear c4
    obtain ⟨y451, hy451⟩ : ∃ y_ : List Int, y_ = (([(-1), 55296, 57343, 1114112] : List Int)) := ⟨_, rfl⟩
    replace H : ((spec_l1Rd_one.f k s0_0 t450 y451).bind fun bt454 => (if t445.length < 17592186044416 then (some ((t445 ++ [bt454.1]), bt454.2)) else (none))) = some (r1, r2) := by first | (rw [hy451]; with_reducible exact H) | (have H2_ := (Option.bind_some _ _).symm.trans H; rw [hy451]; with_reducible exact H2_) | (have H2_ := (Option.bind_some _ _).symm.trans H; with_reducible exact H2_) | with_reducible exact H | (rw [hy451]; exact H) | exact H
    have Ny451 := Aside0.mk hy451
    clear hy451
    replace H := Option.bind_eq_some_iff.mp H
    obtain ⟨⟨t454, t455⟩, A50, H⟩ := H
    replace H : (if t445.length < 17592186044416 then (some ((t445 ++ [t454]), t455)) else (none)) = some (r1, r2) := H
    have A5 := Aside0.mk A50
    clear A50
    by_cases c6 : t445.length < 17592186044416
    · rw [if_pos c6] at H
      have LMc6 := Aside0.mk c6
      clear c6
      obtain ⟨y456, hy456⟩ : ∃ y_ : List Int, y_ = (t445 ++ [t454]) := ⟨_, rfl⟩
      replace H : (some (y456, t455)) = some (r1, r2) := by first | (rw [hy456]; with_reducible exact H) | (have H2_ := (Option.bind_some _ _).symm.trans H; rw [hy456]; with_reducible exact H2_) | (have H2_ := (Option.bind_some _ _).symm.trans H; with_reducible exact H2_) | with_reducible exact H | (rw [hy456]; exact H) | exact H
      have Ny456 := Aside0.mk hy456
      clear hy456
      simp only [Option.some.injEq, Prod.mk.injEq] at H
      obtain ⟨rfl, rfl⟩ := H
      go_enter Try.func51, Try.ntmps51
      go_wp2_with (first | ((with_reducible refine gate_callee (f := 79) rfl ?_); refine goesL_ (some 5) rfl rfl Try.func79 (by kernel_rfl) rfl #[.pointer (some ⟨g, 0, none⟩)] rfl (by (try simp only [List.map_toArray, List.map_cons, List.map_nil]); first | done | rfl | (simp only [List.length_drop, List.length_take]; rfl)) ?_; (with_reducible refine (spec_l13Runes.calls k g s0_0 s0_1 t445 t448 w0 _ ?side1 ?side2 A2.out).mono ?_); (case side1 => repeat (first | (with_reducible first | exact HI0.out | apply IsS71.alloc | apply IsS71.drewN | apply IsS71.drew | apply IsS71.set_1) | exact HI0.out)); (case side2 => repeat (first | (with_reducible first | exact HB.out | apply below_alloc | apply pw_below_drewN | apply below_drew1 | refine below_set ?_ (IsS71.ge HI0.out)) | exact HB.out)); rintro e w7 ⟨v446, rfl, ho0, hi, hb, hk⟩; refine ⟨_, rfl, ?_⟩; have n0_ := Aside0.mk (Kd.R_lower ho0 (keep_size (w := w) (g := g) (row := none) (by repeat (first | (with_reducible first | exact HK.out | apply KeepBut.set_ | apply keep_drewN | apply keep_drew | apply keep_alloc) | exact HK.out)))); have n1_ := Aside0.mk (KeepBut.trans (by repeat (first | (with_reducible first | exact HK.out | apply KeepBut.set_ | apply keep_drewN | apply keep_drew | apply keep_alloc) | exact HK.out)) hk (.inl rfl)); have n2_ := Aside0.mk (hb); have n3_ := Aside0.mk (hi); clear HK; clear HB; clear HI0; have HO447 := n0_; have HK := n1_; have HB := n2_; have HI0 := n3_; clear n0_ n1_ n2_ n3_; (try clear hb); (try clear hb2); (try clear hk); (try clear hi); (try clear ho0)) | ((with_reducible refine gate_callee (f := 44) rfl ?_); refine goesL_ (some 7) rfl rfl Try.func44 (by kernel_rfl) rfl #[.pointer (some ⟨g, 0, none⟩), .int .i64 24] rfl (by (try simp only [List.map_toArray, List.map_cons, List.map_nil]); first | done | rfl | (simp only [List.length_drop, List.length_take]; rfl)) ?_; (with_reducible refine (spec_l1Rd_pick.calls k g s0_0 t448 24 t449 t450 w0 _ ?side1 ?side2 A3.out).mono ?_); (case side1 => repeat (first | (with_reducible first | exact HI0.out | apply IsS71.alloc | apply IsS71.drewN | apply IsS71.drew | apply IsS71.set_1) | exact HI0.out)); (case side2 => repeat (first | (with_reducible first | exact HB.out | apply below_alloc | apply pw_below_drewN | apply below_drew1 | refine below_set ?_ (IsS71.ge HI0.out)) | exact HB.out)); rintro e w8 ⟨rfl, hi, hb, hk⟩; refine ⟨_, rfl, ?_⟩; have n0_ := Aside0.mk (Kd.R_mono (Kd.R_keep (IsS71.apart (show IsS71 w0 _ g s0_0 t448 from by repeat (first | (with_reducible first | exact HI0.out | apply IsS71.alloc | apply IsS71.drewN | apply IsS71.drew | apply IsS71.set_1) | exact HI0.out)) (by (with_reducible repeat (first | apply Kd.R_alloc | apply Kd.R_drewN | apply Kd.R_drew)); exact HO447.out) (by decide)) hk (fun _ h => h.2)) (fun _ h => h.1)); have n1_ := Aside0.mk (KeepBut.trans (by repeat (first | (with_reducible first | exact HK.out | apply KeepBut.set_ | apply keep_drewN | apply keep_drew | apply keep_alloc) | exact HK.out)) hk (.inl rfl)); have n2_ := Aside0.mk (hb); have n3_ := Aside0.mk (hi); clear HO447; clear HK; clear HB; clear HI0; have HO447 := n0_; have HK := n1_; have HB := n2_; have HI0 := n3_; clear n0_ n1_ n2_ n3_; (try clear hb); (try clear hb2); (try clear hk); (try clear hi)) | ((with_reducible refine gate_dst (N := 12) rfl ?_); refine Kd.R_lit (Kd.int .i64) _ 3 ?hg (N := 12) ?hd (xs := ([(-1), 55296, 57343, 1114112] : List Int)) (inner := [.int .i64 (-1), .int .i64 55296, .int .i64 57343, .int .i64 1114112]) (ok := fun _ => True) (okp := fun _ => True) ?hr ?hp (fun _ hk => hk) trivial (Below.refl _ _) (Nat.le_refl _) (by simp) ?_; (case hd => rfl); (case hg => rfl); (case hr => first | (go_simp; done) | (go_simp; rfl)); (case hp => exact (Reps.one (show Kd.M (Kd.int .i64) _ _ _ (-1) [.int .i64 (-1)] from rfl) (Reps.one (show Kd.M (Kd.int .i64) _ _ _ 55296 [.int .i64 55296] from rfl) (Reps.one (show Kd.M (Kd.int .i64) _ _ _ 57343 [.int .i64 57343] from rfl) (Reps.one (show Kd.M (Kd.int .i64) _ _ _ 1114112 [.int .i64 1114112] from rfl) (Reps.none _ _)))))); intro v452 w9 ho10 hb hg_ hnew_; clear hg_ hnew_; (first | rw [← Ny451.out] at ho10 | (simp only [Int.reduceToNat] at ho10; rw [← Ny451.out] at ho10)); have n0_ := Aside0.mk (Kd.R_elder' (by (with_reducible repeat (first | apply Kd.R_alloc | apply Kd.R_drewN | apply Kd.R_drew)); exact HO447.out) (Kd.R_base ho10) hb); have n1_ := Aside0.mk (Kd.R_lower (Kd.R_new' ho10 (Kd.R_lt (by (with_reducible repeat (first | apply Kd.R_alloc | apply Kd.R_drewN | apply Kd.R_drew)); exact HO447.out))) (keep_size (w := w) (g := g) (row := none) (by repeat (first | (with_reducible first | exact HK.out | apply KeepBut.set_ | apply keep_drewN | apply keep_drew | apply keep_alloc) | exact HK.out)))); have n2_ := Aside0.mk (IsS71.below (by repeat (first | (with_reducible first | exact HI0.out | apply IsS71.alloc | apply IsS71.drewN | apply IsS71.drew | apply IsS71.set_1) | exact HI0.out)) hb); have n3_ := Aside0.mk (KeepBut.trans (by repeat (first | (with_reducible first | exact HK.out | apply KeepBut.set_ | apply keep_drewN | apply keep_drew | apply keep_alloc) | exact HK.out)) (KeepBut.of_below hb g none) (.inl rfl)); have n4_ := Aside0.mk (below_step (by repeat (first | (with_reducible first | exact HB.out | apply below_alloc | apply pw_below_drewN | apply below_drew1 | refine below_set ?_ (IsS71.ge HI0.out)) | exact HB.out)) hb); clear HO447; clear HI0; clear HK; clear HB; have HO447 := n0_; have HO453 := n1_; have HI0 := n2_; have HK := n3_; have HB := n4_; clear n0_ n1_ n2_ n3_ n4_; clear hb ho10; obtain ⟨Ao11, co11, eo11⟩ := Kd.R_slice HO453.out; subst eo11) | ((with_reducible refine gate_callee (f := 70) rfl ?_); refine goesL_ (some 13) rfl rfl Try.func70 (by kernel_rfl) rfl #[.pointer (some ⟨g, 0, none⟩), .slice Ao11 y451.length co11] rfl (by (try simp only [List.map_toArray, List.map_cons, List.map_nil]); first | done | rfl | (simp only [List.length_drop, List.length_take]; rfl)) ?_; (with_reducible refine (spec_l1Rd_one.calls k g s0_0 t450 _ _ y451 t454 t455 w0 _ ?side1 ?side2 ?side3 ?side4 ?side5 A5.out).mono ?_); (case side1 => repeat (first | (with_reducible first | exact HI0.out | apply IsS71.alloc | apply IsS71.drewN | apply IsS71.drew | apply IsS71.set_1) | exact HI0.out)); (case side2 => repeat (first | (with_reducible first | exact HB.out | apply below_alloc | apply pw_below_drewN | apply below_drew1 | refine below_set ?_ (IsS71.ge HI0.out)) | exact HB.out)); (case side3 => repeat (first | exact (Kd.R_reads' HO453.out).2.2 | (with_reducible refine Kd.C_alloc ?_ _) | (with_reducible refine Kd.C_drewN ?_ _) | (with_reducible refine Kd.C_drew ?_))); (case side4 => exact (Kd.R_reads' HO453.out).2.1); (case side5 => exact far_slice (IsS71.own_ne HI0.out HO453.out (by decide))); rintro e w12 ⟨rfl, hi, hb, hk⟩; refine ⟨_, rfl, ?_⟩; have n0_ := Aside0.mk (Kd.R_mono (Kd.R_keep (IsS71.apart (show IsS71 w0 _ g s0_0 t450 from by repeat (first | (with_reducible first | exact HI0.out | apply IsS71.alloc | apply IsS71.drewN | apply IsS71.drew | apply IsS71.set_1) | exact HI0.out)) (by (with_reducible repeat (first | apply Kd.R_alloc | apply Kd.R_drewN | apply Kd.R_drew)); exact HO447.out) (by decide)) hk (fun _ h => h.2)) (fun _ h => h.1)); have n1_ := Aside0.mk (Kd.R_mono (Kd.R_keep (IsS71.apart (show IsS71 w0 _ g s0_0 t450 from by repeat (first | (with_reducible first | exact HI0.out | apply IsS71.alloc | apply IsS71.drewN | apply IsS71.drew | apply IsS71.set_1) | exact HI0.out)) (by (with_reducible repeat (first | apply Kd.R_alloc | apply Kd.R_drewN | apply Kd.R_drew)); exact HO453.out) (by decide)) hk (fun _ h => h.2)) (fun _ h => h.1)); have n2_ := Aside0.mk (KeepBut.trans (by repeat (first | (with_reducible first | exact HK.out | apply KeepBut.set_ | apply keep_drewN | apply keep_drew | apply keep_alloc) | exact HK.out)) hk (.inl rfl)); have n3_ := Aside0.mk (hb); have n4_ := Aside0.mk (hi); clear HO447; clear HO453; clear HK; clear HB; clear HI0; have HO447 := n0_; have HO453 := n1_; have HK := n2_; have HB := n3_; have HI0 := n4_; clear n0_ n1_ n2_ n3_ n4_; (try clear hb); (try clear hb2); (try clear hk); (try clear hi)) | ((with_reducible refine gate_builtin (b := .append) (xs := #[.tmp 10, .tmp 14]) rfl ?_); at_builtin; refine Kd.R_append (Kd.int .i64) w.heap.size rfl (.tmp 10) (.tmp 14) 22 3 (.int .i64 0) 8 rfl Try.underlying22 info3 rfl (by decide) (by omega) v446 t445 t454 [.int .i64 t454] (fun k_ => some k_ ≠ (.slice Ao11 y451.length co11 : Value).ownBlock) (fun _ => False) rfl rfl ?aP (fun _ hk => hk.elim) ?aF ?aO (Below.refl _ _) ?aS ?aL ?_; (case aP => exact rfl); (case aF => exact (fun k_ hk => Kd.fresh' (Kd.R_lt (by (with_reducible repeat (first | apply Kd.R_alloc | apply Kd.R_drewN | apply Kd.R_drew)); exact HO453.out)) k_ hk)); (case aO => exact (by (with_reducible repeat (first | apply Kd.R_alloc | apply Kd.R_drewN | apply Kd.R_drew)); exact Kd.R_mono HO447.out (fun _ hk => hk.2))); (case aS => exact (keep_size (w := w) (g := g) (row := none) (by repeat (first | (with_reducible first | exact HK.out | apply KeepBut.set_ | apply keep_drewN | apply keep_drew | apply keep_alloc) | exact HK.out)))); (case aL => have := LMc6.out; omega); intro v457 w13 ho hb hg hat; rw [← Ny456.out] at ho; have n0_ := Aside0.mk (IsS71.grown (by repeat (first | (with_reducible first | exact HI0.out | apply IsS71.alloc | apply IsS71.drewN | apply IsS71.drew | apply IsS71.set_1) | exact HI0.out)) hg (IsS71.own_ne HI0.out HO447.out (by decide))); have n1_ := Aside0.mk (Kd.R_after (ok := (fun _ => True)) (by (with_reducible repeat (first | apply Kd.R_alloc | apply Kd.R_drewN | apply Kd.R_drew)); exact HO453.out) hg hat); have n2_ := Aside0.mk (below_weaken (by repeat (first | (with_reducible first | exact HB.out | apply below_alloc | apply pw_below_drewN | apply below_drew1 | refine below_set ?_ (IsS71.ge HI0.out)) | exact HB.out)) HL.out hb); have n3_ := Aside0.mk (KeepBut.trans (by repeat (first | (with_reducible first | exact HK.out | apply KeepBut.set_ | apply keep_drewN | apply keep_drew | apply keep_alloc) | exact HK.out)) (KeepBut.of_grown hg g) (Kd.R_base2 HO447.out)); have n4_ := Aside0.mk (ho); clear HI0; clear HO453; clear HB; clear HK; clear HO447; have HI0 := n0_; have HO453 := n1_; have HB := n2_; have HK := n3_; have HO458 := n4_; clear n0_ n1_ n2_ n3_ n4_; clear ho hb hg hat))
      go_ret
      exact ⟨_, by first | rfl | (simp [errW_none, errW_some] <;> rfl) | (simp [*, errW_none, errW_some] <;> rfl), by (with_reducible repeat (first | apply Kd.R_alloc | apply Kd.R_drewN | apply Kd.R_drew)); exact Kd.R_mono HO458.out (fun _ hk => trivial), by repeat (first | (with_reducible first | exact HI0.out | apply IsS71.alloc | apply IsS71.drewN | apply IsS71.drew | apply IsS71.set_1) | exact HI0.out), by repeat (first | (with_reducible first | exact HB.out | apply below_alloc | apply pw_below_drewN | apply below_drew1 | refine below_set ?_ (IsS71.ge HI0.out)) | exact HB.out), by repeat (first | (with_reducible first | exact HK.out | apply KeepBut.set_ | apply keep_drewN | apply keep_drew | apply keep_alloc) | exact HK.out)⟩
    · rw [if_neg c6] at H
      exact absurd H (by simp)
  · rw [if_neg c4] at H
    have c4b0 : (t449 == 0) = false := beq_eq_false_iff_ne.mpr c4
    have c4b1 : (t449 != 0) = true := bne_iff_ne.mpr c4
    by_cases c14 : t449 = 1
    · rw [if_pos c14] at H
      have c14b0 : (t449 == 1) = true := beq_iff_eq.mpr c14
      have c14b1 : (t449 != 1) = false := bne_eq_false_iff_eq.mpr c14
      clear c14
      have H' := Aside0.mk H
      clear H
      go_enter Try.func51, Try.ntmps51
      go_wp2_with (first | ((with_reducible refine gate_callee (f := 79) rfl ?_); refine goesL_ (some 5) rfl rfl Try.func79 (by kernel_rfl) rfl #[.pointer (some ⟨g, 0, none⟩)] rfl (by (try simp only [List.map_toArray, List.map_cons, List.map_nil]); first | done | rfl | (simp only [List.length_drop, List.length_take]; rfl)) ?_; (with_reducible refine (spec_l13Runes.calls k g s0_0 s0_1 t445 t448 w0 _ ?side1 ?side2 A2.out).mono ?_); (case side1 => repeat (first | (with_reducible first | exact HI0.out | apply IsS71.alloc | apply IsS71.drewN | apply IsS71.drew | apply IsS71.set_1) | exact HI0.out)); (case side2 => repeat (first | (with_reducible first | exact HB.out | apply below_alloc | apply pw_below_drewN | apply below_drew1 | refine below_set ?_ (IsS71.ge HI0.out)) | exact HB.out)); rintro e w15 ⟨v446, rfl, ho0, hi, hb, hk⟩; refine ⟨_, rfl, ?_⟩; have n0_ := Aside0.mk (Kd.R_lower ho0 (keep_size (w := w) (g := g) (row := none) (by repeat (first | (with_reducible first | exact HK.out | apply KeepBut.set_ | apply keep_drewN | apply keep_drew | apply keep_alloc) | exact HK.out)))); have n1_ := Aside0.mk (KeepBut.trans (by repeat (first | (with_reducible first | exact HK.out | apply KeepBut.set_ | apply keep_drewN | apply keep_drew | apply keep_alloc) | exact HK.out)) hk (.inl rfl)); have n2_ := Aside0.mk (hb); have n3_ := Aside0.mk (hi); clear HK; clear HB; clear HI0; have HO447 := n0_; have HK := n1_; have HB := n2_; have HI0 := n3_; clear n0_ n1_ n2_ n3_; (try clear hb); (try clear hb2); (try clear hk); (try clear hi); (try clear ho0)) | ((with_reducible refine gate_callee (f := 44) rfl ?_); refine goesL_ (some 7) rfl rfl Try.func44 (by kernel_rfl) rfl #[.pointer (some ⟨g, 0, none⟩), .int .i64 24] rfl (by (try simp only [List.map_toArray, List.map_cons, List.map_nil]); first | done | rfl | (simp only [List.length_drop, List.length_take]; rfl)) ?_; (with_reducible refine (spec_l1Rd_pick.calls k g s0_0 t448 24 t449 t450 w0 _ ?side1 ?side2 A3.out).mono ?_); (case side1 => repeat (first | (with_reducible first | exact HI0.out | apply IsS71.alloc | apply IsS71.drewN | apply IsS71.drew | apply IsS71.set_1) | exact HI0.out)); (case side2 => repeat (first | (with_reducible first | exact HB.out | apply below_alloc | apply pw_below_drewN | apply below_drew1 | refine below_set ?_ (IsS71.ge HI0.out)) | exact HB.out)); rintro e w16 ⟨rfl, hi, hb, hk⟩; refine ⟨_, rfl, ?_⟩; have n0_ := Aside0.mk (Kd.R_mono (Kd.R_keep (IsS71.apart (show IsS71 w0 _ g s0_0 t448 from by repeat (first | (with_reducible first | exact HI0.out | apply IsS71.alloc | apply IsS71.drewN | apply IsS71.drew | apply IsS71.set_1) | exact HI0.out)) (by (with_reducible repeat (first | apply Kd.R_alloc | apply Kd.R_drewN | apply Kd.R_drew)); exact HO447.out) (by decide)) hk (fun _ h => h.2)) (fun _ h => h.1)); have n1_ := Aside0.mk (KeepBut.trans (by repeat (first | (with_reducible first | exact HK.out | apply KeepBut.set_ | apply keep_drewN | apply keep_drew | apply keep_alloc) | exact HK.out)) hk (.inl rfl)); have n2_ := Aside0.mk (hb); have n3_ := Aside0.mk (hi); clear HO447; clear HK; clear HB; clear HI0; have HO447 := n0_; have HK := n1_; have HB := n2_; have HI0 := n3_; clear n0_ n1_ n2_ n3_; (try clear hb); (try clear hb2); (try clear hk); (try clear hi)))
      go_loopg [3] k (fun kq v3 w' => ∃ (x3_1 : List Int), Aside0 (spec_l13Any.l0 kq x3_1 s0_0 t450 = some (r1, r2)) ∧ Aside0 (kq ≤ k) ∧ Aside0 (Kd.R (Kd.int .i64) 3 w' w.heap.size (fun _ => True) v3 x3_1) ∧ Aside0 (IsS71 w0 w' g s0_0 t450) ∧ Aside0 (KeepBut w w' g none) ∧ Aside0 (Below w0.heap.size w0 w'))
      case atStart => exact ⟨(t445), H', ⟨Nat.le_refl _⟩, ⟨by (with_reducible repeat (first | apply Kd.R_alloc | apply Kd.R_drewN | apply Kd.R_drew)); exact HO447.out⟩, ⟨by repeat (first | (with_reducible first | exact HI0.out | apply IsS71.alloc | apply IsS71.drewN | apply IsS71.drew | apply IsS71.set_1) | exact HI0.out)⟩, ⟨by repeat (first | (with_reducible first | exact HK.out | apply KeepBut.set_ | apply keep_drewN | apply keep_drew | apply keep_alloc) | exact HK.out)⟩, ⟨by repeat (first | (with_reducible first | exact HB.out | apply below_alloc | apply pw_below_drewN | apply below_drew1 | refine below_set ?_ (IsS71.ge HI0.out)) | exact HB.out)⟩⟩
      case round =>
        clear H'
        try clear c1
        try clear p2
        try clear c4
        try clear c4b0
        try clear c4b1
        try clear c5
        try clear c6
        try clear c7
        try clear c14
        try clear c14b0
        try clear c14b1
        obtain ⟨x3_1, HA, HK1, HO_3, HI0, HK, HB⟩ := hrel
        cases gk with
        | zero => exact absurd HA.out (by simp [spec_l13Any.l0])
        | succ k1 =>
          have H := HA.out
          clear HA
          simp only [spec_l13Any.l0] at H
          by_cases c17 : (x3_1.length : Int) ≤ 80
          · rw [if_pos c17] at H
            have c17b0 : decide ((x3_1.length : Int) ≤ 80) = true := decide_eq_true c17
            have c17b1 : decide (x3_1.length ≤ 80) = true := decide_eq_true (by omega)
            clear c17
            by_cases c18 : x3_1.length < 17592186044416
            · rw [if_pos c18] at H
              have LMc18 := Aside0.mk c18
              clear c18
              obtain ⟨y459, hy459⟩ : ∃ y_ : List Int, y_ = (x3_1 ++ [97]) := ⟨_, rfl⟩
              replace H : (spec_l13Any.l0 k1 y459 s0_0 t450) = some (r1, r2) := by first | (rw [hy459]; with_reducible exact H) | (have H2_ := (Option.bind_some _ _).symm.trans H; rw [hy459]; with_reducible exact H2_) | (have H2_ := (Option.bind_some _ _).symm.trans H; with_reducible exact H2_) | with_reducible exact H | (rw [hy459]; exact H) | exact H
              have Ny459 := Aside0.mk hy459
              clear hy459
              have H' := Aside0.mk H
              clear H
              obtain ⟨Ao19, co19, eo19⟩ := Kd.R_slice HO_3.out
              subst eo19
              go_wp2_with (first | ((with_reducible refine gate_builtin (b := .append) (xs := #[.tmp 21, .tmp 22]) rfl ?_); at_builtin; refine Kd.R_append (Kd.int .i64) w.heap.size rfl (.tmp 21) (.tmp 22) 22 3 (.int .i64 0) 8 rfl Try.underlying22 info3 rfl (by decide) (by omega) (.slice Ao19 x3_1.length co19) x3_1 97 [.int .i64 97] (fun _ => True) (fun _ => False) rfl rfl ?aP (fun _ hk => hk.elim) ?aF ?aO (Below.refl _ _) ?aS ?aL ?_; (case aP => exact rfl); (case aF => exact (fun _ _ => trivial)); (case aO => exact (by (with_reducible repeat (first | apply Kd.R_alloc | apply Kd.R_drewN | apply Kd.R_drew)); exact HO_3.out)); (case aS => exact (keep_size (w := w) (g := g) (row := none) (by repeat (first | (with_reducible first | exact HK.out | apply KeepBut.set_ | apply keep_drewN | apply keep_drew | apply keep_alloc) | exact HK.out)))); (case aL => have := LMc18.out; omega); intro v460 w20 ho hb hg hat; rw [← Ny459.out] at ho; have n0_ := Aside0.mk (IsS71.grown (by repeat (first | (with_reducible first | exact HI0.out | apply IsS71.alloc | apply IsS71.drewN | apply IsS71.drew | apply IsS71.set_1) | exact HI0.out)) hg (IsS71.own_ne HI0.out HO_3.out (by decide))); have n1_ := Aside0.mk (below_weaken (by repeat (first | (with_reducible first | exact HB.out | apply below_alloc | apply pw_below_drewN | apply below_drew1 | refine below_set ?_ (IsS71.ge HI0.out)) | exact HB.out)) HL.out hb); have n2_ := Aside0.mk (KeepBut.trans (by repeat (first | (with_reducible first | exact HK.out | apply KeepBut.set_ | apply keep_drewN | apply keep_drew | apply keep_alloc) | exact HK.out)) (KeepBut.of_grown hg g) (Kd.R_base2 HO_3.out)); have n3_ := Aside0.mk (ho); clear HI0; clear HB; clear HK; clear HO_3; have HI0 := n0_; have HB := n1_; have HK := n2_; have HO461 := n3_; clear n0_ n1_ n2_ n3_; clear ho hb hg hat))
              go_roundg k1
              case measure => have := HK1.out; omega
              case rel => exact ⟨(y459), H', ⟨by have := HK1.out; omega⟩, ⟨by (with_reducible repeat (first | apply Kd.R_alloc | apply Kd.R_drewN | apply Kd.R_drew)); exact HO461.out⟩, ⟨by repeat (first | (with_reducible first | exact HI0.out | apply IsS71.alloc | apply IsS71.drewN | apply IsS71.drew | apply IsS71.set_1) | exact HI0.out)⟩, ⟨by repeat (first | (with_reducible first | exact HK.out | apply KeepBut.set_ | apply keep_drewN | apply keep_drew | apply keep_alloc) | exact HK.out)⟩, ⟨by repeat (first | (with_reducible first | exact HB.out | apply below_alloc | apply pw_below_drewN | apply below_drew1 | refine below_set ?_ (IsS71.ge HI0.out)) | exact HB.out)⟩⟩
            · rw [if_neg c18] at H
              exact absurd H (by simp)
          · rw [if_neg c17] at H
            have c17b0 : decide ((x3_1.length : Int) ≤ 80) = false := decide_eq_false c17
            have c17b1 : decide (x3_1.length ≤ 80) = false := decide_eq_false (by omega)
            clear c17
            simp only [Option.some.injEq, Prod.mk.injEq] at H
            obtain ⟨rfl, rfl⟩ := H
            obtain ⟨Ao21, co21, eo21⟩ := Kd.R_slice HO_3.out
            subst eo21
            go_wp2
            go_ret
            exact ⟨_, by first | rfl | (simp [errW_none, errW_some] <;> rfl) | (simp [*, errW_none, errW_some] <;> rfl), by (with_reducible repeat (first | apply Kd.R_alloc | apply Kd.R_drewN | apply Kd.R_drew)); exact HO_3.out, by repeat (first | (with_reducible first | exact HI0.out | apply IsS71.alloc | apply IsS71.drewN | apply IsS71.drew | apply IsS71.set_1) | exact HI0.out), by repeat (first | (with_reducible first | exact HB.out | apply below_alloc | apply pw_below_drewN | apply below_drew1 | refine below_set ?_ (IsS71.ge HI0.out)) | exact HB.out), by repeat (first | (with_reducible first | exact HK.out | apply KeepBut.set_ | apply keep_drewN | apply keep_drew | apply keep_alloc) | exact HK.out)⟩
    · rw [if_neg c14] at H
      have c14b0 : (t449 == 1) = false := beq_eq_false_iff_ne.mpr c14
      have c14b1 : (t449 != 1) = true := bne_iff_ne.mpr c14
      simp only [Option.some.injEq, Prod.mk.injEq] at H
      obtain ⟨rfl, rfl⟩ := H
      go_enter Try.func51, Try.ntmps51
      go_wp2_with (first | ((with_reducible refine gate_callee (f := 79) rfl ?_); refine goesL_ (some 5) rfl rfl Try.func79 (by kernel_rfl) rfl #[.pointer (some ⟨g, 0, none⟩)] rfl (by (try simp only [List.map_toArray, List.map_cons, List.map_nil]); first | done | rfl | (simp only [List.length_drop, List.length_take]; rfl)) ?_; (with_reducible refine (spec_l13Runes.calls k g s0_0 s0_1 t445 t448 w0 _ ?side1 ?side2 A2.out).mono ?_); (case side1 => repeat (first | (with_reducible first | exact HI0.out | apply IsS71.alloc | apply IsS71.drewN | apply IsS71.drew | apply IsS71.set_1) | exact HI0.out)); (case side2 => repeat (first | (with_reducible first | exact HB.out | apply below_alloc | apply pw_below_drewN | apply below_drew1 | refine below_set ?_ (IsS71.ge HI0.out)) | exact HB.out)); rintro e w22 ⟨v446, rfl, ho0, hi, hb, hk⟩; refine ⟨_, rfl, ?_⟩; have n0_ := Aside0.mk (Kd.R_lower ho0 (keep_size (w := w) (g := g) (row := none) (by repeat (first | (with_reducible first | exact HK.out | apply KeepBut.set_ | apply keep_drewN | apply keep_drew | apply keep_alloc) | exact HK.out)))); have n1_ := Aside0.mk (KeepBut.trans (by repeat (first | (with_reducible first | exact HK.out | apply KeepBut.set_ | apply keep_drewN | apply keep_drew | apply keep_alloc) | exact HK.out)) hk (.inl rfl)); have n2_ := Aside0.mk (hb); have n3_ := Aside0.mk (hi); clear HK; clear HB; clear HI0; have HO447 := n0_; have HK := n1_; have HB := n2_; have HI0 := n3_; clear n0_ n1_ n2_ n3_; (try clear hb); (try clear hb2); (try clear hk); (try clear hi); (try clear ho0)) | ((with_reducible refine gate_callee (f := 44) rfl ?_); refine goesL_ (some 7) rfl rfl Try.func44 (by kernel_rfl) rfl #[.pointer (some ⟨g, 0, none⟩), .int .i64 24] rfl (by (try simp only [List.map_toArray, List.map_cons, List.map_nil]); first | done | rfl | (simp only [List.length_drop, List.length_take]; rfl)) ?_; (with_reducible refine (spec_l1Rd_pick.calls k g s0_0 t448 24 t449 t450 w0 _ ?side1 ?side2 A3.out).mono ?_); (case side1 => repeat (first | (with_reducible first | exact HI0.out | apply IsS71.alloc | apply IsS71.drewN | apply IsS71.drew | apply IsS71.set_1) | exact HI0.out)); (case side2 => repeat (first | (with_reducible first | exact HB.out | apply below_alloc | apply pw_below_drewN | apply below_drew1 | refine below_set ?_ (IsS71.ge HI0.out)) | exact HB.out)); rintro e w23 ⟨rfl, hi, hb, hk⟩; refine ⟨_, rfl, ?_⟩; have n0_ := Aside0.mk (Kd.R_mono (Kd.R_keep (IsS71.apart (show IsS71 w0 _ g s0_0 t448 from by repeat (first | (with_reducible first | exact HI0.out | apply IsS71.alloc | apply IsS71.drewN | apply IsS71.drew | apply IsS71.set_1) | exact HI0.out)) (by (with_reducible repeat (first | apply Kd.R_alloc | apply Kd.R_drewN | apply Kd.R_drew)); exact HO447.out) (by decide)) hk (fun _ h => h.2)) (fun _ h => h.1)); have n1_ := Aside0.mk (KeepBut.trans (by repeat (first | (with_reducible first | exact HK.out | apply KeepBut.set_ | apply keep_drewN | apply keep_drew | apply keep_alloc) | exact HK.out)) hk (.inl rfl)); have n2_ := Aside0.mk (hb); have n3_ := Aside0.mk (hi); clear HO447; clear HK; clear HB; clear HI0; have HO447 := n0_; have HK := n1_; have HB := n2_; have HI0 := n3_; clear n0_ n1_ n2_ n3_; (try clear hb); (try clear hb2); (try clear hk); (try clear hi)))
      go_ret
      exact ⟨_, by first | rfl | (simp [errW_none, errW_some] <;> rfl) | (simp [*, errW_none, errW_some] <;> rfl), by (with_reducible repeat (first | apply Kd.R_alloc | apply Kd.R_drewN | apply Kd.R_drew)); exact HO447.out, by repeat (first | (with_reducible first | exact HI0.out | apply IsS71.alloc | apply IsS71.drewN | apply IsS71.drew | apply IsS71.set_1) | exact HI0.out), by repeat (first | (with_reducible first | exact HB.out | apply below_alloc | apply pw_below_drewN | apply below_drew1 | refine below_set ?_ (IsS71.ge HI0.out)) | exact HB.out), by repeat (first | (with_reducible first | exact HK.out | apply KeepBut.set_ | apply keep_drewN | apply keep_drew | apply keep_alloc) | exact HK.out)⟩
end Go.Proofs.Ytojehfdioeglgaa.S
namespace Go.Proofs.Ytojehfdioeglgaa.S
open Go.RowKit Go.Proofs.YtojehfdioeglgaaW.PrintWords Go.Proofs.YtojehfdioeglgaaW.PrintLast Go.Proofs.YtojehfdioeglgaaW.PrintMore
attribute [local go_sem] max2_int min2_int max_two min_two max_three min_three max_four min_four   -- for this text's walks alone
set_option linter.unusedVariables false
set_option linter.unusedSimpArgs false
def spec_l13Base.f (k : Nat) (s0_0 : List Int) (s0_1 : Int) : Option (Int × Int) := (some (([0, 1, 0, 1, 2, (-1)] : List Int) : List Int)).bind fun y462 => ((spec_l1Rd_pick.f k s0_0 s0_1 18).bind fun bt465 => (if 0 ≤ (wrap64 (Int.tdiv (wrap64 (bt465.1 * 6)) 18)) then (if (wrap64 (Int.tdiv (wrap64 (bt465.1 * 6)) 18)) < (y462.length : Int) then (some (rd y462 (wrap64 (Int.tdiv (wrap64 (bt465.1 * 6)) 18)), bt465.2)) else (none)) else (none)))
theorem spec_l13Base.mono : ∀ a0 a1 k, LeO (spec_l13Base.f k a0 a1) (spec_l13Base.f (k + 1) a0 a1) := by
  intro a0 a1 k
  unfold spec_l13Base.f
  repeat' first
      | (with_reducible exact spec_l1Rd_pick.mono _ _ _ _)
      | (with_reducible exact LeO.refl _)
      | (with_reducible exact LeO.none _)
      | (with_reducible refine LeO.ite ?_ ?_)
      | (with_reducible refine LeO.bind ?_ (fun _ => ?_))
      | exact spec_l1Rd_pick.mono _ _ _ _
      | exact LeO.none _
      | refine LeO.ite ?_ ?_
      | refine LeO.bind ?_ (fun _ => ?_)
set_option maxHeartbeats 8000000 in
set_option maxRecDepth 100000 in
theorem spec_l13Base.calls (k : Nat) (g : Nat) (s0_0 : List Int) (s0_1 : Int) (r1 : Int) (r2 : Int) (w0 w : World) (hI : IsS71 w0 w g s0_0 s0_1) (hB : Below w0.heap.size w0 w) (h : spec_l13Base.f k s0_0 s0_1 = some (r1, r2)) :
    Calls Try.prog 52 #[.pointer (some ⟨g, 0, none⟩)] w fun e w' => e = .returned (.int .i64 r1) ∧ IsS71 w0 w' g s0_0 r2 ∧ Below w0.heap.size w0 w' ∧ KeepBut w w' g none := by
  have HI0 := Aside0.mk hI
  have HK := Aside0.mk (KeepBut.refl w g none)
  have HL := Aside0.mk hB.size
  clear hI
  have HW0 := Aside0.mk hB.size
  have HB := Aside0.mk hB
  clear hB
  have H : ((some (([0, 1, 0, 1, 2, (-1)] : List Int) : List Int)).bind fun y462 => ((spec_l1Rd_pick.f k s0_0 s0_1 18).bind fun bt465 => (if 0 ≤ (wrap64 (Int.tdiv (wrap64 (bt465.1 * 6)) 18)) then (if (wrap64 (Int.tdiv (wrap64 (bt465.1 * 6)) 18)) < (y462.length : Int) then (some (rd y462 (wrap64 (Int.tdiv (wrap64 (bt465.1 * 6)) 18)), bt465.2)) else (none)) else (none)))) = some (r1, r2) := h
  clear h
  obtain ⟨y462, hy462⟩ : ∃ y_ : List Int, y_ = (([0, 1, 0, 1, 2, (-1)] : List Int)) := ⟨_, rfl⟩
  replace H : ((spec_l1Rd_pick.f k s0_0 s0_1 18).bind fun bt465 => (if 0 ≤ (wrap64 (Int.tdiv (wrap64 (bt465.1 * 6)) 18)) then (if (wrap64 (Int.tdiv (wrap64 (bt465.1 * 6)) 18)) < (y462.length : Int) then (some (rd y462 (wrap64 (Int.tdiv (wrap64 (bt465.1 * 6)) 18)), bt465.2)) else (none)) else (none))) = some (r1, r2) := by first | (rw [hy462]; with_reducible exact H) | (have H2_ := (Option.bind_some _ _).symm.trans H; rw [hy462]; with_reducible exact H2_) | (have H2_ := (Option.bind_some _ _).symm.trans H; with_reducible exact H2_) | with_reducible exact H | (rw [hy462]; exact H) | exact H
  have Ny462 := Aside0.mk hy462
  clear hy462
  replace H := Option.bind_eq_some_iff.mp H
  obtain ⟨⟨t465, t466⟩, A20, H⟩ := H
  replace H : (if 0 ≤ (wrap64 (Int.tdiv (wrap64 (t465 * 6)) 18)) then (if (wrap64 (Int.tdiv (wrap64 (t465 * 6)) 18)) < (y462.length : Int) then (some (rd y462 (wrap64 (Int.tdiv (wrap64 (t465 * 6)) 18)), t466)) else (none)) else (none)) = some (r1, r2) := H
  have A2 := Aside0.mk A20
  clear A20
  obtain ⟨ji3, hji3⟩ : ∃ j_ : Int, (wrap64 (Int.tdiv (wrap64 (t465 * 6)) 18)) = j_ := ⟨_, rfl⟩
  replace H : (if 0 ≤ (ji3) then (if (ji3) < (y462.length : Int) then (some (rd y462 (ji3), t466)) else (none)) else (none)) = some (r1, r2) := by first | (rw [hji3] at H; exact H) | (simp only [hji3] at H ⊢; exact H)
  (try rw [hji3] at A2)
  have hji3w : (IntKind.i64.wrap (Int.tdiv (wrap64 (t465 * 6)) 18)) = ji3 := (i64_w _).trans hji3
  by_cases c4 : 0 ≤ (ji3)
  · rw [if_pos c4] at H
    have c4b0 : decide (0 ≤ (ji3)) = true := decide_eq_true c4
    clear c4
    by_cases c5 : (ji3) < (y462.length : Int)
    · rw [if_pos c5] at H
      have c5b0 : decide ((ji3) < (y462.length : Int)) = true := decide_eq_true c5
      clear c5
      simp only [Option.some.injEq, Prod.mk.injEq] at H
      obtain ⟨rfl, rfl⟩ := H
      go_enter Try.func52, Try.ntmps52
      go_wp2_with (first | ((with_reducible refine gate_dst (N := 3) rfl ?_); refine Kd.R_lit (Kd.int .i64) _ 3 ?hg (N := 3) ?hd (xs := ([0, 1, 0, 1, 2, (-1)] : List Int)) (inner := [.int .i64 0, .int .i64 1, .int .i64 0, .int .i64 1, .int .i64 2, .int .i64 (-1)]) (ok := fun _ => True) (okp := fun _ => True) ?hr ?hp (fun _ hk => hk) trivial (Below.refl _ _) (Nat.le_refl _) (by simp) ?_; (case hd => rfl); (case hg => rfl); (case hr => first | (go_simp; done) | (go_simp; rfl)); (case hp => exact (Reps.one (show Kd.M (Kd.int .i64) _ _ _ 0 [.int .i64 0] from rfl) (Reps.one (show Kd.M (Kd.int .i64) _ _ _ 1 [.int .i64 1] from rfl) (Reps.one (show Kd.M (Kd.int .i64) _ _ _ 0 [.int .i64 0] from rfl) (Reps.one (show Kd.M (Kd.int .i64) _ _ _ 1 [.int .i64 1] from rfl) (Reps.one (show Kd.M (Kd.int .i64) _ _ _ 2 [.int .i64 2] from rfl) (Reps.one (show Kd.M (Kd.int .i64) _ _ _ (-1) [.int .i64 (-1)] from rfl) (Reps.none _ _)))))))); intro v463 w6 ho7 hb hg_ hnew_; clear hg_ hnew_; (first | rw [← Ny462.out] at ho7 | (simp only [Int.reduceToNat] at ho7; rw [← Ny462.out] at ho7)); have n0_ := Aside0.mk (Kd.R_lower ho7 (keep_size (w := w) (g := g) (row := none) (by repeat (first | (with_reducible first | exact HK.out | apply KeepBut.set_ | apply keep_drewN | apply keep_drew | apply keep_alloc) | exact HK.out)))); have n1_ := Aside0.mk (IsS71.below (by repeat (first | (with_reducible first | exact HI0.out | apply IsS71.alloc | apply IsS71.drewN | apply IsS71.drew | apply IsS71.set_1) | exact HI0.out)) hb); have n2_ := Aside0.mk (KeepBut.trans (by repeat (first | (with_reducible first | exact HK.out | apply KeepBut.set_ | apply keep_drewN | apply keep_drew | apply keep_alloc) | exact HK.out)) (KeepBut.of_below hb g none) (.inl rfl)); have n3_ := Aside0.mk (below_step (by repeat (first | (with_reducible first | exact HB.out | apply below_alloc | apply pw_below_drewN | apply below_drew1 | refine below_set ?_ (IsS71.ge HI0.out)) | exact HB.out)) hb); clear HI0; clear HK; clear HB; have HO464 := n0_; have HI0 := n1_; have HK := n2_; have HB := n3_; clear n0_ n1_ n2_ n3_; clear hb ho7) | ((with_reducible refine gate_callee (f := 44) rfl ?_); refine goesL_ (some 5) rfl rfl Try.func44 (by kernel_rfl) rfl #[.pointer (some ⟨g, 0, none⟩), .int .i64 18] rfl (by (try simp only [List.map_toArray, List.map_cons, List.map_nil]); first | done | rfl | (simp only [List.length_drop, List.length_take]; rfl)) ?_; (with_reducible refine (spec_l1Rd_pick.calls k g s0_0 s0_1 18 t465 t466 w0 _ ?side1 ?side2 A2.out).mono ?_); (case side1 => repeat (first | (with_reducible first | exact HI0.out | apply IsS71.alloc | apply IsS71.drewN | apply IsS71.drew | apply IsS71.set_1) | exact HI0.out)); (case side2 => repeat (first | (with_reducible first | exact HB.out | apply below_alloc | apply pw_below_drewN | apply below_drew1 | refine below_set ?_ (IsS71.ge HI0.out)) | exact HB.out)); rintro e w8 ⟨rfl, hi, hb, hk⟩; refine ⟨_, rfl, ?_⟩; have n0_ := Aside0.mk (Kd.R_mono (Kd.R_keep (IsS71.apart (show IsS71 w0 _ g s0_0 s0_1 from by repeat (first | (with_reducible first | exact HI0.out | apply IsS71.alloc | apply IsS71.drewN | apply IsS71.drew | apply IsS71.set_1) | exact HI0.out)) (by (with_reducible repeat (first | apply Kd.R_alloc | apply Kd.R_drewN | apply Kd.R_drew)); exact HO464.out) (by decide)) hk (fun _ h => h.2)) (fun _ h => h.1)); have n1_ := Aside0.mk (KeepBut.trans (by repeat (first | (with_reducible first | exact HK.out | apply KeepBut.set_ | apply keep_drewN | apply keep_drew | apply keep_alloc) | exact HK.out)) hk (.inl rfl)); have n2_ := Aside0.mk (hb); have n3_ := Aside0.mk (hi); clear HO464; clear HK; clear HB; clear HI0; have HO464 := n0_; have HK := n1_; have HB := n2_; have HI0 := n3_; clear n0_ n1_ n2_ n3_; (try clear hb); (try clear hb2); (try clear hk); (try clear hi); obtain ⟨Ao9, co9, eo9⟩ := Kd.R_slice HO464.out; subst eo9; have p467 : 0 ≤ ((ji3) : Int) := of_decide_eq_true (by first | (with_reducible assumption) | assumption); have q467 : (ji3) < (y462.length : Int) := of_decide_eq_true (by first | (with_reducible assumption) | assumption); obtain ⟨ad467, e467, hx467_0⟩ := Kd.at_int (Kd.R_reads' HO464.out).2.2 (ji3) p467 q467; cases e467; replace p467 := eq_true p467; replace q467 := eq_true q467))
      go_ret
      exact ⟨by first | rfl | (simp [errW_none, errW_some] <;> rfl) | (simp only [← hji3]; first | rfl | (simp [errW_none, errW_some] <;> rfl)) | (simp [*, errW_none, errW_some] <;> rfl), by repeat (first | (with_reducible first | exact HI0.out | apply IsS71.alloc | apply IsS71.drewN | apply IsS71.drew | apply IsS71.set_1) | exact HI0.out), by repeat (first | (with_reducible first | exact HB.out | apply below_alloc | apply pw_below_drewN | apply below_drew1 | refine below_set ?_ (IsS71.ge HI0.out)) | exact HB.out), by repeat (first | (with_reducible first | exact HK.out | apply KeepBut.set_ | apply keep_drewN | apply keep_drew | apply keep_alloc) | exact HK.out)⟩
    · rw [if_neg c5] at H
      exact absurd H (by simp)
  · rw [if_neg c4] at H
    exact absurd H (by simp)
end Go.Proofs.Ytojehfdioeglgaa.S
namespace Go.Proofs.Ytojehfdioeglgaa.S
open Go.RowKit Go.Proofs.YtojehfdioeglgaaW.PrintWords Go.Proofs.YtojehfdioeglgaaW.PrintLast Go.Proofs.YtojehfdioeglgaaW.PrintMore
attribute [local go_sem] max2_int min2_int max_two min_two max_three min_three max_four min_four   -- for this text's walks alone
set_option linter.unusedVariables false
set_option linter.unusedSimpArgs false
def spec_DrawLevelsTold.f (k : Nat) (l0 : List Int) : Option (List Int × Int) := (spec_l1Open.f l0).bind fun bt468 => ((spec_l13Any.f k bt468.1 bt468.2).bind fun bt471 => ((spec_l13Base.f k bt468.1 bt471.2).bind fun bt475 => (some (bt471.1, bt475.1))))
theorem spec_DrawLevelsTold.mono : ∀ a0 k, LeO (spec_DrawLevelsTold.f k a0) (spec_DrawLevelsTold.f (k + 1) a0) := by
  intro a0 k
  unfold spec_DrawLevelsTold.f
  repeat' first
      | (with_reducible exact spec_l13Any.mono _ _ _)
      | (with_reducible exact spec_l13Base.mono _ _ _)
      | (with_reducible exact LeO.refl _)
      | (with_reducible exact LeO.none _)
      | (with_reducible refine LeO.ite ?_ ?_)
      | (with_reducible refine LeO.bind ?_ (fun _ => ?_))
      | exact spec_l13Any.mono _ _ _
      | exact spec_l13Base.mono _ _ _
      | exact LeO.none _
      | refine LeO.ite ?_ ?_
      | refine LeO.bind ?_ (fun _ => ?_)
set_option maxHeartbeats 8000000 in
set_option maxRecDepth 100000 in
theorem spec_DrawLevelsTold.calls (k : Nat) (A0 : Option Addr) (c0 : Nat) (l0 : List Int) (r1 : List Int) (r2 : Int) (w : World) (hr0 : Kd.C (Kd.int .u8) w A0 l0.length l0) (hc0 : l0.length ≤ c0) (h : spec_DrawLevelsTold.f k l0 = some (r1, r2)) :
    Calls Try.prog 19 #[.slice A0 l0.length c0] w fun e w' => ∃ v0_ : Value, e = .returned (.tuple #[v0_, .int .i64 r2]) ∧ Kd.R (Kd.int .i64) 3 w' w.heap.size (fun _ => True) v0_ r1 ∧ Below w.heap.size w w' := by
  have HR0 := Aside0.mk hr0
  have HC0 := Aside0.mk hc0
  clear hr0 hc0
  have HB := Aside0.mk (Below.refl w.heap.size w)
  have H : ((spec_l1Open.f l0).bind fun bt468 => ((spec_l13Any.f k bt468.1 bt468.2).bind fun bt471 => ((spec_l13Base.f k bt468.1 bt471.2).bind fun bt475 => (some (bt471.1, bt475.1))))) = some (r1, r2) := h
  clear h
  replace H := Option.bind_eq_some_iff.mp H
  obtain ⟨⟨t468, t469⟩, A20, H⟩ := H
  replace H : ((spec_l13Any.f k t468 t469).bind fun bt471 => ((spec_l13Base.f k t468 bt471.2).bind fun bt475 => (some (bt471.1, bt475.1)))) = some (r1, r2) := H
  have A2 := Aside0.mk A20
  clear A20
  replace H := Option.bind_eq_some_iff.mp H
  obtain ⟨⟨t471, t474⟩, A30, H⟩ := H
  replace H : ((spec_l13Base.f k t468 t474).bind fun bt475 => (some (t471, bt475.1))) = some (r1, r2) := H
  have A3 := Aside0.mk A30
  clear A30
  replace H := Option.bind_eq_some_iff.mp H
  obtain ⟨⟨t475, t476⟩, A40, H⟩ := H
  replace H : (some (t471, t475)) = some (r1, r2) := H
  have A4 := Aside0.mk A40
  clear A40
  simp only [Option.some.injEq, Prod.mk.injEq] at H
  obtain ⟨rfl, rfl⟩ := H
  go_enter Try.func19, Try.ntmps19
  go_wp2_with (first | ((with_reducible refine gate_callee (f := 42) rfl ?_); refine goesL_ (some 6) rfl rfl Try.func42 (by kernel_rfl) rfl #[.slice A0 l0.length c0] rfl (by (try simp only [List.map_toArray, List.map_cons, List.map_nil]); first | done | rfl | (simp only [List.length_drop, List.length_take]; rfl)) ?_; (with_reducible refine (spec_l1Open.calls _ _ l0 t468 t469 w _ ?side1 ?side2 ?side3 A2.out).mono ?_); (case side1 => repeat (first | (with_reducible first | exact HB.out | apply below_alloc | apply pw_below_drewN | apply below_drew1) | exact HB.out)); (case side2 => exact HR0.out); (case side3 => exact HC0.out); rintro e w5 ⟨g470, rfl, hi, hb, hb2⟩; refine ⟨_, rfl, ?_⟩; have n0_ := Aside0.mk (hb); have n1_ := Aside0.mk (hi); clear HB; have HB := n0_; have HI470 := n1_; clear n0_ n1_; (try clear hb); (try clear hb2); (try clear hk); (try clear hi)) | ((with_reducible refine gate_callee (f := 51) rfl ?_); refine goesL_ (some 8) rfl rfl Try.func51 (by kernel_rfl) rfl #[.pointer (some ⟨g470, 0, none⟩)] rfl (by (try simp only [List.map_toArray, List.map_cons, List.map_nil]); first | done | rfl | (simp only [List.length_drop, List.length_take]; rfl)) ?_; (with_reducible refine (spec_l13Any.calls k g470 t468 t469 t471 t474 w _ ?side1 ?side2 A3.out).mono ?_); (case side1 => repeat (first | (with_reducible first | exact HI470.out | apply IsS71.alloc | apply IsS71.drewN | apply IsS71.drew | apply IsS71.set_1) | exact HI470.out)); (case side2 => repeat (first | (with_reducible first | exact HB.out | apply below_alloc | apply pw_below_drewN | apply below_drew1 | refine below_set ?_ (IsS71.ge HI470.out)) | exact HB.out)); rintro e w6 ⟨v472, rfl, ho0, hi, hb, hk⟩; refine ⟨_, rfl, ?_⟩; have n0_ := Aside0.mk (Kd.R_lower ho0 (below_size (by repeat (first | (with_reducible first | exact HB.out | apply below_alloc | apply pw_below_drewN | apply below_drew1 | refine below_set ?_ (IsS71.ge HI470.out)) | exact HB.out)))); have n1_ := Aside0.mk (hb); have n2_ := Aside0.mk (hi); clear HB; clear HI470; have HO473 := n0_; have HB := n1_; have HI470 := n2_; clear n0_ n1_ n2_; (try clear hb); (try clear hb2); (try clear hk); (try clear hi); (try clear ho0)) | ((with_reducible refine gate_callee (f := 52) rfl ?_); refine goesL_ (some 10) rfl rfl Try.func52 (by kernel_rfl) rfl #[.pointer (some ⟨g470, 0, none⟩)] rfl (by (try simp only [List.map_toArray, List.map_cons, List.map_nil]); first | done | rfl | (simp only [List.length_drop, List.length_take]; rfl)) ?_; (with_reducible refine (spec_l13Base.calls k g470 t468 t474 t475 t476 w _ ?side1 ?side2 A4.out).mono ?_); (case side1 => repeat (first | (with_reducible first | exact HI470.out | apply IsS71.alloc | apply IsS71.drewN | apply IsS71.drew | apply IsS71.set_1) | exact HI470.out)); (case side2 => repeat (first | (with_reducible first | exact HB.out | apply below_alloc | apply pw_below_drewN | apply below_drew1 | refine below_set ?_ (IsS71.ge HI470.out)) | exact HB.out)); rintro e w7 ⟨rfl, hi, hb, hk⟩; refine ⟨_, rfl, ?_⟩; have n0_ := Aside0.mk (Kd.R_mono (Kd.R_keep (IsS71.apart (show IsS71 w _ g470 t468 t474 from by repeat (first | (with_reducible first | exact HI470.out | apply IsS71.alloc | apply IsS71.drewN | apply IsS71.drew | apply IsS71.set_1) | exact HI470.out)) (by (with_reducible repeat (first | apply Kd.R_alloc | apply Kd.R_drewN | apply Kd.R_drew)); exact HO473.out) (by decide)) hk (fun _ h => h.2)) (fun _ h => h.1)); have n1_ := Aside0.mk (hb); have n2_ := Aside0.mk (hi); clear HO473; clear HB; clear HI470; have HO473 := n0_; have HB := n1_; have HI470 := n2_; clear n0_ n1_ n2_; (try clear hb); (try clear hb2); (try clear hk); (try clear hi)))
  go_ret2
  exact ⟨_, by first | rfl | (simp [errW_none, errW_some] <;> rfl) | (simp [*, errW_none, errW_some] <;> rfl), by (with_reducible repeat (first | apply Kd.R_alloc | apply Kd.R_drewN | apply Kd.R_drew)); exact HO473.out, by repeat (first | (with_reducible first | exact HB.out | apply below_alloc | apply pw_below_drewN | apply below_drew1 | refine below_set ?_ (IsS71.ge HI470.out)) | exact HB.out)⟩
end Go.Proofs.Ytojehfdioeglgaa.S
namespace Go.Proofs.Ytojehfdioeglgaa.S
open Go.RowKit Go.Proofs.YtojehfdioeglgaaW.PrintWords Go.Proofs.YtojehfdioeglgaaW.PrintLast Go.Proofs.YtojehfdioeglgaaW.PrintMore
attribute [local go_sem] max2_int min2_int max_two min_two max_three min_three max_four min_four   -- for this text's walks alone
set_option linter.unusedVariables false
set_option linter.unusedSimpArgs false
def laws_wcIn.f (a0 : Int) (a1 : Int) (a2 : Int) : Option (Bool) := if a0 ≥ a1 then (some (decide (a0 ≤ a2))) else (some false)
set_option maxHeartbeats 8000000 in
set_option maxRecDepth 100000 in
theorem laws_wcIn.calls (a0 : Int) (a1 : Int) (a2 : Int) (r : Bool) (w : World) (h : laws_wcIn.f a0 a1 a2 = some r) :
    Calls Try.prog 21 #[.int .i64 a0, .int .i64 a1, .int .i64 a2] w fun e w' => e = .returned (.bool r) ∧ Drawn0 w w' := by
  have H : (if a0 ≥ a1 then (some (decide (a0 ≤ a2))) else (some false)) = some r := h
  clear h
  by_cases c4 : a0 ≥ a1
  · rw [if_pos c4] at H
    have c4b0 : decide (a1 ≤ a0) = true := decide_eq_true c4
    clear c4
    obtain rfl := Option.some.inj H
    go_enter Try.func21, Try.ntmps21
    go_wp2
    go_ret
    exact ⟨by first | rfl | (simp; done) | (simp [*]; done), by repeat (first | exact Drawn0.refl _ | apply Drawn0.step)⟩
  · rw [if_neg c4] at H
    have c4b0 : decide (a1 ≤ a0) = false := decide_eq_false c4
    clear c4
    obtain rfl := Option.some.inj H
    go_enter Try.func21, Try.ntmps21
    go_wp2
    go_ret
    exact ⟨by first | rfl | (simp; done) | (simp [*]; done), by repeat (first | exact Drawn0.refl _ | apply Drawn0.step)⟩
end Go.Proofs.Ytojehfdioeglgaa.S
namespace Go.Proofs.Ytojehfdioeglgaa.S
open Go.RowKit Go.Proofs.YtojehfdioeglgaaW.PrintWords Go.Proofs.YtojehfdioeglgaaW.PrintLast Go.Proofs.YtojehfdioeglgaaW.PrintMore
attribute [local go_sem] max2_int min2_int max_two min_two max_three min_three max_four min_four   -- for this text's walks alone
set_option linter.unusedVariables false
set_option linter.unusedSimpArgs false
theorem q5s {α : Type} (l : List α) (i : Nat) (a : α) : l.toArray.setIfInBounds i a = (l.set i a).toArray := List.setIfInBounds_toArray ..
theorem q5z {α : Type} (a : α) (l : List α) (b : α) : (a :: l).set 0 b = b :: l := List.set_cons_zero ..
theorem q5n {α : Type} (a : α) (l : List α) (i : Nat) (b : α) : (a :: l).set (i + 1) b = a :: l.set i b := List.set_cons_succ ..
mutual
def laws_FnLevelsTold.j0 : Nat → List Int → Int → List Int → List Int → List Int → List Int → Bool → Option (Bool)
 | 0, _, _, _, _, _, _, _ => none
 | k + 1, x3, x4, x5, x6, x7, x8, x47 => if x47 = true then ((laws_wcInts.f k x5 x7).bind fun t495 => (if t495 = true then ((laws_wcInts.f k x6 x8).bind fun t496 => (some t496)) else (some false))) else (laws_FnLevelsTold.l0 k x3 x4 x5 x6 false 0)
def laws_FnLevelsTold.l0 : Nat → List Int → Int → List Int → List Int → Bool → Int → Option (Bool)
 | 0, _, _, _, _, _, _ => none
 | k + 1, x3, x4, x5, x6, x9, x10 => if x10 < (x3.length : Int) then (if 0 ≤ x10 then ((spec_RuneBidi.f k (rd x3 x10)).bind fun t498 => (if t498 = 10 then (if x10 < (x5.length : Int) then (if (true != (decide ((rd x5 x10) < 0))) = true then (some false) else (if (rd x5 x10) > 20 then (some false) else (if x9 = true then (laws_FnLevelsTold.l0 k x3 x4 x5 x6 true (wrap64 (x10 + 1))) else (if (rd x5 x10) ≥ 0 then (if (rd x5 x10) = x4 then (laws_FnLevelsTold.l0 k x3 x4 x5 x6 (decide (t498 ≥ 14)) (wrap64 (x10 + 1))) else (some false)) else (laws_FnLevelsTold.l0 k x3 x4 x5 x6 (decide (t498 ≥ 14)) (wrap64 (x10 + 1))))))) else (none)) else ((laws_wcIn.f t498 14 18).bind fun t503 => (if x10 < (x5.length : Int) then (if (t503 != (decide ((rd x5 x10) < 0))) = true then (some false) else (if (rd x5 x10) > 20 then (some false) else (if x9 = true then (laws_FnLevelsTold.l0 k x3 x4 x5 x6 true (wrap64 (x10 + 1))) else (if (rd x5 x10) ≥ 0 then (if (rd x5 x10) = x4 then (laws_FnLevelsTold.l0 k x3 x4 x5 x6 (decide (t498 ≥ 14)) (wrap64 (x10 + 1))) else (some false)) else (laws_FnLevelsTold.l0 k x3 x4 x5 x6 (decide (t498 ≥ 14)) (wrap64 (x10 + 1))))))) else (none))))) else (none)) else (if (x5.length : Int) = (x3.length : Int) then (some ((x6.length : Int) == (x3.length : Int))) else (some false))
end
def laws_FnLevelsTold.f (k : Nat) (l0 : List Int) : Option (Bool) := if (l0.length : Int) > 1048576 then (some true) else ((spec_DrawLevelsTold.f k l0).bind fun bt477 => ((impl_LevelsTold.f bt477.1 bt477.2).bind fun bt481 => ((spec_LevelsTold.f k bt477.1 bt477.2).bind fun bt487 => ((laws_wcInts.f k bt481.1 bt487.1).bind fun t493 => (if t493 = true then ((laws_wcInts.f k bt481.2 bt487.2).bind fun t494 => (if t494 = true then (laws_FnLevelsTold.j0 k bt477.1 bt477.2 bt481.1 bt481.2 bt487.1 bt487.2 ((bt481.1.length : Int) == 0)) else (laws_FnLevelsTold.j0 k bt477.1 bt477.2 bt481.1 bt481.2 bt487.1 bt487.2 true))) else (laws_FnLevelsTold.j0 k bt477.1 bt477.2 bt481.1 bt481.2 bt487.1 bt487.2 true))))))
theorem laws_FnLevelsTold.mono_l : ∀ k, (∀ y0 y1 y2 y3 y4 y5 y6, LeO (laws_FnLevelsTold.j0 k y0 y1 y2 y3 y4 y5 y6) (laws_FnLevelsTold.j0 (k + 1) y0 y1 y2 y3 y4 y5 y6)) ∧ (∀ y0 y1 y2 y3 y4 y5, LeO (laws_FnLevelsTold.l0 k y0 y1 y2 y3 y4 y5) (laws_FnLevelsTold.l0 (k + 1) y0 y1 y2 y3 y4 y5))
 | 0 => ⟨fun _ _ _ _ _ _ _ r h => by simp [laws_FnLevelsTold.j0] at h, fun _ _ _ _ _ _ r h => by simp [laws_FnLevelsTold.l0] at h⟩
 | k + 1 => by
  obtain ⟨ih0, ih1⟩ := laws_FnLevelsTold.mono_l k; refine ⟨?_, ?_⟩
  ·
   intro y0 y1 y2 y3 y4 y5 y6; unfold laws_FnLevelsTold.j0
   repeat' first
   | (with_reducible exact ih0 _ _ _ _ _ _ _)
   | (with_reducible exact ih1 _ _ _ _ _ _)
   | (with_reducible exact laws_wcInts.mono _ _ _)
   | (with_reducible exact spec_DrawLevelsTold.mono _ _)
   | (with_reducible exact spec_LevelsTold.mono _ _ _)
   | (with_reducible exact spec_RuneBidi.mono _ _)
   | (with_reducible exact LeO.refl _)
   | (with_reducible exact LeO.none _)
   | (with_reducible refine LeO.ite ?_ ?_)
   | (with_reducible refine LeO.bind ?_ (fun _ => ?_))
   | exact ih0 _ _ _ _ _ _ _
   | exact ih1 _ _ _ _ _ _
   | exact laws_wcInts.mono _ _ _
   | exact spec_DrawLevelsTold.mono _ _
   | exact spec_LevelsTold.mono _ _ _
   | exact spec_RuneBidi.mono _ _
   | exact LeO.none _
   | refine LeO.ite ?_ ?_
   | refine LeO.bind ?_ (fun _ => ?_)
  ·
   intro y0 y1 y2 y3 y4 y5; unfold laws_FnLevelsTold.l0
   repeat' first
   | (with_reducible exact ih0 _ _ _ _ _ _ _)
   | (with_reducible exact ih1 _ _ _ _ _ _)
   | (with_reducible exact laws_wcInts.mono _ _ _)
   | (with_reducible exact spec_DrawLevelsTold.mono _ _)
   | (with_reducible exact spec_LevelsTold.mono _ _ _)
   | (with_reducible exact spec_RuneBidi.mono _ _)
   | (with_reducible exact LeO.refl _)
   | (with_reducible exact LeO.none _)
   | (with_reducible refine LeO.ite ?_ ?_)
   | (with_reducible refine LeO.bind ?_ (fun _ => ?_))
   | exact ih0 _ _ _ _ _ _ _
   | exact ih1 _ _ _ _ _ _
   | exact laws_wcInts.mono _ _ _
   | exact spec_DrawLevelsTold.mono _ _
   | exact spec_LevelsTold.mono _ _ _
   | exact spec_RuneBidi.mono _ _
   | exact LeO.none _
   | refine LeO.ite ?_ ?_
   | refine LeO.bind ?_ (fun _ => ?_)
theorem laws_FnLevelsTold.mono : ∀ a0 k, LeO (laws_FnLevelsTold.f k a0) (laws_FnLevelsTold.f (k + 1) a0) := by
 intro a0 k; obtain ⟨ih0, ih1⟩ := laws_FnLevelsTold.mono_l k; unfold laws_FnLevelsTold.f
 repeat' first
   | (with_reducible exact ih0 _ _ _ _ _ _ _)
   | (with_reducible exact ih1 _ _ _ _ _ _)
   | (with_reducible exact laws_wcInts.mono _ _ _)
   | (with_reducible exact spec_DrawLevelsTold.mono _ _)
   | (with_reducible exact spec_LevelsTold.mono _ _ _)
   | (with_reducible exact spec_RuneBidi.mono _ _)
   | (with_reducible exact LeO.refl _)
   | (with_reducible exact LeO.none _)
   | (with_reducible refine LeO.ite ?_ ?_)
   | (with_reducible refine LeO.bind ?_ (fun _ => ?_))
   | exact ih0 _ _ _ _ _ _ _
   | exact ih1 _ _ _ _ _ _
   | exact laws_wcInts.mono _ _ _
   | exact spec_DrawLevelsTold.mono _ _
   | exact spec_LevelsTold.mono _ _ _
   | exact spec_RuneBidi.mono _ _
   | exact LeO.none _
   | refine LeO.ite ?_ ?_
   | refine LeO.bind ?_ (fun _ => ?_)
set_option maxHeartbeats 8000000 in
set_option maxRecDepth 100000 in
theorem laws_FnLevelsTold.calls (k : Nat) (A0 : Option Addr) (c0 : Nat) (l0 : List Int) (r : Bool) (w : World) (hr0 : Kd.C (Kd.int .u8) w A0 l0.length l0) (hc0 : l0.length ≤ c0) (h : laws_FnLevelsTold.f k l0 = some r) :
  Calls Try.prog 6 #[.slice A0 l0.length c0] w fun e w' => e = .returned (.bool r) ∧ Below w.heap.size w w' := by
 have HR0 := Aside0.mk hr0; have HC0 := Aside0.mk hc0; clear hr0 hc0; have HB := Aside0.mk (Below.refl w.heap.size w); have H : (if (l0.length : Int) > 1048576 then (some true) else ((spec_DrawLevelsTold.f k l0).bind fun bt477 => ((impl_LevelsTold.f bt477.1 bt477.2).bind fun bt481 => ((spec_LevelsTold.f k bt477.1 bt477.2).bind fun bt487 => ((laws_wcInts.f k bt481.1 bt487.1).bind fun t493 => (if t493 = true then ((laws_wcInts.f k bt481.2 bt487.2).bind fun t494 => (if t494 = true then (laws_FnLevelsTold.j0 k bt477.1 bt477.2 bt481.1 bt481.2 bt487.1 bt487.2 ((bt481.1.length : Int) == 0)) else (laws_FnLevelsTold.j0 k bt477.1 bt477.2 bt481.1 bt481.2 bt487.1 bt487.2 true))) else (laws_FnLevelsTold.j0 k bt477.1 bt477.2 bt481.1 bt481.2 bt487.1 bt487.2 true))))))) = some r := h; clear h; by_cases c2 : (l0.length : Int) > 1048576
 ·
  rw [if_pos c2] at H; have c2b0 : decide (1048576 < (l0.length : Int)) = true := decide_eq_true c2; have c2b1 : decide (1048576 < l0.length) = true := decide_eq_true (by omega); clear c2; obtain rfl := Option.some.inj H; go_enter Try.func6, Try.ntmps6; go_wp2; go_ret; exact ⟨by first | rfl | (simp [errW_none, errW_some] <;> rfl) | (simp [*, errW_none, errW_some] <;> rfl), by repeat (first | (with_reducible first | exact HB.out | apply below_alloc | apply pw_below_drewN | apply below_drew1) | exact HB.out)⟩
 ·
  rw [if_neg c2] at H; have c2b0 : decide (1048576 < (l0.length : Int)) = false := decide_eq_false c2; have c2b1 : decide (1048576 < l0.length) = false := decide_eq_false (by omega); clear c2; replace H := Option.bind_eq_some_iff.mp H; obtain ⟨⟨t477, t478⟩, A30, H⟩ := H; replace H : ((impl_LevelsTold.f t477 t478).bind fun bt481 => ((spec_LevelsTold.f k t477 t478).bind fun bt487 => ((laws_wcInts.f k bt481.1 bt487.1).bind fun t493 => (if t493 = true then ((laws_wcInts.f k bt481.2 bt487.2).bind fun t494 => (if t494 = true then (laws_FnLevelsTold.j0 k t477 t478 bt481.1 bt481.2 bt487.1 bt487.2 ((bt481.1.length : Int) == 0)) else (laws_FnLevelsTold.j0 k t477 t478 bt481.1 bt481.2 bt487.1 bt487.2 true))) else (laws_FnLevelsTold.j0 k t477 t478 bt481.1 bt481.2 bt487.1 bt487.2 true))))) = some r := H; have A3 := Aside0.mk A30; clear A30; replace H := Option.bind_eq_some_iff.mp H; obtain ⟨⟨t481, t482⟩, A40, H⟩ := H; replace H : ((spec_LevelsTold.f k t477 t478).bind fun bt487 => ((laws_wcInts.f k t481 bt487.1).bind fun t493 => (if t493 = true then ((laws_wcInts.f k t482 bt487.2).bind fun t494 => (if t494 = true then (laws_FnLevelsTold.j0 k t477 t478 t481 t482 bt487.1 bt487.2 ((t481.length : Int) == 0)) else (laws_FnLevelsTold.j0 k t477 t478 t481 t482 bt487.1 bt487.2 true))) else (laws_FnLevelsTold.j0 k t477 t478 t481 t482 bt487.1 bt487.2 true)))) = some r := H; have A4 := Aside0.mk A40; clear A40; replace H := Option.bind_eq_some_iff.mp H; obtain ⟨⟨t487, t488⟩, A50, H⟩ := H; replace H : ((laws_wcInts.f k t481 t487).bind fun t493 => (if t493 = true then ((laws_wcInts.f k t482 t488).bind fun t494 => (if t494 = true then (laws_FnLevelsTold.j0 k t477 t478 t481 t482 t487 t488 ((t481.length : Int) == 0)) else (laws_FnLevelsTold.j0 k t477 t478 t481 t482 t487 t488 true))) else (laws_FnLevelsTold.j0 k t477 t478 t481 t482 t487 t488 true))) = some r := H; have A5 := Aside0.mk A50; clear A50; have HC6 := Aside0.mk H; clear H; go_enter Try.func6, Try.ntmps6; go_upto_region 6 with (first | ((with_reducible refine gate_callee (f := 19) rfl ?_); refine goesL_ (some 18) rfl rfl Try.func19 (by kernel_rfl) rfl #[.slice A0 l0.length c0] rfl (by (try simp only [List.map_toArray, List.map_cons, List.map_nil]); first | done | rfl) ?_; (with_reducible refine (spec_DrawLevelsTold.calls k _ _ l0 t477 t478 _ ?side1 ?side2 A3.out).mono ?_); (case side1 => repeat (first | exact HR0.out | (with_reducible refine Kd.C_alloc ?_ _) | (with_reducible refine Kd.C_drewN ?_ _) | (with_reducible refine Kd.C_drew ?_))); (case side2 => exact HC0.out); rintro e w7 ⟨v479, rfl, ho0, hb⟩; refine ⟨_, rfl, ?_⟩; have n0_ := Aside0.mk (Kd.R_lower ho0 (below_size (by repeat (first | (with_reducible first | exact HB.out | apply below_alloc | apply pw_below_drewN | apply below_drew1) | exact HB.out)))); have n1_ := Aside0.mk (below_step (by repeat (first | (with_reducible first | exact HB.out | apply below_alloc | apply pw_below_drewN | apply below_drew1) | exact HB.out)) hb); clear HB; have HO480 := n0_; have HB := n1_; clear n0_ n1_; (try clear hb); (try clear hb2); (try clear hk); (try clear hi); (try clear ho0); obtain ⟨Ao8, co8, eo8⟩ := Kd.R_slice HO480.out; subst eo8) | ((with_reducible refine gate_callee (f := 18) rfl ?_); refine goesL_ (some 24) rfl rfl Try.func18 (by kernel_rfl) rfl #[.slice Ao8 t477.length co8, .int .i64 t478] rfl (by (try simp only [List.map_toArray, List.map_cons, List.map_nil]); first | done | rfl) ?_; (with_reducible refine (impl_LevelsTold.calls _ _ t477 t478 t481 t482 _ ?side1 ?side2 A4.out).mono ?_); (case side1 => repeat (first | exact (Kd.R_reads' HO480.out).2.2 | (with_reducible refine Kd.C_alloc ?_ _) | (with_reducible refine Kd.C_drewN ?_ _) | (with_reducible refine Kd.C_drew ?_))); (case side2 => exact (Kd.R_reads' HO480.out).2.1); rintro e w9 ⟨v483, v485, rfl, ho0, ho1, hb⟩; refine ⟨_, rfl, ?_⟩; have n0_ := Aside0.mk (Kd.R_mono (Kd.R_told (Kd.R_told (Kd.R_old (by (with_reducible repeat (first | apply Kd.R_alloc | apply Kd.R_drewN | apply Kd.R_drew)); exact HO480.out) hb) (Kd.R_base ho0)) (Kd.R_base ho1)) (fun _ h_ => h_.1)); have n1_ := Aside0.mk (Kd.R_lower (Kd.R_new' ho0 (Kd.R_lt (by (with_reducible repeat (first | apply Kd.R_alloc | apply Kd.R_drewN | apply Kd.R_drew)); exact HO480.out))) (below_size (by repeat (first | (with_reducible first | exact HB.out | apply below_alloc | apply pw_below_drewN | apply below_drew1) | exact HB.out)))); have n2_ := Aside0.mk (Kd.R_lower (Kd.R_new' ho1 (Kd.R_lt (by (with_reducible repeat (first | apply Kd.R_alloc | apply Kd.R_drewN | apply Kd.R_drew)); exact HO480.out))) (below_size (by repeat (first | (with_reducible first | exact HB.out | apply below_alloc | apply pw_below_drewN | apply below_drew1) | exact HB.out)))); have n3_ := Aside0.mk (below_step (by repeat (first | (with_reducible first | exact HB.out | apply below_alloc | apply pw_below_drewN | apply below_drew1) | exact HB.out)) hb); clear HO480; clear HB; have HO480 := n0_; have HO484 := n1_; have HO486 := n2_; have HB := n3_; clear n0_ n1_ n2_ n3_; (try clear hb); (try clear hb2); (try clear hk); (try clear hi); (try clear ho0); (try clear ho1)) | ((with_reducible refine gate_callee (f := 17) rfl ?_); refine goesL_ (some 30) rfl rfl Try.func17 (by kernel_rfl) rfl #[.slice Ao8 t477.length co8, .int .i64 t478] rfl (by (try simp only [List.map_toArray, List.map_cons, List.map_nil]); first | done | rfl) ?_; (with_reducible refine (spec_LevelsTold.calls k _ _ t477 t478 t487 t488 _ ?side1 ?side2 A5.out).mono ?_); (case side1 => repeat (first | exact (Kd.R_reads' HO480.out).2.2 | (with_reducible refine Kd.C_alloc ?_ _) | (with_reducible refine Kd.C_drewN ?_ _) | (with_reducible refine Kd.C_drew ?_))); (case side2 => exact (Kd.R_reads' HO480.out).2.1); rintro e w10 ⟨v489, v491, rfl, ho0, ho1, hb⟩; refine ⟨_, rfl, ?_⟩; have n0_ := Aside0.mk (Kd.R_mono (Kd.R_told (Kd.R_told (Kd.R_old (by (with_reducible repeat (first | apply Kd.R_alloc | apply Kd.R_drewN | apply Kd.R_drew)); exact HO480.out) hb) (Kd.R_base ho0)) (Kd.R_base ho1)) (fun _ h_ => h_.1)); have n1_ := Aside0.mk (Kd.R_mono (Kd.R_told (Kd.R_told (Kd.R_old (by (with_reducible repeat (first | apply Kd.R_alloc | apply Kd.R_drewN | apply Kd.R_drew)); exact HO484.out) hb) (Kd.R_base ho0)) (Kd.R_base ho1)) (fun _ h_ => h_.1)); have n2_ := Aside0.mk (Kd.R_mono (Kd.R_told (Kd.R_told (Kd.R_old (by (with_reducible repeat (first | apply Kd.R_alloc | apply Kd.R_drewN | apply Kd.R_drew)); exact HO486.out) hb) (Kd.R_base ho0)) (Kd.R_base ho1)) (fun _ h_ => h_.1)); have n3_ := Aside0.mk (Kd.R_lower (Kd.R_new' (Kd.R_new' (Kd.R_new' ho0 (Kd.R_lt (by (with_reducible repeat (first | apply Kd.R_alloc | apply Kd.R_drewN | apply Kd.R_drew)); exact HO480.out))) (Kd.R_lt (by (with_reducible repeat (first | apply Kd.R_alloc | apply Kd.R_drewN | apply Kd.R_drew)); exact HO484.out))) (Kd.R_lt (by (with_reducible repeat (first | apply Kd.R_alloc | apply Kd.R_drewN | apply Kd.R_drew)); exact HO486.out))) (below_size (by repeat (first | (with_reducible first | exact HB.out | apply below_alloc | apply pw_below_drewN | apply below_drew1) | exact HB.out)))); have n4_ := Aside0.mk (Kd.R_lower (Kd.R_new' (Kd.R_new' (Kd.R_new' ho1 (Kd.R_lt (by (with_reducible repeat (first | apply Kd.R_alloc | apply Kd.R_drewN | apply Kd.R_drew)); exact HO480.out))) (Kd.R_lt (by (with_reducible repeat (first | apply Kd.R_alloc | apply Kd.R_drewN | apply Kd.R_drew)); exact HO484.out))) (Kd.R_lt (by (with_reducible repeat (first | apply Kd.R_alloc | apply Kd.R_drewN | apply Kd.R_drew)); exact HO486.out))) (below_size (by repeat (first | (with_reducible first | exact HB.out | apply below_alloc | apply pw_below_drewN | apply below_drew1) | exact HB.out)))); have n5_ := Aside0.mk (below_step (by repeat (first | (with_reducible first | exact HB.out | apply below_alloc | apply pw_below_drewN | apply below_drew1) | exact HB.out)) hb); clear HO480; clear HO484; clear HO486; clear HB; have HO480 := n0_; have HO484 := n1_; have HO486 := n2_; have HO490 := n3_; have HO492 := n4_; have HB := n5_; clear n0_ n1_ n2_ n3_ n4_ n5_; (try clear hb); (try clear hb2); (try clear hk); (try clear hi); (try clear ho0); (try clear ho1)))
  (try simp only [Act.put, List.setIfInBounds_toArray, List.set_cons_zero, List.set_cons_succ]); go_cut [47] (fun v47 wc => ∃ (kq : Nat) (x47_5 : Bool), v47 = .bool x47_5 ∧ Aside0 (laws_FnLevelsTold.j0 kq t477 t478 t481 t482 t487 t488 x47_5 = some r) ∧ Aside0 (kq ≤ k) ∧ Aside0 (Kd.R (Kd.int .i64) 3 wc w.heap.size (fun k_ => some k_ ≠ (v483 : Value).ownBlock ∧ some k_ ≠ (v485 : Value).ownBlock ∧ some k_ ≠ (v489 : Value).ownBlock ∧ some k_ ≠ (v491 : Value).ownBlock) (.slice Ao8 t477.length co8) t477) ∧ Aside0 (Kd.R (Kd.int .i64) 3 wc w.heap.size (fun k_ => some k_ ≠ ((.slice Ao8 t477.length co8) : Value).ownBlock ∧ some k_ ≠ (v485 : Value).ownBlock ∧ some k_ ≠ (v489 : Value).ownBlock ∧ some k_ ≠ (v491 : Value).ownBlock) v483 t481) ∧ Aside0 (Kd.R (Kd.int .i64) 3 wc w.heap.size (fun k_ => some k_ ≠ ((.slice Ao8 t477.length co8) : Value).ownBlock ∧ some k_ ≠ (v483 : Value).ownBlock ∧ some k_ ≠ (v489 : Value).ownBlock ∧ some k_ ≠ (v491 : Value).ownBlock) v485 t482) ∧ Aside0 (Kd.R (Kd.int .i64) 3 wc w.heap.size (fun k_ => some k_ ≠ ((.slice Ao8 t477.length co8) : Value).ownBlock ∧ some k_ ≠ (v483 : Value).ownBlock ∧ some k_ ≠ (v485 : Value).ownBlock ∧ some k_ ≠ (v491 : Value).ownBlock) v489 t487) ∧ Aside0 (Kd.R (Kd.int .i64) 3 wc w.heap.size (fun k_ => some k_ ≠ ((.slice Ao8 t477.length co8) : Value).ownBlock ∧ some k_ ≠ (v483 : Value).ownBlock ∧ some k_ ≠ (v485 : Value).ownBlock ∧ some k_ ≠ (v489 : Value).ownBlock) v491 t488) ∧ Aside0 (Below w.heap.size w wc))
  case first =>
   have H := HC6.out; clear HC6; replace H := Option.bind_eq_some_iff.mp H; obtain ⟨t493, A110, H⟩ := H; replace H : (if t493 = true then ((laws_wcInts.f k t482 t488).bind fun t494 => (if t494 = true then (laws_FnLevelsTold.j0 k t477 t478 t481 t482 t487 t488 ((t481.length : Int) == 0)) else (laws_FnLevelsTold.j0 k t477 t478 t481 t482 t487 t488 true))) else (laws_FnLevelsTold.j0 k t477 t478 t481 t482 t487 t488 true)) = some r := H; have A11 := Aside0.mk A110; clear A110; by_cases c12 : t493 = true
   ·
    subst c12; have H1 : ((laws_wcInts.f k t482 t488).bind fun t494 => (if t494 = true then (laws_FnLevelsTold.j0 k t477 t478 t481 t482 t487 t488 ((t481.length : Int) == 0)) else (laws_FnLevelsTold.j0 k t477 t478 t481 t482 t487 t488 true))) = some r := by rw [if_pos rfl] at H; exact H
    clear H; have H := H1; clear H1; replace H := Option.bind_eq_some_iff.mp H; obtain ⟨t494, A130, H⟩ := H; replace H : (if t494 = true then (laws_FnLevelsTold.j0 k t477 t478 t481 t482 t487 t488 ((t481.length : Int) == 0)) else (laws_FnLevelsTold.j0 k t477 t478 t481 t482 t487 t488 true)) = some r := H; have A13 := Aside0.mk A130; clear A130; by_cases c14 : t494 = true
    ·
     subst c14; have H1 : (laws_FnLevelsTold.j0 k t477 t478 t481 t482 t487 t488 ((t481.length : Int) == 0)) = some r := by rw [if_pos rfl] at H; exact H
     clear H; have H := H1; clear H1; have H' := Aside0.mk H; clear H; obtain ⟨Ao15, co15, eo15⟩ := Kd.R_slice HO484.out; subst eo15; obtain ⟨Ao16, co16, eo16⟩ := Kd.R_slice HO490.out; subst eo16; go_wp2_with (first | ((with_reducible refine gate_callee (f := 16) rfl ?_); refine goesL_ (some 35) rfl rfl Try.func16 (by kernel_rfl) rfl #[.slice Ao15 t481.length co15, .slice Ao16 t487.length co16] rfl (by (try simp only [List.map_toArray, List.map_cons, List.map_nil]); first | done | rfl) ?_; (with_reducible refine (laws_wcInts.calls k _ _ t481 _ _ t487 true _ ?side1 ?side2 ?side3 ?side4 A11.out).mono ?_); (case side1 => repeat (first | exact (Kd.R_reads' HO484.out).2.2 | (with_reducible refine Kd.C_alloc ?_ _) | (with_reducible refine Kd.C_drewN ?_ _) | (with_reducible refine Kd.C_drew ?_))); (case side2 => exact (Kd.R_reads' HO484.out).2.1); (case side3 => repeat (first | exact (Kd.R_reads' HO490.out).2.2 | (with_reducible refine Kd.C_alloc ?_ _) | (with_reducible refine Kd.C_drewN ?_ _) | (with_reducible refine Kd.C_drew ?_))); (case side4 => exact (Kd.R_reads' HO490.out).2.1); rintro e w' ⟨rfl, ⟨nd, rfl⟩⟩; refine ⟨_, rfl, ?_⟩; obtain ⟨Ao17, co17, eo17⟩ := Kd.R_slice HO486.out; subst eo17; obtain ⟨Ao18, co18, eo18⟩ := Kd.R_slice HO492.out; subst eo18) | (go_at_call 16; (with_reducible refine (laws_wcInts.calls k _ _ t482 _ _ t488 true _ ?side1 ?side2 ?side3 ?side4 A13.out).mono ?_); (case side1 => repeat (first | exact (Kd.R_reads' HO486.out).2.2 | (with_reducible refine Kd.C_alloc ?_ _) | (with_reducible refine Kd.C_drewN ?_ _) | (with_reducible refine Kd.C_drew ?_))); (case side2 => exact (Kd.R_reads' HO486.out).2.1); (case side3 => repeat (first | exact (Kd.R_reads' HO492.out).2.2 | (with_reducible refine Kd.C_alloc ?_ _) | (with_reducible refine Kd.C_drewN ?_ _) | (with_reducible refine Kd.C_drew ?_))); (case side4 => exact (Kd.R_reads' HO492.out).2.1); rintro e w' ⟨rfl, ⟨nd, rfl⟩⟩)); go_meet
     case rel => exact ⟨_, (((t481.length : Int) == 0)), (by first | rfl | (simp; done) | (simp [*]; done)), H', ⟨by first | omega | exact Nat.le_refl _⟩, ⟨by (with_reducible repeat (first | apply Kd.R_alloc | apply Kd.R_drewN | apply Kd.R_drew)); exact Kd.R_mono HO480.out (fun _ hk => ⟨hk.1.1.1.2, ⟨hk.1.1.2, ⟨hk.1.2, hk.2⟩⟩⟩)⟩, ⟨by (with_reducible repeat (first | apply Kd.R_alloc | apply Kd.R_drewN | apply Kd.R_drew)); exact Kd.R_mono HO484.out (fun _ hk => ⟨hk.1.1.2, ⟨hk.1.1.1, ⟨hk.1.2, hk.2⟩⟩⟩)⟩, ⟨by (with_reducible repeat (first | apply Kd.R_alloc | apply Kd.R_drewN | apply Kd.R_drew)); exact Kd.R_mono HO486.out (fun _ hk => ⟨hk.1.1.2, ⟨hk.1.1.1, ⟨hk.1.2, hk.2⟩⟩⟩)⟩, ⟨by (with_reducible repeat (first | apply Kd.R_alloc | apply Kd.R_drewN | apply Kd.R_drew)); exact Kd.R_mono HO490.out (fun _ hk => ⟨hk.1.1.2, ⟨hk.1.2, ⟨hk.2, hk.1.1.1⟩⟩⟩)⟩, ⟨by (with_reducible repeat (first | apply Kd.R_alloc | apply Kd.R_drewN | apply Kd.R_drew)); exact Kd.R_mono HO492.out (fun _ hk => ⟨hk.1.1.2, ⟨hk.1.2, ⟨hk.2, hk.1.1.1⟩⟩⟩)⟩, ⟨by repeat (first | (with_reducible first | exact HB.out | apply below_alloc | apply pw_below_drewN | apply below_drew1) | exact HB.out)⟩⟩
    ·
     replace c14 := Bool.eq_false_iff.mpr c14; subst c14; have H1 : (laws_FnLevelsTold.j0 k t477 t478 t481 t482 t487 t488 true) = some r := by rw [if_neg (show ¬ (false = true) by decide)] at H; exact H
     clear H; have H := H1; clear H1; have H' := Aside0.mk H; clear H; obtain ⟨Ao19, co19, eo19⟩ := Kd.R_slice HO484.out; subst eo19; obtain ⟨Ao20, co20, eo20⟩ := Kd.R_slice HO490.out; subst eo20; go_wp2_with (first | ((with_reducible refine gate_callee (f := 16) rfl ?_); refine goesL_ (some 35) rfl rfl Try.func16 (by kernel_rfl) rfl #[.slice Ao19 t481.length co19, .slice Ao20 t487.length co20] rfl (by (try simp only [List.map_toArray, List.map_cons, List.map_nil]); first | done | rfl) ?_; (with_reducible refine (laws_wcInts.calls k _ _ t481 _ _ t487 true _ ?side1 ?side2 ?side3 ?side4 A11.out).mono ?_); (case side1 => repeat (first | exact (Kd.R_reads' HO484.out).2.2 | (with_reducible refine Kd.C_alloc ?_ _) | (with_reducible refine Kd.C_drewN ?_ _) | (with_reducible refine Kd.C_drew ?_))); (case side2 => exact (Kd.R_reads' HO484.out).2.1); (case side3 => repeat (first | exact (Kd.R_reads' HO490.out).2.2 | (with_reducible refine Kd.C_alloc ?_ _) | (with_reducible refine Kd.C_drewN ?_ _) | (with_reducible refine Kd.C_drew ?_))); (case side4 => exact (Kd.R_reads' HO490.out).2.1); rintro e w' ⟨rfl, ⟨nd, rfl⟩⟩; refine ⟨_, rfl, ?_⟩; obtain ⟨Ao21, co21, eo21⟩ := Kd.R_slice HO486.out; subst eo21; obtain ⟨Ao22, co22, eo22⟩ := Kd.R_slice HO492.out; subst eo22) | (go_at_call 16; (with_reducible refine (laws_wcInts.calls k _ _ t482 _ _ t488 false _ ?side1 ?side2 ?side3 ?side4 A13.out).mono ?_); (case side1 => repeat (first | exact (Kd.R_reads' HO486.out).2.2 | (with_reducible refine Kd.C_alloc ?_ _) | (with_reducible refine Kd.C_drewN ?_ _) | (with_reducible refine Kd.C_drew ?_))); (case side2 => exact (Kd.R_reads' HO486.out).2.1); (case side3 => repeat (first | exact (Kd.R_reads' HO492.out).2.2 | (with_reducible refine Kd.C_alloc ?_ _) | (with_reducible refine Kd.C_drewN ?_ _) | (with_reducible refine Kd.C_drew ?_))); (case side4 => exact (Kd.R_reads' HO492.out).2.1); rintro e w' ⟨rfl, ⟨nd, rfl⟩⟩)); go_meet
     case rel => exact ⟨_, (true), (by first | rfl | (simp; done) | (simp [*]; done)), H', ⟨by first | omega | exact Nat.le_refl _⟩, ⟨by (with_reducible repeat (first | apply Kd.R_alloc | apply Kd.R_drewN | apply Kd.R_drew)); exact Kd.R_mono HO480.out (fun _ hk => ⟨hk.1.1.1.2, ⟨hk.1.1.2, ⟨hk.1.2, hk.2⟩⟩⟩)⟩, ⟨by (with_reducible repeat (first | apply Kd.R_alloc | apply Kd.R_drewN | apply Kd.R_drew)); exact Kd.R_mono HO484.out (fun _ hk => ⟨hk.1.1.2, ⟨hk.1.1.1, ⟨hk.1.2, hk.2⟩⟩⟩)⟩, ⟨by (with_reducible repeat (first | apply Kd.R_alloc | apply Kd.R_drewN | apply Kd.R_drew)); exact Kd.R_mono HO486.out (fun _ hk => ⟨hk.1.1.2, ⟨hk.1.1.1, ⟨hk.1.2, hk.2⟩⟩⟩)⟩, ⟨by (with_reducible repeat (first | apply Kd.R_alloc | apply Kd.R_drewN | apply Kd.R_drew)); exact Kd.R_mono HO490.out (fun _ hk => ⟨hk.1.1.2, ⟨hk.1.2, ⟨hk.2, hk.1.1.1⟩⟩⟩)⟩, ⟨by (with_reducible repeat (first | apply Kd.R_alloc | apply Kd.R_drewN | apply Kd.R_drew)); exact Kd.R_mono HO492.out (fun _ hk => ⟨hk.1.1.2, ⟨hk.1.2, ⟨hk.2, hk.1.1.1⟩⟩⟩)⟩, ⟨by repeat (first | (with_reducible first | exact HB.out | apply below_alloc | apply pw_below_drewN | apply below_drew1) | exact HB.out)⟩⟩
   ·
    replace c12 := Bool.eq_false_iff.mpr c12; subst c12; have H1 : (laws_FnLevelsTold.j0 k t477 t478 t481 t482 t487 t488 true) = some r := by rw [if_neg (show ¬ (false = true) by decide)] at H; exact H
    clear H; have H := H1; clear H1; have H' := Aside0.mk H; clear H; obtain ⟨Ao23, co23, eo23⟩ := Kd.R_slice HO484.out; subst eo23; obtain ⟨Ao24, co24, eo24⟩ := Kd.R_slice HO490.out; subst eo24; go_wp2_with (first | ((with_reducible refine gate_callee (f := 16) rfl ?_); refine goesL_ (some 35) rfl rfl Try.func16 (by kernel_rfl) rfl #[.slice Ao23 t481.length co23, .slice Ao24 t487.length co24] rfl (by (try simp only [List.map_toArray, List.map_cons, List.map_nil]); first | done | rfl) ?_; (with_reducible refine (laws_wcInts.calls k _ _ t481 _ _ t487 false _ ?side1 ?side2 ?side3 ?side4 A11.out).mono ?_); (case side1 => repeat (first | exact (Kd.R_reads' HO484.out).2.2 | (with_reducible refine Kd.C_alloc ?_ _) | (with_reducible refine Kd.C_drewN ?_ _) | (with_reducible refine Kd.C_drew ?_))); (case side2 => exact (Kd.R_reads' HO484.out).2.1); (case side3 => repeat (first | exact (Kd.R_reads' HO490.out).2.2 | (with_reducible refine Kd.C_alloc ?_ _) | (with_reducible refine Kd.C_drewN ?_ _) | (with_reducible refine Kd.C_drew ?_))); (case side4 => exact (Kd.R_reads' HO490.out).2.1); rintro e w' ⟨rfl, ⟨nd, rfl⟩⟩; refine ⟨_, rfl, ?_⟩)); go_meet
    case rel => exact ⟨_, (true), (by first | rfl | (simp; done) | (simp [*]; done)), H', ⟨by first | omega | exact Nat.le_refl _⟩, ⟨by (with_reducible repeat (first | apply Kd.R_alloc | apply Kd.R_drewN | apply Kd.R_drew)); exact Kd.R_mono HO480.out (fun _ hk => ⟨hk.1.1.1.2, ⟨hk.1.1.2, ⟨hk.1.2, hk.2⟩⟩⟩)⟩, ⟨by (with_reducible repeat (first | apply Kd.R_alloc | apply Kd.R_drewN | apply Kd.R_drew)); exact Kd.R_mono HO484.out (fun _ hk => ⟨hk.1.1.2, ⟨hk.1.1.1, ⟨hk.1.2, hk.2⟩⟩⟩)⟩, ⟨by (with_reducible repeat (first | apply Kd.R_alloc | apply Kd.R_drewN | apply Kd.R_drew)); exact Kd.R_mono HO486.out (fun _ hk => ⟨hk.1.1.2, ⟨hk.1.1.1, ⟨hk.1.2, hk.2⟩⟩⟩)⟩, ⟨by (with_reducible repeat (first | apply Kd.R_alloc | apply Kd.R_drewN | apply Kd.R_drew)); exact Kd.R_mono HO490.out (fun _ hk => ⟨hk.1.1.2, ⟨hk.1.2, ⟨hk.2, hk.1.1.1⟩⟩⟩)⟩, ⟨by (with_reducible repeat (first | apply Kd.R_alloc | apply Kd.R_drewN | apply Kd.R_drew)); exact Kd.R_mono HO492.out (fun _ hk => ⟨hk.1.1.2, ⟨hk.1.2, ⟨hk.2, hk.1.1.1⟩⟩⟩)⟩, ⟨by repeat (first | (with_reducible first | exact HB.out | apply below_alloc | apply pw_below_drewN | apply below_drew1) | exact HB.out)⟩⟩
  case rest =>
   clear HC6; (try clear c1); (try clear c2); (try clear c2b0); (try clear c2b1); (try clear p2); (try clear c6); (try clear c12); (try clear c14); (try clear c16); (try clear c17); (try clear c18); (try clear c19); obtain ⟨kq, x47_5, rfl, HA, HJ5, HO_3, HO_5, HO_6, HO_7, HO_8, HB⟩ := hcut
   cases kq with
   | zero => exact absurd HA.out (by simp [laws_FnLevelsTold.j0])
   | succ kj5 =>
    have H := HA.out; clear HA; simp only [laws_FnLevelsTold.j0] at H; by_cases c25 : x47_5 = true
    ·
     subst c25; have H1 : ((laws_wcInts.f kj5 t481 t487).bind fun t495 => (if t495 = true then ((laws_wcInts.f kj5 t482 t488).bind fun t496 => (some t496)) else (some false))) = some r := by rw [if_pos rfl] at H; exact H
     clear H; have H := H1; clear H1; replace H := Option.bind_eq_some_iff.mp H; obtain ⟨t495, A260, H⟩ := H; replace H : (if t495 = true then ((laws_wcInts.f kj5 t482 t488).bind fun t496 => (some t496)) else (some false)) = some r := H; have A26 := Aside0.mk A260; clear A260; by_cases c27 : t495 = true
     ·
      subst c27; have H1 : ((laws_wcInts.f kj5 t482 t488).bind fun t496 => (some t496)) = some r := by rw [if_pos rfl] at H; exact H
      clear H; have H := H1; clear H1; replace H := Option.bind_eq_some_iff.mp H; obtain ⟨t496, A280, H⟩ := H; replace H : (some t496) = some r := H; have A28 := Aside0.mk A280; clear A280; obtain rfl := Option.some.inj H; obtain ⟨Ao29, co29, eo29⟩ := Kd.R_slice HO_5.out; subst eo29; obtain ⟨Ao30, co30, eo30⟩ := Kd.R_slice HO_7.out; subst eo30; go_wp2_with (first | ((with_reducible refine gate_callee (f := 16) rfl ?_); refine goesL_ (some 50) rfl rfl Try.func16 (by kernel_rfl) rfl #[.slice Ao29 t481.length co29, .slice Ao30 t487.length co30] rfl (by (try simp only [List.map_toArray, List.map_cons, List.map_nil]); first | done | rfl) ?_; (with_reducible refine (laws_wcInts.calls kj5 _ _ t481 _ _ t487 true _ ?side1 ?side2 ?side3 ?side4 A26.out).mono ?_); (case side1 => repeat (first | exact (Kd.R_reads' HO_5.out).2.2 | (with_reducible refine Kd.C_alloc ?_ _) | (with_reducible refine Kd.C_drewN ?_ _) | (with_reducible refine Kd.C_drew ?_))); (case side2 => exact (Kd.R_reads' HO_5.out).2.1); (case side3 => repeat (first | exact (Kd.R_reads' HO_7.out).2.2 | (with_reducible refine Kd.C_alloc ?_ _) | (with_reducible refine Kd.C_drewN ?_ _) | (with_reducible refine Kd.C_drew ?_))); (case side4 => exact (Kd.R_reads' HO_7.out).2.1); rintro e w' ⟨rfl, ⟨nd, rfl⟩⟩; refine ⟨_, rfl, ?_⟩; obtain ⟨Ao31, co31, eo31⟩ := Kd.R_slice HO_6.out; subst eo31; obtain ⟨Ao32, co32, eo32⟩ := Kd.R_slice HO_8.out; subst eo32) | (go_at_call 16; (with_reducible refine (laws_wcInts.calls kj5 _ _ t482 _ _ t488 t496 _ ?side1 ?side2 ?side3 ?side4 A28.out).mono ?_); (case side1 => repeat (first | exact (Kd.R_reads' HO_6.out).2.2 | (with_reducible refine Kd.C_alloc ?_ _) | (with_reducible refine Kd.C_drewN ?_ _) | (with_reducible refine Kd.C_drew ?_))); (case side2 => exact (Kd.R_reads' HO_6.out).2.1); (case side3 => repeat (first | exact (Kd.R_reads' HO_8.out).2.2 | (with_reducible refine Kd.C_alloc ?_ _) | (with_reducible refine Kd.C_drewN ?_ _) | (with_reducible refine Kd.C_drew ?_))); (case side4 => exact (Kd.R_reads' HO_8.out).2.1); rintro e w' ⟨rfl, ⟨nd, rfl⟩⟩)); go_ret; exact ⟨by first | rfl | (simp [errW_none, errW_some] <;> rfl) | (simp [*, errW_none, errW_some] <;> rfl), by repeat (first | (with_reducible first | exact HB.out | apply below_alloc | apply pw_below_drewN | apply below_drew1) | exact HB.out)⟩
     ·
      replace c27 := Bool.eq_false_iff.mpr c27; subst c27; have H1 : (some false) = some r := by rw [if_neg (show ¬ (false = true) by decide)] at H; exact H
      clear H; have H := H1; clear H1; obtain rfl := Option.some.inj H; obtain ⟨Ao33, co33, eo33⟩ := Kd.R_slice HO_5.out; subst eo33; obtain ⟨Ao34, co34, eo34⟩ := Kd.R_slice HO_7.out; subst eo34; go_wp2_with (first | ((with_reducible refine gate_callee (f := 16) rfl ?_); refine goesL_ (some 50) rfl rfl Try.func16 (by kernel_rfl) rfl #[.slice Ao33 t481.length co33, .slice Ao34 t487.length co34] rfl (by (try simp only [List.map_toArray, List.map_cons, List.map_nil]); first | done | rfl) ?_; (with_reducible refine (laws_wcInts.calls kj5 _ _ t481 _ _ t487 false _ ?side1 ?side2 ?side3 ?side4 A26.out).mono ?_); (case side1 => repeat (first | exact (Kd.R_reads' HO_5.out).2.2 | (with_reducible refine Kd.C_alloc ?_ _) | (with_reducible refine Kd.C_drewN ?_ _) | (with_reducible refine Kd.C_drew ?_))); (case side2 => exact (Kd.R_reads' HO_5.out).2.1); (case side3 => repeat (first | exact (Kd.R_reads' HO_7.out).2.2 | (with_reducible refine Kd.C_alloc ?_ _) | (with_reducible refine Kd.C_drewN ?_ _) | (with_reducible refine Kd.C_drew ?_))); (case side4 => exact (Kd.R_reads' HO_7.out).2.1); rintro e w' ⟨rfl, ⟨nd, rfl⟩⟩; refine ⟨_, rfl, ?_⟩)); go_ret; exact ⟨by first | rfl | (simp [errW_none, errW_some] <;> rfl) | (simp [*, errW_none, errW_some] <;> rfl), by repeat (first | (with_reducible first | exact HB.out | apply below_alloc | apply pw_below_drewN | apply below_drew1) | exact HB.out)⟩
    ·
     replace c25 := Bool.eq_false_iff.mpr c25; subst c25; have H1 : (laws_FnLevelsTold.l0 kj5 t477 t478 t481 t482 false 0) = some r := by rw [if_neg (show ¬ (false = true) by decide)] at H; exact H
     clear H; have H := H1; clear H1; have H' := Aside0.mk H; clear H; go_wp2; go_loopg [9, 10] kj5 (fun kq v9 v10 w' => ∃ (x9_2 : Bool) (x10_2 : Int), v9 = .bool x9_2 ∧ v10 = .int .i64 x10_2 ∧ Aside0 (laws_FnLevelsTold.l0 kq t477 t478 t481 t482 x9_2 x10_2 = some r) ∧ Aside0 (kq ≤ kj5) ∧ Aside0 (Kd.R (Kd.int .i64) 3 w' w.heap.size (fun k_ => some k_ ≠ (v483 : Value).ownBlock ∧ some k_ ≠ (v485 : Value).ownBlock) (.slice Ao8 t477.length co8) t477) ∧ Aside0 (Kd.R (Kd.int .i64) 3 w' w.heap.size (fun k_ => some k_ ≠ ((.slice Ao8 t477.length co8) : Value).ownBlock ∧ some k_ ≠ (v485 : Value).ownBlock) v483 t481) ∧ Aside0 (Kd.R (Kd.int .i64) 3 w' w.heap.size (fun k_ => some k_ ≠ ((.slice Ao8 t477.length co8) : Value).ownBlock ∧ some k_ ≠ (v483 : Value).ownBlock) v485 t482) ∧ Aside0 (Below w.heap.size w w'))
     case atStart => exact ⟨(false), (0), (by first | rfl | (simp; done) | (simp [*]; done)), (by first | rfl | (simp; done) | (simp [*]; done)), H', ⟨Nat.le_refl _⟩, ⟨by (with_reducible repeat (first | apply Kd.R_alloc | apply Kd.R_drewN | apply Kd.R_drew)); exact Kd.R_mono HO_3.out (fun _ hk => ⟨hk.1, hk.2.1⟩)⟩, ⟨by (with_reducible repeat (first | apply Kd.R_alloc | apply Kd.R_drewN | apply Kd.R_drew)); exact Kd.R_mono HO_5.out (fun _ hk => ⟨hk.1, hk.2.1⟩)⟩, ⟨by (with_reducible repeat (first | apply Kd.R_alloc | apply Kd.R_drewN | apply Kd.R_drew)); exact Kd.R_mono HO_6.out (fun _ hk => ⟨hk.1, hk.2.1⟩)⟩, ⟨by repeat (first | (with_reducible first | exact HB.out | apply below_alloc | apply pw_below_drewN | apply below_drew1) | exact HB.out)⟩⟩
     case round =>
      clear H'; (try clear c1); (try clear c2); (try clear c2b0); (try clear c2b1); (try clear p2); (try clear c6); (try clear c12); (try clear c14); (try clear c16); (try clear c17); (try clear c18); (try clear c19); (try clear c25); (try clear c27); (try clear p2); obtain ⟨x9_2, x10_2, rfl, rfl, HA, HK2, HO_3, HO_5, HO_6, HB⟩ := hrel
      cases gk with
      | zero => exact absurd HA.out (by simp [laws_FnLevelsTold.l0])
      | succ k2 =>
       have H := HA.out; clear HA; simp only [laws_FnLevelsTold.l0] at H; by_cases c35 : x10_2 < (t477.length : Int)
       ·
        rw [if_pos c35] at H; have c35b0 : decide (x10_2 < (t477.length : Int)) = true := decide_eq_true c35; clear c35; by_cases c36 : 0 ≤ x10_2
        ·
         rw [if_pos c36] at H; have c36b0 : decide (0 ≤ x10_2) = true := decide_eq_true c36; clear c36; replace H := Option.bind_eq_some_iff.mp H; obtain ⟨t498, A370, H⟩ := H; replace H : (if t498 = 10 then (if x10_2 < (t481.length : Int) then (if (true != (decide ((rd t481 x10_2) < 0))) = true then (some false) else (if (rd t481 x10_2) > 20 then (some false) else (if x9_2 = true then (laws_FnLevelsTold.l0 k2 t477 t478 t481 t482 true (wrap64 (x10_2 + 1))) else (if (rd t481 x10_2) ≥ 0 then (if (rd t481 x10_2) = t478 then (laws_FnLevelsTold.l0 k2 t477 t478 t481 t482 (decide (t498 ≥ 14)) (wrap64 (x10_2 + 1))) else (some false)) else (laws_FnLevelsTold.l0 k2 t477 t478 t481 t482 (decide (t498 ≥ 14)) (wrap64 (x10_2 + 1))))))) else (none)) else ((laws_wcIn.f t498 14 18).bind fun t503 => (if x10_2 < (t481.length : Int) then (if (t503 != (decide ((rd t481 x10_2) < 0))) = true then (some false) else (if (rd t481 x10_2) > 20 then (some false) else (if x9_2 = true then (laws_FnLevelsTold.l0 k2 t477 t478 t481 t482 true (wrap64 (x10_2 + 1))) else (if (rd t481 x10_2) ≥ 0 then (if (rd t481 x10_2) = t478 then (laws_FnLevelsTold.l0 k2 t477 t478 t481 t482 (decide (t498 ≥ 14)) (wrap64 (x10_2 + 1))) else (some false)) else (laws_FnLevelsTold.l0 k2 t477 t478 t481 t482 (decide (t498 ≥ 14)) (wrap64 (x10_2 + 1))))))) else (none)))) = some r := H; have A37 := Aside0.mk A370; clear A370; by_cases c38 : t498 = 10
         ·
          rw [if_pos c38] at H; have c38b0 : (t498 == 10) = true := beq_iff_eq.mpr c38; have c38b1 : (t498 != 10) = false := bne_eq_false_iff_eq.mpr c38; clear c38; by_cases c39 : x10_2 < (t481.length : Int)
          ·
           rw [if_pos c39] at H; have c39b0 : decide (x10_2 < (t481.length : Int)) = true := decide_eq_true c39; clear c39; by_cases c40 : (true != (decide ((rd t481 x10_2) < 0))) = true
           ·
            rw [if_pos c40] at H; have c40b0 : (true != (decide ((rd t481 x10_2) < 0))) = true := c40; (try (have c40b1 : decide (true = (decide ((rd t481 x10_2) < 0))) = false := by simpa using c40)); (try (have c40b2 : (true == (decide ((rd t481 x10_2) < 0))) = false := by simpa using c40)); (try (have c40b3 : ¬ (true = (decide ((rd t481 x10_2) < 0))) := by simpa using c40)); clear c40; obtain rfl := Option.some.inj H; have p497 : 0 ≤ (x10_2 : Int) := of_decide_eq_true (by first | (with_reducible assumption) | assumption); have q497 : x10_2 < (t477.length : Int) := of_decide_eq_true (by first | (with_reducible assumption) | assumption); obtain ⟨ad497, e497, hx497_0⟩ := Kd.at_int (Kd.R_reads' HO_3.out).2.2 x10_2 p497 q497
            cases e497
            replace p497 := eq_true p497; replace q497 := eq_true q497; go_wp2_with (first | ((with_reducible refine gate_callee (f := 20) rfl ?_); refine goesL_ (some 66) rfl rfl Try.func20 (by kernel_rfl) rfl #[.int .i64 (rd t477 x10_2)] rfl (by (try simp only [List.map_toArray, List.map_cons, List.map_nil]); first | done | rfl) ?_; (with_reducible refine (spec_RuneBidi.calls k2 (rd t477 x10_2) t498 _ A37.out).mono ?_); rintro e w41 ⟨rfl, hb⟩; refine ⟨_, rfl, ?_⟩; have n0_ := Aside0.mk (Kd.R_below (by (with_reducible repeat (first | apply Kd.R_alloc | apply Kd.R_drewN | apply Kd.R_drew)); exact HO_3.out) hb); have n1_ := Aside0.mk (Kd.R_below (by (with_reducible repeat (first | apply Kd.R_alloc | apply Kd.R_drewN | apply Kd.R_drew)); exact HO_5.out) hb); have n2_ := Aside0.mk (Kd.R_below (by (with_reducible repeat (first | apply Kd.R_alloc | apply Kd.R_drewN | apply Kd.R_drew)); exact HO_6.out) hb); have n3_ := Aside0.mk (below_step (by repeat (first | (with_reducible first | exact HB.out | apply below_alloc | apply pw_below_drewN | apply below_drew1) | exact HB.out)) hb); clear HO_3; clear HO_5; clear HO_6; clear HB; have HO_3 := n0_; have HO_5 := n1_; have HO_6 := n2_; have HB := n3_; clear n0_ n1_ n2_ n3_; (try clear hb); (try clear hb2); (try clear hk); (try clear hi); obtain ⟨Ao42, co42, eo42⟩ := Kd.R_slice HO_5.out; subst eo42; have p499 : 0 ≤ (x10_2 : Int) := of_decide_eq_true (by first | (with_reducible assumption) | assumption); have q499 : x10_2 < (t481.length : Int) := of_decide_eq_true (by first | (with_reducible assumption) | assumption); obtain ⟨ad499, e499, hx499_0⟩ := Kd.at_int (Kd.R_reads' HO_5.out).2.2 x10_2 p499 q499; cases e499; replace p499 := eq_true p499; replace q499 := eq_true q499)); go_ret; exact ⟨by first | rfl | (simp [errW_none, errW_some] <;> rfl) | (simp [*, errW_none, errW_some] <;> rfl), by repeat (first | (with_reducible first | exact HB.out | apply below_alloc | apply pw_below_drewN | apply below_drew1) | exact HB.out)⟩
           ·
            rw [if_neg c40] at H; have c40b0 : (true != (decide ((rd t481 x10_2) < 0))) = false := by simpa using c40
            (try (have c40b1 : decide (true = (decide ((rd t481 x10_2) < 0))) = true := by simpa using c40)); (try (have c40b2 : (true == (decide ((rd t481 x10_2) < 0))) = true := by simpa using c40)); clear c40; by_cases c43 : (rd t481 x10_2) > 20
            ·
             rw [if_pos c43] at H; have c43b0 : decide (20 < (rd t481 x10_2)) = true := decide_eq_true c43; clear c43; obtain rfl := Option.some.inj H; have p497 : 0 ≤ (x10_2 : Int) := of_decide_eq_true (by first | (with_reducible assumption) | assumption); have q497 : x10_2 < (t477.length : Int) := of_decide_eq_true (by first | (with_reducible assumption) | assumption); obtain ⟨ad497, e497, hx497_0⟩ := Kd.at_int (Kd.R_reads' HO_3.out).2.2 x10_2 p497 q497
             cases e497
             replace p497 := eq_true p497; replace q497 := eq_true q497; go_wp2_with (first | ((with_reducible refine gate_callee (f := 20) rfl ?_); refine goesL_ (some 66) rfl rfl Try.func20 (by kernel_rfl) rfl #[.int .i64 (rd t477 x10_2)] rfl (by (try simp only [List.map_toArray, List.map_cons, List.map_nil]); first | done | rfl) ?_; (with_reducible refine (spec_RuneBidi.calls k2 (rd t477 x10_2) t498 _ A37.out).mono ?_); rintro e w44 ⟨rfl, hb⟩; refine ⟨_, rfl, ?_⟩; have n0_ := Aside0.mk (Kd.R_below (by (with_reducible repeat (first | apply Kd.R_alloc | apply Kd.R_drewN | apply Kd.R_drew)); exact HO_3.out) hb); have n1_ := Aside0.mk (Kd.R_below (by (with_reducible repeat (first | apply Kd.R_alloc | apply Kd.R_drewN | apply Kd.R_drew)); exact HO_5.out) hb); have n2_ := Aside0.mk (Kd.R_below (by (with_reducible repeat (first | apply Kd.R_alloc | apply Kd.R_drewN | apply Kd.R_drew)); exact HO_6.out) hb); have n3_ := Aside0.mk (below_step (by repeat (first | (with_reducible first | exact HB.out | apply below_alloc | apply pw_below_drewN | apply below_drew1) | exact HB.out)) hb); clear HO_3; clear HO_5; clear HO_6; clear HB; have HO_3 := n0_; have HO_5 := n1_; have HO_6 := n2_; have HB := n3_; clear n0_ n1_ n2_ n3_; (try clear hb); (try clear hb2); (try clear hk); (try clear hi); obtain ⟨Ao45, co45, eo45⟩ := Kd.R_slice HO_5.out; subst eo45; have p499 : 0 ≤ (x10_2 : Int) := of_decide_eq_true (by first | (with_reducible assumption) | assumption); have q499 : x10_2 < (t481.length : Int) := of_decide_eq_true (by first | (with_reducible assumption) | assumption); obtain ⟨ad499, e499, hx499_0⟩ := Kd.at_int (Kd.R_reads' HO_5.out).2.2 x10_2 p499 q499; cases e499; replace p499 := eq_true p499; replace q499 := eq_true q499; have p500 : 0 ≤ (x10_2 : Int) := of_decide_eq_true (by first | (with_reducible assumption) | assumption); have q500 : x10_2 < (t481.length : Int) := of_decide_eq_true (by first | (with_reducible assumption) | assumption); obtain ⟨ad500, e500, hx500_0⟩ := Kd.at_int (Kd.R_reads' HO_5.out).2.2 x10_2 p500 q500; obtain rfl : ad499 = ad500 := (by injection e500); replace p500 := eq_true p500; replace q500 := eq_true q500)); go_ret; exact ⟨by first | rfl | (simp [errW_none, errW_some] <;> rfl) | (simp [*, errW_none, errW_some] <;> rfl), by repeat (first | (with_reducible first | exact HB.out | apply below_alloc | apply pw_below_drewN | apply below_drew1) | exact HB.out)⟩
            ·
             rw [if_neg c43] at H; have c43b0 : decide (20 < (rd t481 x10_2)) = false := decide_eq_false c43; clear c43; by_cases c46 : x9_2 = true
             ·
              subst c46; have H1 : (laws_FnLevelsTold.l0 k2 t477 t478 t481 t482 true (wrap64 (x10_2 + 1))) = some r := by rw [if_pos rfl] at H; exact H
              clear H; have H := H1; clear H1; have H' := Aside0.mk H; clear H; have p497 : 0 ≤ (x10_2 : Int) := of_decide_eq_true (by first | (with_reducible assumption) | assumption); have q497 : x10_2 < (t477.length : Int) := of_decide_eq_true (by first | (with_reducible assumption) | assumption); obtain ⟨ad497, e497, hx497_0⟩ := Kd.at_int (Kd.R_reads' HO_3.out).2.2 x10_2 p497 q497
              cases e497
              replace p497 := eq_true p497; replace q497 := eq_true q497; go_wp2_with (first | ((with_reducible refine gate_callee (f := 20) rfl ?_); refine goesL_ (some 66) rfl rfl Try.func20 (by kernel_rfl) rfl #[.int .i64 (rd t477 x10_2)] rfl (by (try simp only [List.map_toArray, List.map_cons, List.map_nil]); first | done | rfl) ?_; (with_reducible refine (spec_RuneBidi.calls k2 (rd t477 x10_2) t498 _ A37.out).mono ?_); rintro e w47 ⟨rfl, hb⟩; refine ⟨_, rfl, ?_⟩; have n0_ := Aside0.mk (Kd.R_below (by (with_reducible repeat (first | apply Kd.R_alloc | apply Kd.R_drewN | apply Kd.R_drew)); exact HO_3.out) hb); have n1_ := Aside0.mk (Kd.R_below (by (with_reducible repeat (first | apply Kd.R_alloc | apply Kd.R_drewN | apply Kd.R_drew)); exact HO_5.out) hb); have n2_ := Aside0.mk (Kd.R_below (by (with_reducible repeat (first | apply Kd.R_alloc | apply Kd.R_drewN | apply Kd.R_drew)); exact HO_6.out) hb); have n3_ := Aside0.mk (below_step (by repeat (first | (with_reducible first | exact HB.out | apply below_alloc | apply pw_below_drewN | apply below_drew1) | exact HB.out)) hb); clear HO_3; clear HO_5; clear HO_6; clear HB; have HO_3 := n0_; have HO_5 := n1_; have HO_6 := n2_; have HB := n3_; clear n0_ n1_ n2_ n3_; (try clear hb); (try clear hb2); (try clear hk); (try clear hi); obtain ⟨Ao48, co48, eo48⟩ := Kd.R_slice HO_5.out; subst eo48; have p499 : 0 ≤ (x10_2 : Int) := of_decide_eq_true (by first | (with_reducible assumption) | assumption); have q499 : x10_2 < (t481.length : Int) := of_decide_eq_true (by first | (with_reducible assumption) | assumption); obtain ⟨ad499, e499, hx499_0⟩ := Kd.at_int (Kd.R_reads' HO_5.out).2.2 x10_2 p499 q499; cases e499; replace p499 := eq_true p499; replace q499 := eq_true q499; have p500 : 0 ≤ (x10_2 : Int) := of_decide_eq_true (by first | (with_reducible assumption) | assumption); have q500 : x10_2 < (t481.length : Int) := of_decide_eq_true (by first | (with_reducible assumption) | assumption); obtain ⟨ad500, e500, hx500_0⟩ := Kd.at_int (Kd.R_reads' HO_5.out).2.2 x10_2 p500 q500; obtain rfl : ad499 = ad500 := (by injection e500); replace p500 := eq_true p500; replace q500 := eq_true q500)); go_roundg k2
              case measure => have := HJ5.out; have := HK2.out; omega
              case rel => exact ⟨(true), (wrap64 (x10_2 + 1)), (by first | rfl | (simp; done) | (simp [*]; done)), (by first | rfl | (simp; done) | (simp [*]; done)), H', ⟨by have := HJ5.out; have := HK2.out; omega⟩, ⟨by (with_reducible repeat (first | apply Kd.R_alloc | apply Kd.R_drewN | apply Kd.R_drew)); exact HO_3.out⟩, ⟨by (with_reducible repeat (first | apply Kd.R_alloc | apply Kd.R_drewN | apply Kd.R_drew)); exact HO_5.out⟩, ⟨by (with_reducible repeat (first | apply Kd.R_alloc | apply Kd.R_drewN | apply Kd.R_drew)); exact HO_6.out⟩, ⟨by repeat (first | (with_reducible first | exact HB.out | apply below_alloc | apply pw_below_drewN | apply below_drew1) | exact HB.out)⟩⟩
             ·
              replace c46 := Bool.eq_false_iff.mpr c46; subst c46; have H1 : (if (rd t481 x10_2) ≥ 0 then (if (rd t481 x10_2) = t478 then (laws_FnLevelsTold.l0 k2 t477 t478 t481 t482 (decide (t498 ≥ 14)) (wrap64 (x10_2 + 1))) else (some false)) else (laws_FnLevelsTold.l0 k2 t477 t478 t481 t482 (decide (t498 ≥ 14)) (wrap64 (x10_2 + 1)))) = some r := by rw [if_neg (show ¬ (false = true) by decide)] at H; exact H
              clear H; have H := H1; clear H1; by_cases c49 : (rd t481 x10_2) ≥ 0
              ·
               rw [if_pos c49] at H; have c49b0 : decide (0 ≤ (rd t481 x10_2)) = true := decide_eq_true c49; clear c49; by_cases c50 : (rd t481 x10_2) = t478
               ·
                rw [if_pos c50] at H; have c50b0 : ((rd t481 x10_2) == t478) = true := beq_iff_eq.mpr c50; have c50b1 : ((rd t481 x10_2) != t478) = false := bne_eq_false_iff_eq.mpr c50; clear c50; have H' := Aside0.mk H; clear H; have p497 : 0 ≤ (x10_2 : Int) := of_decide_eq_true (by first | (with_reducible assumption) | assumption); have q497 : x10_2 < (t477.length : Int) := of_decide_eq_true (by first | (with_reducible assumption) | assumption); obtain ⟨ad497, e497, hx497_0⟩ := Kd.at_int (Kd.R_reads' HO_3.out).2.2 x10_2 p497 q497
                cases e497
                replace p497 := eq_true p497; replace q497 := eq_true q497; go_wp2_with (first | ((with_reducible refine gate_callee (f := 20) rfl ?_); refine goesL_ (some 66) rfl rfl Try.func20 (by kernel_rfl) rfl #[.int .i64 (rd t477 x10_2)] rfl (by (try simp only [List.map_toArray, List.map_cons, List.map_nil]); first | done | rfl) ?_; (with_reducible refine (spec_RuneBidi.calls k2 (rd t477 x10_2) t498 _ A37.out).mono ?_); rintro e w51 ⟨rfl, hb⟩; refine ⟨_, rfl, ?_⟩; have n0_ := Aside0.mk (Kd.R_below (by (with_reducible repeat (first | apply Kd.R_alloc | apply Kd.R_drewN | apply Kd.R_drew)); exact HO_3.out) hb); have n1_ := Aside0.mk (Kd.R_below (by (with_reducible repeat (first | apply Kd.R_alloc | apply Kd.R_drewN | apply Kd.R_drew)); exact HO_5.out) hb); have n2_ := Aside0.mk (Kd.R_below (by (with_reducible repeat (first | apply Kd.R_alloc | apply Kd.R_drewN | apply Kd.R_drew)); exact HO_6.out) hb); have n3_ := Aside0.mk (below_step (by repeat (first | (with_reducible first | exact HB.out | apply below_alloc | apply pw_below_drewN | apply below_drew1) | exact HB.out)) hb); clear HO_3; clear HO_5; clear HO_6; clear HB; have HO_3 := n0_; have HO_5 := n1_; have HO_6 := n2_; have HB := n3_; clear n0_ n1_ n2_ n3_; (try clear hb); (try clear hb2); (try clear hk); (try clear hi); obtain ⟨Ao52, co52, eo52⟩ := Kd.R_slice HO_5.out; subst eo52; have p499 : 0 ≤ (x10_2 : Int) := of_decide_eq_true (by first | (with_reducible assumption) | assumption); have q499 : x10_2 < (t481.length : Int) := of_decide_eq_true (by first | (with_reducible assumption) | assumption); obtain ⟨ad499, e499, hx499_0⟩ := Kd.at_int (Kd.R_reads' HO_5.out).2.2 x10_2 p499 q499; cases e499; replace p499 := eq_true p499; replace q499 := eq_true q499; have p500 : 0 ≤ (x10_2 : Int) := of_decide_eq_true (by first | (with_reducible assumption) | assumption); have q500 : x10_2 < (t481.length : Int) := of_decide_eq_true (by first | (with_reducible assumption) | assumption); obtain ⟨ad500, e500, hx500_0⟩ := Kd.at_int (Kd.R_reads' HO_5.out).2.2 x10_2 p500 q500; obtain rfl : ad499 = ad500 := (by injection e500); replace p500 := eq_true p500; replace q500 := eq_true q500; have p501 : 0 ≤ (x10_2 : Int) := of_decide_eq_true (by first | (with_reducible assumption) | assumption); have q501 : x10_2 < (t481.length : Int) := of_decide_eq_true (by first | (with_reducible assumption) | assumption); obtain ⟨ad501, e501, hx501_0⟩ := Kd.at_int (Kd.R_reads' HO_5.out).2.2 x10_2 p501 q501; obtain rfl : ad499 = ad501 := (by injection e501); replace p501 := eq_true p501; replace q501 := eq_true q501; have p502 : 0 ≤ (x10_2 : Int) := of_decide_eq_true (by first | (with_reducible assumption) | assumption); have q502 : x10_2 < (t481.length : Int) := of_decide_eq_true (by first | (with_reducible assumption) | assumption); obtain ⟨ad502, e502, hx502_0⟩ := Kd.at_int (Kd.R_reads' HO_5.out).2.2 x10_2 p502 q502; obtain rfl : ad499 = ad502 := (by injection e502); replace p502 := eq_true p502; replace q502 := eq_true q502)); go_roundg k2
                case measure => have := HJ5.out; have := HK2.out; omega
                case rel => exact ⟨(decide (t498 ≥ 14)), (wrap64 (x10_2 + 1)), (by first | rfl | (simp; done) | (simp [*]; done)), (by first | rfl | (simp; done) | (simp [*]; done)), H', ⟨by have := HJ5.out; have := HK2.out; omega⟩, ⟨by (with_reducible repeat (first | apply Kd.R_alloc | apply Kd.R_drewN | apply Kd.R_drew)); exact HO_3.out⟩, ⟨by (with_reducible repeat (first | apply Kd.R_alloc | apply Kd.R_drewN | apply Kd.R_drew)); exact HO_5.out⟩, ⟨by (with_reducible repeat (first | apply Kd.R_alloc | apply Kd.R_drewN | apply Kd.R_drew)); exact HO_6.out⟩, ⟨by repeat (first | (with_reducible first | exact HB.out | apply below_alloc | apply pw_below_drewN | apply below_drew1) | exact HB.out)⟩⟩
               ·
                rw [if_neg c50] at H; have c50b0 : ((rd t481 x10_2) == t478) = false := beq_eq_false_iff_ne.mpr c50; have c50b1 : ((rd t481 x10_2) != t478) = true := bne_iff_ne.mpr c50; obtain rfl := Option.some.inj H; have p497 : 0 ≤ (x10_2 : Int) := of_decide_eq_true (by first | (with_reducible assumption) | assumption); have q497 : x10_2 < (t477.length : Int) := of_decide_eq_true (by first | (with_reducible assumption) | assumption); obtain ⟨ad497, e497, hx497_0⟩ := Kd.at_int (Kd.R_reads' HO_3.out).2.2 x10_2 p497 q497
                cases e497
                replace p497 := eq_true p497; replace q497 := eq_true q497; go_wp2_with (first | ((with_reducible refine gate_callee (f := 20) rfl ?_); refine goesL_ (some 66) rfl rfl Try.func20 (by kernel_rfl) rfl #[.int .i64 (rd t477 x10_2)] rfl (by (try simp only [List.map_toArray, List.map_cons, List.map_nil]); first | done | rfl) ?_; (with_reducible refine (spec_RuneBidi.calls k2 (rd t477 x10_2) t498 _ A37.out).mono ?_); rintro e w53 ⟨rfl, hb⟩; refine ⟨_, rfl, ?_⟩; have n0_ := Aside0.mk (Kd.R_below (by (with_reducible repeat (first | apply Kd.R_alloc | apply Kd.R_drewN | apply Kd.R_drew)); exact HO_3.out) hb); have n1_ := Aside0.mk (Kd.R_below (by (with_reducible repeat (first | apply Kd.R_alloc | apply Kd.R_drewN | apply Kd.R_drew)); exact HO_5.out) hb); have n2_ := Aside0.mk (Kd.R_below (by (with_reducible repeat (first | apply Kd.R_alloc | apply Kd.R_drewN | apply Kd.R_drew)); exact HO_6.out) hb); have n3_ := Aside0.mk (below_step (by repeat (first | (with_reducible first | exact HB.out | apply below_alloc | apply pw_below_drewN | apply below_drew1) | exact HB.out)) hb); clear HO_3; clear HO_5; clear HO_6; clear HB; have HO_3 := n0_; have HO_5 := n1_; have HO_6 := n2_; have HB := n3_; clear n0_ n1_ n2_ n3_; (try clear hb); (try clear hb2); (try clear hk); (try clear hi); obtain ⟨Ao54, co54, eo54⟩ := Kd.R_slice HO_5.out; subst eo54; have p499 : 0 ≤ (x10_2 : Int) := of_decide_eq_true (by first | (with_reducible assumption) | assumption); have q499 : x10_2 < (t481.length : Int) := of_decide_eq_true (by first | (with_reducible assumption) | assumption); obtain ⟨ad499, e499, hx499_0⟩ := Kd.at_int (Kd.R_reads' HO_5.out).2.2 x10_2 p499 q499; cases e499; replace p499 := eq_true p499; replace q499 := eq_true q499; have p500 : 0 ≤ (x10_2 : Int) := of_decide_eq_true (by first | (with_reducible assumption) | assumption); have q500 : x10_2 < (t481.length : Int) := of_decide_eq_true (by first | (with_reducible assumption) | assumption); obtain ⟨ad500, e500, hx500_0⟩ := Kd.at_int (Kd.R_reads' HO_5.out).2.2 x10_2 p500 q500; obtain rfl : ad499 = ad500 := (by injection e500); replace p500 := eq_true p500; replace q500 := eq_true q500; have p501 : 0 ≤ (x10_2 : Int) := of_decide_eq_true (by first | (with_reducible assumption) | assumption); have q501 : x10_2 < (t481.length : Int) := of_decide_eq_true (by first | (with_reducible assumption) | assumption); obtain ⟨ad501, e501, hx501_0⟩ := Kd.at_int (Kd.R_reads' HO_5.out).2.2 x10_2 p501 q501; obtain rfl : ad499 = ad501 := (by injection e501); replace p501 := eq_true p501; replace q501 := eq_true q501; have p502 : 0 ≤ (x10_2 : Int) := of_decide_eq_true (by first | (with_reducible assumption) | assumption); have q502 : x10_2 < (t481.length : Int) := of_decide_eq_true (by first | (with_reducible assumption) | assumption); obtain ⟨ad502, e502, hx502_0⟩ := Kd.at_int (Kd.R_reads' HO_5.out).2.2 x10_2 p502 q502; obtain rfl : ad499 = ad502 := (by injection e502); replace p502 := eq_true p502; replace q502 := eq_true q502)); go_ret; exact ⟨by first | rfl | (simp [errW_none, errW_some] <;> rfl) | (simp [*, errW_none, errW_some] <;> rfl), by repeat (first | (with_reducible first | exact HB.out | apply below_alloc | apply pw_below_drewN | apply below_drew1) | exact HB.out)⟩
              ·
               rw [if_neg c49] at H; have c49b0 : decide (0 ≤ (rd t481 x10_2)) = false := decide_eq_false c49; clear c49; have H' := Aside0.mk H; clear H; have p497 : 0 ≤ (x10_2 : Int) := of_decide_eq_true (by first | (with_reducible assumption) | assumption); have q497 : x10_2 < (t477.length : Int) := of_decide_eq_true (by first | (with_reducible assumption) | assumption); obtain ⟨ad497, e497, hx497_0⟩ := Kd.at_int (Kd.R_reads' HO_3.out).2.2 x10_2 p497 q497
               cases e497
               replace p497 := eq_true p497; replace q497 := eq_true q497; go_wp2_with (first | ((with_reducible refine gate_callee (f := 20) rfl ?_); refine goesL_ (some 66) rfl rfl Try.func20 (by kernel_rfl) rfl #[.int .i64 (rd t477 x10_2)] rfl (by (try simp only [List.map_toArray, List.map_cons, List.map_nil]); first | done | rfl) ?_; (with_reducible refine (spec_RuneBidi.calls k2 (rd t477 x10_2) t498 _ A37.out).mono ?_); rintro e w55 ⟨rfl, hb⟩; refine ⟨_, rfl, ?_⟩; have n0_ := Aside0.mk (Kd.R_below (by (with_reducible repeat (first | apply Kd.R_alloc | apply Kd.R_drewN | apply Kd.R_drew)); exact HO_3.out) hb); have n1_ := Aside0.mk (Kd.R_below (by (with_reducible repeat (first | apply Kd.R_alloc | apply Kd.R_drewN | apply Kd.R_drew)); exact HO_5.out) hb); have n2_ := Aside0.mk (Kd.R_below (by (with_reducible repeat (first | apply Kd.R_alloc | apply Kd.R_drewN | apply Kd.R_drew)); exact HO_6.out) hb); have n3_ := Aside0.mk (below_step (by repeat (first | (with_reducible first | exact HB.out | apply below_alloc | apply pw_below_drewN | apply below_drew1) | exact HB.out)) hb); clear HO_3; clear HO_5; clear HO_6; clear HB; have HO_3 := n0_; have HO_5 := n1_; have HO_6 := n2_; have HB := n3_; clear n0_ n1_ n2_ n3_; (try clear hb); (try clear hb2); (try clear hk); (try clear hi); obtain ⟨Ao56, co56, eo56⟩ := Kd.R_slice HO_5.out; subst eo56; have p499 : 0 ≤ (x10_2 : Int) := of_decide_eq_true (by first | (with_reducible assumption) | assumption); have q499 : x10_2 < (t481.length : Int) := of_decide_eq_true (by first | (with_reducible assumption) | assumption); obtain ⟨ad499, e499, hx499_0⟩ := Kd.at_int (Kd.R_reads' HO_5.out).2.2 x10_2 p499 q499; cases e499; replace p499 := eq_true p499; replace q499 := eq_true q499; have p500 : 0 ≤ (x10_2 : Int) := of_decide_eq_true (by first | (with_reducible assumption) | assumption); have q500 : x10_2 < (t481.length : Int) := of_decide_eq_true (by first | (with_reducible assumption) | assumption); obtain ⟨ad500, e500, hx500_0⟩ := Kd.at_int (Kd.R_reads' HO_5.out).2.2 x10_2 p500 q500; obtain rfl : ad499 = ad500 := (by injection e500); replace p500 := eq_true p500; replace q500 := eq_true q500; have p501 : 0 ≤ (x10_2 : Int) := of_decide_eq_true (by first | (with_reducible assumption) | assumption); have q501 : x10_2 < (t481.length : Int) := of_decide_eq_true (by first | (with_reducible assumption) | assumption); obtain ⟨ad501, e501, hx501_0⟩ := Kd.at_int (Kd.R_reads' HO_5.out).2.2 x10_2 p501 q501; obtain rfl : ad499 = ad501 := (by injection e501); replace p501 := eq_true p501; replace q501 := eq_true q501)); go_roundg k2
               case measure => have := HJ5.out; have := HK2.out; omega
               case rel => exact ⟨(decide (t498 ≥ 14)), (wrap64 (x10_2 + 1)), (by first | rfl | (simp; done) | (simp [*]; done)), (by first | rfl | (simp; done) | (simp [*]; done)), H', ⟨by have := HJ5.out; have := HK2.out; omega⟩, ⟨by (with_reducible repeat (first | apply Kd.R_alloc | apply Kd.R_drewN | apply Kd.R_drew)); exact HO_3.out⟩, ⟨by (with_reducible repeat (first | apply Kd.R_alloc | apply Kd.R_drewN | apply Kd.R_drew)); exact HO_5.out⟩, ⟨by (with_reducible repeat (first | apply Kd.R_alloc | apply Kd.R_drewN | apply Kd.R_drew)); exact HO_6.out⟩, ⟨by repeat (first | (with_reducible first | exact HB.out | apply below_alloc | apply pw_below_drewN | apply below_drew1) | exact HB.out)⟩⟩
          ·
           rw [if_neg c39] at H; exact absurd H (by simp)
         ·
          rw [if_neg c38] at H; have c38b0 : (t498 == 10) = false := beq_eq_false_iff_ne.mpr c38; have c38b1 : (t498 != 10) = true := bne_iff_ne.mpr c38; replace H := Option.bind_eq_some_iff.mp H; obtain ⟨t503, A570, H⟩ := H; replace H : (if x10_2 < (t481.length : Int) then (if (t503 != (decide ((rd t481 x10_2) < 0))) = true then (some false) else (if (rd t481 x10_2) > 20 then (some false) else (if x9_2 = true then (laws_FnLevelsTold.l0 k2 t477 t478 t481 t482 true (wrap64 (x10_2 + 1))) else (if (rd t481 x10_2) ≥ 0 then (if (rd t481 x10_2) = t478 then (laws_FnLevelsTold.l0 k2 t477 t478 t481 t482 (decide (t498 ≥ 14)) (wrap64 (x10_2 + 1))) else (some false)) else (laws_FnLevelsTold.l0 k2 t477 t478 t481 t482 (decide (t498 ≥ 14)) (wrap64 (x10_2 + 1))))))) else (none)) = some r := H; have A57 := Aside0.mk A570; clear A570; by_cases c58 : x10_2 < (t481.length : Int)
          ·
           rw [if_pos c58] at H; have c58b0 : decide (x10_2 < (t481.length : Int)) = true := decide_eq_true c58; clear c58; by_cases c59 : (t503 != (decide ((rd t481 x10_2) < 0))) = true
           ·
            rw [if_pos c59] at H; have c59b0 : (t503 != (decide ((rd t481 x10_2) < 0))) = true := c59; (try (have c59b1 : decide (t503 = (decide ((rd t481 x10_2) < 0))) = false := by simpa using c59)); (try (have c59b2 : (t503 == (decide ((rd t481 x10_2) < 0))) = false := by simpa using c59)); (try (have c59b3 : ¬ (t503 = (decide ((rd t481 x10_2) < 0))) := by simpa using c59)); clear c59; obtain rfl := Option.some.inj H; have p497 : 0 ≤ (x10_2 : Int) := of_decide_eq_true (by first | (with_reducible assumption) | assumption); have q497 : x10_2 < (t477.length : Int) := of_decide_eq_true (by first | (with_reducible assumption) | assumption); obtain ⟨ad497, e497, hx497_0⟩ := Kd.at_int (Kd.R_reads' HO_3.out).2.2 x10_2 p497 q497
            cases e497
            replace p497 := eq_true p497; replace q497 := eq_true q497; go_wp2_with (first | ((with_reducible refine gate_callee (f := 20) rfl ?_); refine goesL_ (some 66) rfl rfl Try.func20 (by kernel_rfl) rfl #[.int .i64 (rd t477 x10_2)] rfl (by (try simp only [List.map_toArray, List.map_cons, List.map_nil]); first | done | rfl) ?_; (with_reducible refine (spec_RuneBidi.calls k2 (rd t477 x10_2) t498 _ A37.out).mono ?_); rintro e w60 ⟨rfl, hb⟩; refine ⟨_, rfl, ?_⟩; have n0_ := Aside0.mk (Kd.R_below (by (with_reducible repeat (first | apply Kd.R_alloc | apply Kd.R_drewN | apply Kd.R_drew)); exact HO_3.out) hb); have n1_ := Aside0.mk (Kd.R_below (by (with_reducible repeat (first | apply Kd.R_alloc | apply Kd.R_drewN | apply Kd.R_drew)); exact HO_5.out) hb); have n2_ := Aside0.mk (Kd.R_below (by (with_reducible repeat (first | apply Kd.R_alloc | apply Kd.R_drewN | apply Kd.R_drew)); exact HO_6.out) hb); have n3_ := Aside0.mk (below_step (by repeat (first | (with_reducible first | exact HB.out | apply below_alloc | apply pw_below_drewN | apply below_drew1) | exact HB.out)) hb); clear HO_3; clear HO_5; clear HO_6; clear HB; have HO_3 := n0_; have HO_5 := n1_; have HO_6 := n2_; have HB := n3_; clear n0_ n1_ n2_ n3_; (try clear hb); (try clear hb2); (try clear hk); (try clear hi)) | (go_at_call 21; (with_reducible refine (laws_wcIn.calls t498 14 18 t503 _ A57.out).mono ?_); rintro e w' ⟨rfl, ⟨nd, rfl⟩⟩; obtain ⟨Ao61, co61, eo61⟩ := Kd.R_slice HO_5.out; subst eo61; have p504 : 0 ≤ (x10_2 : Int) := of_decide_eq_true (by first | (with_reducible assumption) | assumption); have q504 : x10_2 < (t481.length : Int) := of_decide_eq_true (by first | (with_reducible assumption) | assumption); obtain ⟨ad504, e504, hx504_0⟩ := Kd.at_int (Kd.R_reads' HO_5.out).2.2 x10_2 p504 q504; cases e504; replace p504 := eq_true p504; replace q504 := eq_true q504)); go_ret; exact ⟨by first | rfl | (simp [errW_none, errW_some] <;> rfl) | (simp [*, errW_none, errW_some] <;> rfl), by repeat (first | (with_reducible first | exact HB.out | apply below_alloc | apply pw_below_drewN | apply below_drew1) | exact HB.out)⟩
           ·
            rw [if_neg c59] at H; have c59b0 : (t503 != (decide ((rd t481 x10_2) < 0))) = false := by simpa using c59
            (try (have c59b1 : decide (t503 = (decide ((rd t481 x10_2) < 0))) = true := by simpa using c59)); (try (have c59b2 : (t503 == (decide ((rd t481 x10_2) < 0))) = true := by simpa using c59)); clear c59; by_cases c62 : (rd t481 x10_2) > 20
            ·
             rw [if_pos c62] at H; have c62b0 : decide (20 < (rd t481 x10_2)) = true := decide_eq_true c62; clear c62; obtain rfl := Option.some.inj H; have p497 : 0 ≤ (x10_2 : Int) := of_decide_eq_true (by first | (with_reducible assumption) | assumption); have q497 : x10_2 < (t477.length : Int) := of_decide_eq_true (by first | (with_reducible assumption) | assumption); obtain ⟨ad497, e497, hx497_0⟩ := Kd.at_int (Kd.R_reads' HO_3.out).2.2 x10_2 p497 q497
             cases e497
             replace p497 := eq_true p497; replace q497 := eq_true q497; go_wp2_with (first | ((with_reducible refine gate_callee (f := 20) rfl ?_); refine goesL_ (some 66) rfl rfl Try.func20 (by kernel_rfl) rfl #[.int .i64 (rd t477 x10_2)] rfl (by (try simp only [List.map_toArray, List.map_cons, List.map_nil]); first | done | rfl) ?_; (with_reducible refine (spec_RuneBidi.calls k2 (rd t477 x10_2) t498 _ A37.out).mono ?_); rintro e w63 ⟨rfl, hb⟩; refine ⟨_, rfl, ?_⟩; have n0_ := Aside0.mk (Kd.R_below (by (with_reducible repeat (first | apply Kd.R_alloc | apply Kd.R_drewN | apply Kd.R_drew)); exact HO_3.out) hb); have n1_ := Aside0.mk (Kd.R_below (by (with_reducible repeat (first | apply Kd.R_alloc | apply Kd.R_drewN | apply Kd.R_drew)); exact HO_5.out) hb); have n2_ := Aside0.mk (Kd.R_below (by (with_reducible repeat (first | apply Kd.R_alloc | apply Kd.R_drewN | apply Kd.R_drew)); exact HO_6.out) hb); have n3_ := Aside0.mk (below_step (by repeat (first | (with_reducible first | exact HB.out | apply below_alloc | apply pw_below_drewN | apply below_drew1) | exact HB.out)) hb); clear HO_3; clear HO_5; clear HO_6; clear HB; have HO_3 := n0_; have HO_5 := n1_; have HO_6 := n2_; have HB := n3_; clear n0_ n1_ n2_ n3_; (try clear hb); (try clear hb2); (try clear hk); (try clear hi)) | (go_at_call 21; (with_reducible refine (laws_wcIn.calls t498 14 18 t503 _ A57.out).mono ?_); rintro e w' ⟨rfl, ⟨nd, rfl⟩⟩; obtain ⟨Ao64, co64, eo64⟩ := Kd.R_slice HO_5.out; subst eo64; have p504 : 0 ≤ (x10_2 : Int) := of_decide_eq_true (by first | (with_reducible assumption) | assumption); have q504 : x10_2 < (t481.length : Int) := of_decide_eq_true (by first | (with_reducible assumption) | assumption); obtain ⟨ad504, e504, hx504_0⟩ := Kd.at_int (Kd.R_reads' HO_5.out).2.2 x10_2 p504 q504; cases e504; replace p504 := eq_true p504; replace q504 := eq_true q504; have p505 : 0 ≤ (x10_2 : Int) := of_decide_eq_true (by first | (with_reducible assumption) | assumption); have q505 : x10_2 < (t481.length : Int) := of_decide_eq_true (by first | (with_reducible assumption) | assumption); obtain ⟨ad505, e505, hx505_0⟩ := Kd.at_int (Kd.R_reads' HO_5.out).2.2 x10_2 p505 q505; obtain rfl : ad504 = ad505 := (by injection e505); replace p505 := eq_true p505; replace q505 := eq_true q505)); go_ret; exact ⟨by first | rfl | (simp [errW_none, errW_some] <;> rfl) | (simp [*, errW_none, errW_some] <;> rfl), by repeat (first | (with_reducible first | exact HB.out | apply below_alloc | apply pw_below_drewN | apply below_drew1) | exact HB.out)⟩
            ·
             rw [if_neg c62] at H; have c62b0 : decide (20 < (rd t481 x10_2)) = false := decide_eq_false c62; clear c62; by_cases c65 : x9_2 = true
             ·
              subst c65; have H1 : (laws_FnLevelsTold.l0 k2 t477 t478 t481 t482 true (wrap64 (x10_2 + 1))) = some r := by rw [if_pos rfl] at H; exact H
              clear H; have H := H1; clear H1; have H' := Aside0.mk H; clear H; have p497 : 0 ≤ (x10_2 : Int) := of_decide_eq_true (by first | (with_reducible assumption) | assumption); have q497 : x10_2 < (t477.length : Int) := of_decide_eq_true (by first | (with_reducible assumption) | assumption); obtain ⟨ad497, e497, hx497_0⟩ := Kd.at_int (Kd.R_reads' HO_3.out).2.2 x10_2 p497 q497
              cases e497
              replace p497 := eq_true p497; replace q497 := eq_true q497; go_wp2_with (first | ((with_reducible refine gate_callee (f := 20) rfl ?_); refine goesL_ (some 66) rfl rfl Try.func20 (by kernel_rfl) rfl #[.int .i64 (rd t477 x10_2)] rfl (by (try simp only [List.map_toArray, List.map_cons, List.map_nil]); first | done | rfl) ?_; (with_reducible refine (spec_RuneBidi.calls k2 (rd t477 x10_2) t498 _ A37.out).mono ?_); rintro e w66 ⟨rfl, hb⟩; refine ⟨_, rfl, ?_⟩; have n0_ := Aside0.mk (Kd.R_below (by (with_reducible repeat (first | apply Kd.R_alloc | apply Kd.R_drewN | apply Kd.R_drew)); exact HO_3.out) hb); have n1_ := Aside0.mk (Kd.R_below (by (with_reducible repeat (first | apply Kd.R_alloc | apply Kd.R_drewN | apply Kd.R_drew)); exact HO_5.out) hb); have n2_ := Aside0.mk (Kd.R_below (by (with_reducible repeat (first | apply Kd.R_alloc | apply Kd.R_drewN | apply Kd.R_drew)); exact HO_6.out) hb); have n3_ := Aside0.mk (below_step (by repeat (first | (with_reducible first | exact HB.out | apply below_alloc | apply pw_below_drewN | apply below_drew1) | exact HB.out)) hb); clear HO_3; clear HO_5; clear HO_6; clear HB; have HO_3 := n0_; have HO_5 := n1_; have HO_6 := n2_; have HB := n3_; clear n0_ n1_ n2_ n3_; (try clear hb); (try clear hb2); (try clear hk); (try clear hi)) | (go_at_call 21; (with_reducible refine (laws_wcIn.calls t498 14 18 t503 _ A57.out).mono ?_); rintro e w' ⟨rfl, ⟨nd, rfl⟩⟩; obtain ⟨Ao67, co67, eo67⟩ := Kd.R_slice HO_5.out; subst eo67; have p504 : 0 ≤ (x10_2 : Int) := of_decide_eq_true (by first | (with_reducible assumption) | assumption); have q504 : x10_2 < (t481.length : Int) := of_decide_eq_true (by first | (with_reducible assumption) | assumption); obtain ⟨ad504, e504, hx504_0⟩ := Kd.at_int (Kd.R_reads' HO_5.out).2.2 x10_2 p504 q504; cases e504; replace p504 := eq_true p504; replace q504 := eq_true q504; have p505 : 0 ≤ (x10_2 : Int) := of_decide_eq_true (by first | (with_reducible assumption) | assumption); have q505 : x10_2 < (t481.length : Int) := of_decide_eq_true (by first | (with_reducible assumption) | assumption); obtain ⟨ad505, e505, hx505_0⟩ := Kd.at_int (Kd.R_reads' HO_5.out).2.2 x10_2 p505 q505; obtain rfl : ad504 = ad505 := (by injection e505); replace p505 := eq_true p505; replace q505 := eq_true q505)); go_roundg k2
              case measure => have := HJ5.out; have := HK2.out; omega
              case rel => exact ⟨(true), (wrap64 (x10_2 + 1)), (by first | rfl | (simp; done) | (simp [*]; done)), (by first | rfl | (simp; done) | (simp [*]; done)), H', ⟨by have := HJ5.out; have := HK2.out; omega⟩, ⟨by (with_reducible repeat (first | apply Kd.R_alloc | apply Kd.R_drewN | apply Kd.R_drew)); exact HO_3.out⟩, ⟨by (with_reducible repeat (first | apply Kd.R_alloc | apply Kd.R_drewN | apply Kd.R_drew)); exact HO_5.out⟩, ⟨by (with_reducible repeat (first | apply Kd.R_alloc | apply Kd.R_drewN | apply Kd.R_drew)); exact HO_6.out⟩, ⟨by repeat (first | (with_reducible first | exact HB.out | apply below_alloc | apply pw_below_drewN | apply below_drew1) | exact HB.out)⟩⟩
             ·
              replace c65 := Bool.eq_false_iff.mpr c65; subst c65; have H1 : (if (rd t481 x10_2) ≥ 0 then (if (rd t481 x10_2) = t478 then (laws_FnLevelsTold.l0 k2 t477 t478 t481 t482 (decide (t498 ≥ 14)) (wrap64 (x10_2 + 1))) else (some false)) else (laws_FnLevelsTold.l0 k2 t477 t478 t481 t482 (decide (t498 ≥ 14)) (wrap64 (x10_2 + 1)))) = some r := by rw [if_neg (show ¬ (false = true) by decide)] at H; exact H
              clear H; have H := H1; clear H1; by_cases c68 : (rd t481 x10_2) ≥ 0
              ·
               rw [if_pos c68] at H; have c68b0 : decide (0 ≤ (rd t481 x10_2)) = true := decide_eq_true c68; clear c68; by_cases c69 : (rd t481 x10_2) = t478
               ·
                rw [if_pos c69] at H; have c69b0 : ((rd t481 x10_2) == t478) = true := beq_iff_eq.mpr c69; have c69b1 : ((rd t481 x10_2) != t478) = false := bne_eq_false_iff_eq.mpr c69; clear c69; have H' := Aside0.mk H; clear H; have p497 : 0 ≤ (x10_2 : Int) := of_decide_eq_true (by first | (with_reducible assumption) | assumption); have q497 : x10_2 < (t477.length : Int) := of_decide_eq_true (by first | (with_reducible assumption) | assumption); obtain ⟨ad497, e497, hx497_0⟩ := Kd.at_int (Kd.R_reads' HO_3.out).2.2 x10_2 p497 q497
                cases e497
                replace p497 := eq_true p497; replace q497 := eq_true q497; go_wp2_with (first | ((with_reducible refine gate_callee (f := 20) rfl ?_); refine goesL_ (some 66) rfl rfl Try.func20 (by kernel_rfl) rfl #[.int .i64 (rd t477 x10_2)] rfl (by (try simp only [List.map_toArray, List.map_cons, List.map_nil]); first | done | rfl) ?_; (with_reducible refine (spec_RuneBidi.calls k2 (rd t477 x10_2) t498 _ A37.out).mono ?_); rintro e w70 ⟨rfl, hb⟩; refine ⟨_, rfl, ?_⟩; have n0_ := Aside0.mk (Kd.R_below (by (with_reducible repeat (first | apply Kd.R_alloc | apply Kd.R_drewN | apply Kd.R_drew)); exact HO_3.out) hb); have n1_ := Aside0.mk (Kd.R_below (by (with_reducible repeat (first | apply Kd.R_alloc | apply Kd.R_drewN | apply Kd.R_drew)); exact HO_5.out) hb); have n2_ := Aside0.mk (Kd.R_below (by (with_reducible repeat (first | apply Kd.R_alloc | apply Kd.R_drewN | apply Kd.R_drew)); exact HO_6.out) hb); have n3_ := Aside0.mk (below_step (by repeat (first | (with_reducible first | exact HB.out | apply below_alloc | apply pw_below_drewN | apply below_drew1) | exact HB.out)) hb); clear HO_3; clear HO_5; clear HO_6; clear HB; have HO_3 := n0_; have HO_5 := n1_; have HO_6 := n2_; have HB := n3_; clear n0_ n1_ n2_ n3_; (try clear hb); (try clear hb2); (try clear hk); (try clear hi)) | (go_at_call 21; (with_reducible refine (laws_wcIn.calls t498 14 18 t503 _ A57.out).mono ?_); rintro e w' ⟨rfl, ⟨nd, rfl⟩⟩; obtain ⟨Ao71, co71, eo71⟩ := Kd.R_slice HO_5.out; subst eo71; have p504 : 0 ≤ (x10_2 : Int) := of_decide_eq_true (by first | (with_reducible assumption) | assumption); have q504 : x10_2 < (t481.length : Int) := of_decide_eq_true (by first | (with_reducible assumption) | assumption); obtain ⟨ad504, e504, hx504_0⟩ := Kd.at_int (Kd.R_reads' HO_5.out).2.2 x10_2 p504 q504; cases e504; replace p504 := eq_true p504; replace q504 := eq_true q504; have p505 : 0 ≤ (x10_2 : Int) := of_decide_eq_true (by first | (with_reducible assumption) | assumption); have q505 : x10_2 < (t481.length : Int) := of_decide_eq_true (by first | (with_reducible assumption) | assumption); obtain ⟨ad505, e505, hx505_0⟩ := Kd.at_int (Kd.R_reads' HO_5.out).2.2 x10_2 p505 q505; obtain rfl : ad504 = ad505 := (by injection e505); replace p505 := eq_true p505; replace q505 := eq_true q505; have p506 : 0 ≤ (x10_2 : Int) := of_decide_eq_true (by first | (with_reducible assumption) | assumption); have q506 : x10_2 < (t481.length : Int) := of_decide_eq_true (by first | (with_reducible assumption) | assumption); obtain ⟨ad506, e506, hx506_0⟩ := Kd.at_int (Kd.R_reads' HO_5.out).2.2 x10_2 p506 q506; obtain rfl : ad504 = ad506 := (by injection e506); replace p506 := eq_true p506; replace q506 := eq_true q506; have p507 : 0 ≤ (x10_2 : Int) := of_decide_eq_true (by first | (with_reducible assumption) | assumption); have q507 : x10_2 < (t481.length : Int) := of_decide_eq_true (by first | (with_reducible assumption) | assumption); obtain ⟨ad507, e507, hx507_0⟩ := Kd.at_int (Kd.R_reads' HO_5.out).2.2 x10_2 p507 q507; obtain rfl : ad504 = ad507 := (by injection e507); replace p507 := eq_true p507; replace q507 := eq_true q507)); go_roundg k2
                case measure => have := HJ5.out; have := HK2.out; omega
                case rel => exact ⟨(decide (t498 ≥ 14)), (wrap64 (x10_2 + 1)), (by first | rfl | (simp; done) | (simp [*]; done)), (by first | rfl | (simp; done) | (simp [*]; done)), H', ⟨by have := HJ5.out; have := HK2.out; omega⟩, ⟨by (with_reducible repeat (first | apply Kd.R_alloc | apply Kd.R_drewN | apply Kd.R_drew)); exact HO_3.out⟩, ⟨by (with_reducible repeat (first | apply Kd.R_alloc | apply Kd.R_drewN | apply Kd.R_drew)); exact HO_5.out⟩, ⟨by (with_reducible repeat (first | apply Kd.R_alloc | apply Kd.R_drewN | apply Kd.R_drew)); exact HO_6.out⟩, ⟨by repeat (first | (with_reducible first | exact HB.out | apply below_alloc | apply pw_below_drewN | apply below_drew1) | exact HB.out)⟩⟩
               ·
                rw [if_neg c69] at H; have c69b0 : ((rd t481 x10_2) == t478) = false := beq_eq_false_iff_ne.mpr c69; have c69b1 : ((rd t481 x10_2) != t478) = true := bne_iff_ne.mpr c69; obtain rfl := Option.some.inj H; have p497 : 0 ≤ (x10_2 : Int) := of_decide_eq_true (by first | (with_reducible assumption) | assumption); have q497 : x10_2 < (t477.length : Int) := of_decide_eq_true (by first | (with_reducible assumption) | assumption); obtain ⟨ad497, e497, hx497_0⟩ := Kd.at_int (Kd.R_reads' HO_3.out).2.2 x10_2 p497 q497
                cases e497
                replace p497 := eq_true p497; replace q497 := eq_true q497; go_wp2_with (first | ((with_reducible refine gate_callee (f := 20) rfl ?_); refine goesL_ (some 66) rfl rfl Try.func20 (by kernel_rfl) rfl #[.int .i64 (rd t477 x10_2)] rfl (by (try simp only [List.map_toArray, List.map_cons, List.map_nil]); first | done | rfl) ?_; (with_reducible refine (spec_RuneBidi.calls k2 (rd t477 x10_2) t498 _ A37.out).mono ?_); rintro e w72 ⟨rfl, hb⟩; refine ⟨_, rfl, ?_⟩; have n0_ := Aside0.mk (Kd.R_below (by (with_reducible repeat (first | apply Kd.R_alloc | apply Kd.R_drewN | apply Kd.R_drew)); exact HO_3.out) hb); have n1_ := Aside0.mk (Kd.R_below (by (with_reducible repeat (first | apply Kd.R_alloc | apply Kd.R_drewN | apply Kd.R_drew)); exact HO_5.out) hb); have n2_ := Aside0.mk (Kd.R_below (by (with_reducible repeat (first | apply Kd.R_alloc | apply Kd.R_drewN | apply Kd.R_drew)); exact HO_6.out) hb); have n3_ := Aside0.mk (below_step (by repeat (first | (with_reducible first | exact HB.out | apply below_alloc | apply pw_below_drewN | apply below_drew1) | exact HB.out)) hb); clear HO_3; clear HO_5; clear HO_6; clear HB; have HO_3 := n0_; have HO_5 := n1_; have HO_6 := n2_; have HB := n3_; clear n0_ n1_ n2_ n3_; (try clear hb); (try clear hb2); (try clear hk); (try clear hi)) | (go_at_call 21; (with_reducible refine (laws_wcIn.calls t498 14 18 t503 _ A57.out).mono ?_); rintro e w' ⟨rfl, ⟨nd, rfl⟩⟩; obtain ⟨Ao73, co73, eo73⟩ := Kd.R_slice HO_5.out; subst eo73; have p504 : 0 ≤ (x10_2 : Int) := of_decide_eq_true (by first | (with_reducible assumption) | assumption); have q504 : x10_2 < (t481.length : Int) := of_decide_eq_true (by first | (with_reducible assumption) | assumption); obtain ⟨ad504, e504, hx504_0⟩ := Kd.at_int (Kd.R_reads' HO_5.out).2.2 x10_2 p504 q504; cases e504; replace p504 := eq_true p504; replace q504 := eq_true q504; have p505 : 0 ≤ (x10_2 : Int) := of_decide_eq_true (by first | (with_reducible assumption) | assumption); have q505 : x10_2 < (t481.length : Int) := of_decide_eq_true (by first | (with_reducible assumption) | assumption); obtain ⟨ad505, e505, hx505_0⟩ := Kd.at_int (Kd.R_reads' HO_5.out).2.2 x10_2 p505 q505; obtain rfl : ad504 = ad505 := (by injection e505); replace p505 := eq_true p505; replace q505 := eq_true q505; have p506 : 0 ≤ (x10_2 : Int) := of_decide_eq_true (by first | (with_reducible assumption) | assumption); have q506 : x10_2 < (t481.length : Int) := of_decide_eq_true (by first | (with_reducible assumption) | assumption); obtain ⟨ad506, e506, hx506_0⟩ := Kd.at_int (Kd.R_reads' HO_5.out).2.2 x10_2 p506 q506; obtain rfl : ad504 = ad506 := (by injection e506); replace p506 := eq_true p506; replace q506 := eq_true q506; have p507 : 0 ≤ (x10_2 : Int) := of_decide_eq_true (by first | (with_reducible assumption) | assumption); have q507 : x10_2 < (t481.length : Int) := of_decide_eq_true (by first | (with_reducible assumption) | assumption); obtain ⟨ad507, e507, hx507_0⟩ := Kd.at_int (Kd.R_reads' HO_5.out).2.2 x10_2 p507 q507; obtain rfl : ad504 = ad507 := (by injection e507); replace p507 := eq_true p507; replace q507 := eq_true q507)); go_ret; exact ⟨by first | rfl | (simp [errW_none, errW_some] <;> rfl) | (simp [*, errW_none, errW_some] <;> rfl), by repeat (first | (with_reducible first | exact HB.out | apply below_alloc | apply pw_below_drewN | apply below_drew1) | exact HB.out)⟩
              ·
               rw [if_neg c68] at H; have c68b0 : decide (0 ≤ (rd t481 x10_2)) = false := decide_eq_false c68; clear c68; have H' := Aside0.mk H; clear H; have p497 : 0 ≤ (x10_2 : Int) := of_decide_eq_true (by first | (with_reducible assumption) | assumption); have q497 : x10_2 < (t477.length : Int) := of_decide_eq_true (by first | (with_reducible assumption) | assumption); obtain ⟨ad497, e497, hx497_0⟩ := Kd.at_int (Kd.R_reads' HO_3.out).2.2 x10_2 p497 q497
               cases e497
               replace p497 := eq_true p497; replace q497 := eq_true q497; go_wp2_with (first | ((with_reducible refine gate_callee (f := 20) rfl ?_); refine goesL_ (some 66) rfl rfl Try.func20 (by kernel_rfl) rfl #[.int .i64 (rd t477 x10_2)] rfl (by (try simp only [List.map_toArray, List.map_cons, List.map_nil]); first | done | rfl) ?_; (with_reducible refine (spec_RuneBidi.calls k2 (rd t477 x10_2) t498 _ A37.out).mono ?_); rintro e w74 ⟨rfl, hb⟩; refine ⟨_, rfl, ?_⟩; have n0_ := Aside0.mk (Kd.R_below (by (with_reducible repeat (first | apply Kd.R_alloc | apply Kd.R_drewN | apply Kd.R_drew)); exact HO_3.out) hb); have n1_ := Aside0.mk (Kd.R_below (by (with_reducible repeat (first | apply Kd.R_alloc | apply Kd.R_drewN | apply Kd.R_drew)); exact HO_5.out) hb); have n2_ := Aside0.mk (Kd.R_below (by (with_reducible repeat (first | apply Kd.R_alloc | apply Kd.R_drewN | apply Kd.R_drew)); exact HO_6.out) hb); have n3_ := Aside0.mk (below_step (by repeat (first | (with_reducible first | exact HB.out | apply below_alloc | apply pw_below_drewN | apply below_drew1) | exact HB.out)) hb); clear HO_3; clear HO_5; clear HO_6; clear HB; have HO_3 := n0_; have HO_5 := n1_; have HO_6 := n2_; have HB := n3_; clear n0_ n1_ n2_ n3_; (try clear hb); (try clear hb2); (try clear hk); (try clear hi)) | (go_at_call 21; (with_reducible refine (laws_wcIn.calls t498 14 18 t503 _ A57.out).mono ?_); rintro e w' ⟨rfl, ⟨nd, rfl⟩⟩; obtain ⟨Ao75, co75, eo75⟩ := Kd.R_slice HO_5.out; subst eo75; have p504 : 0 ≤ (x10_2 : Int) := of_decide_eq_true (by first | (with_reducible assumption) | assumption); have q504 : x10_2 < (t481.length : Int) := of_decide_eq_true (by first | (with_reducible assumption) | assumption); obtain ⟨ad504, e504, hx504_0⟩ := Kd.at_int (Kd.R_reads' HO_5.out).2.2 x10_2 p504 q504; cases e504; replace p504 := eq_true p504; replace q504 := eq_true q504; have p505 : 0 ≤ (x10_2 : Int) := of_decide_eq_true (by first | (with_reducible assumption) | assumption); have q505 : x10_2 < (t481.length : Int) := of_decide_eq_true (by first | (with_reducible assumption) | assumption); obtain ⟨ad505, e505, hx505_0⟩ := Kd.at_int (Kd.R_reads' HO_5.out).2.2 x10_2 p505 q505; obtain rfl : ad504 = ad505 := (by injection e505); replace p505 := eq_true p505; replace q505 := eq_true q505; have p506 : 0 ≤ (x10_2 : Int) := of_decide_eq_true (by first | (with_reducible assumption) | assumption); have q506 : x10_2 < (t481.length : Int) := of_decide_eq_true (by first | (with_reducible assumption) | assumption); obtain ⟨ad506, e506, hx506_0⟩ := Kd.at_int (Kd.R_reads' HO_5.out).2.2 x10_2 p506 q506; obtain rfl : ad504 = ad506 := (by injection e506); replace p506 := eq_true p506; replace q506 := eq_true q506)); go_roundg k2
               case measure => have := HJ5.out; have := HK2.out; omega
               case rel => exact ⟨(decide (t498 ≥ 14)), (wrap64 (x10_2 + 1)), (by first | rfl | (simp; done) | (simp [*]; done)), (by first | rfl | (simp; done) | (simp [*]; done)), H', ⟨by have := HJ5.out; have := HK2.out; omega⟩, ⟨by (with_reducible repeat (first | apply Kd.R_alloc | apply Kd.R_drewN | apply Kd.R_drew)); exact HO_3.out⟩, ⟨by (with_reducible repeat (first | apply Kd.R_alloc | apply Kd.R_drewN | apply Kd.R_drew)); exact HO_5.out⟩, ⟨by (with_reducible repeat (first | apply Kd.R_alloc | apply Kd.R_drewN | apply Kd.R_drew)); exact HO_6.out⟩, ⟨by repeat (first | (with_reducible first | exact HB.out | apply below_alloc | apply pw_below_drewN | apply below_drew1) | exact HB.out)⟩⟩
          ·
           rw [if_neg c58] at H; exact absurd H (by simp)
        ·
         rw [if_neg c36] at H; exact absurd H (by simp)
       ·
        rw [if_neg c35] at H; have c35b0 : decide (x10_2 < (t477.length : Int)) = false := decide_eq_false c35; clear c35; by_cases c76 : (t481.length : Int) = (t477.length : Int)
        ·
         rw [if_pos c76] at H; have c76b0 : ((t481.length : Int) == (t477.length : Int)) = true := beq_iff_eq.mpr c76; have c76b1 : ((t481.length : Int) != (t477.length : Int)) = false := bne_eq_false_iff_eq.mpr c76; have c76b2 : (t481.length == t477.length) = true := by first | simpa using c76 | (simp at c76 ⊢; omega)
         clear c76; obtain rfl := Option.some.inj H; obtain ⟨Ao77, co77, eo77⟩ := Kd.R_slice HO_5.out; subst eo77; obtain ⟨Ao78, co78, eo78⟩ := Kd.R_slice HO_6.out; subst eo78; go_wp2; go_ret; exact ⟨by first | rfl | (simp [errW_none, errW_some] <;> rfl) | (simp [*, errW_none, errW_some] <;> rfl), by repeat (first | (with_reducible first | exact HB.out | apply below_alloc | apply pw_below_drewN | apply below_drew1) | exact HB.out)⟩
        ·
         rw [if_neg c76] at H; have c76b0 : ((t481.length : Int) == (t477.length : Int)) = false := beq_eq_false_iff_ne.mpr c76; have c76b1 : ((t481.length : Int) != (t477.length : Int)) = true := bne_iff_ne.mpr c76; have c76b2 : (t481.length == t477.length) = false := by first | simpa using c76 | (simp at c76 ⊢; omega)
         obtain rfl := Option.some.inj H; obtain ⟨Ao79, co79, eo79⟩ := Kd.R_slice HO_5.out; subst eo79; go_wp2; go_ret; exact ⟨by first | rfl | (simp [errW_none, errW_some] <;> rfl) | (simp [*, errW_none, errW_some] <;> rfl), by repeat (first | (with_reducible first | exact HB.out | apply below_alloc | apply pw_below_drewN | apply below_drew1) | exact HB.out)⟩
/-- THE ONE PURE STATEMENT of laws_FnLevelsTold: yours. -/
def laws_FnLevelsTold.Pure : Prop := ∀ (l0 : List Int), l0.length ≤ maxLen → l0.length * 1 ≤ 140737488351232 → (∀ x ∈ l0, (Lit.int .u8 x).wf = true) → ∃ k, laws_FnLevelsTold.f k l0 = some true
theorem laws_FnLevelsTold.walk (P : laws_FnLevelsTold.Pure) (a0 : Option Addr) (len0 cap0 : Nat) (z0 : List Int) (w : World) (w0 : (a0 = none ∧ len0 = 0 ∧ cap0 = 0 ∧ z0 = []) ∨ ∃ x, a0 = some x ∧ len0 ≤ cap0 ∧ cap0 ≤ maxLen ∧ z0.length = cap0 ∧ (∀ i, i < z0.length → w.cell? (x.add i) = some (.int .u8 (z0.getD i 0))) ∧ ∀ n ∈ z0, (Lit.int .u8 n).wf = true) (y0 : len0 * 1 ≤ 140737488351232) :
  Calls Try.prog 6 #[.slice a0 len0 cap0] w fun e w' => e = .returned (.bool true) ∧ Below w.heap.size w w' := by
 obtain ⟨l0, rfl, hr0, hm0, hw0, hc0⟩ := ReadsInt.ofRowC w0; obtain ⟨k, h⟩ := P l0 hm0 y0 hw0; refine (laws_FnLevelsTold.calls k _ _ l0 true w (Kd.C_of_reads (d := (0 : Int)) (h1 := fun _ => rfl) hr0) hc0 h).mono ?_; rintro e w' ⟨rfl, hd⟩; exact ⟨rfl, hd⟩
end Go.Proofs.Ytojehfdioeglgaa.S
/- What a search by halves in an ascending row of reaches finds: the first reach that holds the number. -/
namespace Go.Proofs.Ytojehfdioeglgaa.Pure
open Go.RowKit Go.Proofs.Ytojehfdioeglgaa.S Go.Proofs.YtojehfdioeglgaaW.PrintWords Go.Proofs.YtojehfdioeglgaaW.PrintLast
theorem cmpR_neg {x : S108} {r : Int} (h : x.f0 ≤ x.f1) : cmpR x r < 0 ↔ x.f1 < r := by
  unfold cmpR; split
  · omega
  · split
    · omega
    · split <;> omega
theorem cmpR_zero {x : S108} {r : Int} (h : x.f0 ≤ x.f1) : cmpR x r = 0 ↔ x.f0 ≤ r ∧ r ≤ x.f1 := by
  unfold cmpR; split
  · omega
  · split
    · omega
    · split <;> omega
def inR (r : Int) (x : S108) : Bool := decide (x.f0 ≤ r) && decide (r ≤ x.f1)
theorem inR_iff {r : Int} {x : S108} : inR r x = true ↔ x.f0 ≤ r ∧ r ≤ x.f1 := by simp [inR]
theorem inR_not {r : Int} {x : S108} (h : ¬ (x.f0 ≤ r ∧ r ≤ x.f1)) : inR r x = false := by
  cases e : inR r x
  · rfl
  · exact absurd (inR_iff.1 e) h
/-- The row is ascending, as the search wants it. -/
def ascR : List S108 → Bool
  | [] => true
  | x :: l => decide (x.f0 ≤ x.f1) && l.all (fun y => decide (x.f1 < y.f0)) && ascR l
theorem ascR_le : ∀ {l : List S108}, ascR l = true → ∀ t, t < l.length → (l.getD t z108).f0 ≤ (l.getD t z108).f1
  | x :: l, h, 0, _ => by simp [ascR] at h; simpa using h.1.1
  | x :: l, h, t + 1, ht => by simp [ascR] at h; simpa using ascR_le (l := l) h.2 t (by simpa using ht)
theorem ascR_lt : ∀ {l : List S108}, ascR l = true → ∀ s t, s < t → t < l.length → (l.getD s z108).f1 < (l.getD t z108).f0
  | x :: l, h, 0, t + 1, _, ht => by
    simp [ascR] at h
    have ht' : t < l.length := by simpa using ht
    simpa [List.getD_eq_getElem?_getD, ht'] using h.1.2 (l[t]) (List.getElem_mem ht')
  | x :: l, h, s + 1, t + 1, hst, ht => by simp [ascR] at h; simpa using ascR_lt (l := l) h.2 s t (by omega) (by simpa using ht)
theorem bsR_bounds {l : List S108} {r : Int} (ha : ascR l = true) : ∀ (k lo hi : Nat), hi - lo ≤ k → lo ≤ hi → hi ≤ l.length →
    (∀ t, t < lo → (l.getD t z108).f1 < r) → (∀ t, hi ≤ t → t < l.length → r ≤ (l.getD t z108).f1) →
    bsR l r k lo hi ≤ l.length ∧ (∀ t, t < bsR l r k lo hi → (l.getD t z108).f1 < r) ∧ (∀ t, bsR l r k lo hi ≤ t → t < l.length → r ≤ (l.getD t z108).f1)
  | 0, lo, hi, hk, hlh, hn, h1, h2 => by
    obtain rfl : lo = hi := by omega
    exact ⟨hn, h1, h2⟩
  | k + 1, lo, hi, hk, hlh, hn, h1, h2 => by
    rw [bsR]
    by_cases hlt : lo < hi
    · rw [if_pos hlt]
      have hm : (lo + hi) / 2 < l.length := by omega
      have hle := ascR_le ha _ hm
      by_cases hc : cmpR (l.getD ((lo + hi) / 2) z108) r < 0
      · rw [if_pos hc]
        refine bsR_bounds ha k _ hi (by omega) (by omega) hn (fun t ht => ?_) h2
        have hc' := (cmpR_neg hle).1 hc
        by_cases e : t = (lo + hi) / 2
        · rw [e]; exact hc'
        · have := ascR_lt ha t ((lo + hi) / 2) (by omega) hm
          omega
      · rw [if_neg hc]
        refine bsR_bounds ha k lo _ (by omega) (by omega) (by omega) h1 (fun t ht htn => ?_)
        have hc' : r ≤ (l.getD ((lo + hi) / 2) z108).f1 := by
          have := (cmpR_neg (r := r) hle).2
          omega
        by_cases e : t = (lo + hi) / 2
        · rw [e]; exact hc'
        · have a := ascR_lt ha ((lo + hi) / 2) t (by omega) htn
          have b := ascR_le ha t htn
          omega
    · rw [if_neg hlt]
      obtain rfl : lo = hi := by omega
      exact ⟨hn, h1, h2⟩
theorem find?_at {l : List S108} {p : S108 → Bool} {i : Nat} (hi : i < l.length) (hp : p (l.getD i z108) = true) (hb : ∀ t, t < i → p (l.getD t z108) = false) : l.find? p = some (l.getD i z108) := by
  induction l generalizing i with
  | nil => simp at hi
  | cons x l ih =>
    cases i with
    | zero => simp at hp ⊢; simp [hp]
    | succ i =>
      have h0 : p x = false := by simpa using hb 0 (by omega)
      rw [List.find?_cons, h0]
      simpa using ih (i := i) (by simpa using hi) (by simpa using hp) (fun t ht => by simpa using hb (t + 1) (by omega))
theorem find?_none' {l : List S108} {p : S108 → Bool} (hb : ∀ t, t < l.length → p (l.getD t z108) = false) : l.find? p = none := by
  rw [List.find?_eq_none]
  intro x hx
  obtain ⟨t, ht, rfl⟩ := List.getElem_of_mem hx
  have := hb t ht
  simpa [List.getD_eq_getElem?_getD, ht] using this
theorem findV_eq {l : List S108} (ha : ascR l = true) (r o : Int) : findV l r o = match l.find? (inR r) with | some x => x.f2 | none => o := by
  obtain ⟨hn, h1, h2⟩ := bsR_bounds (r := r) ha l.length 0 l.length (by omega) (by omega) (Nat.le_refl _) (fun t ht => absurd ht (Nat.not_lt_zero _)) (fun t h h' => by omega)
  unfold findV
  generalize bsR l r l.length 0 l.length = i at hn h1 h2
  by_cases hc : i < l.length ∧ cmpR (l.getD i z108) r = 0
  · rw [if_pos hc]
    have hz := (cmpR_zero (ascR_le ha i hc.1)).1 hc.2
    rw [find?_at hc.1 (inR_iff.2 hz) (fun t ht => inR_not (by have := h1 t ht; omega))]
  · rw [if_neg hc]
    rw [find?_none' (fun t ht => ?_)]
    by_cases hlt : t < i
    · have := h1 t hlt; exact inR_not (by omega)
    · have hi : i < l.length := by omega
      have hz : ¬ ((l.getD i z108).f0 ≤ r ∧ r ≤ (l.getD i z108).f1) := fun hh => hc ⟨hi, (cmpR_zero (ascR_le ha i hi)).2 hh⟩
      have hr := h2 i (Nat.le_refl _) hi
      by_cases e : t = i
      · rw [e]; exact inR_not hz
      · have := ascR_lt ha i t (by omega) ht
        exact inR_not (by omega)
end Go.Proofs.Ytojehfdioeglgaa.Pure
/- The direction of a letter, by both texts. -/
namespace Go.Proofs.Ytojehfdioeglgaa.Pure
open Go.RowKit Go.Proofs.Ytojehfdioeglgaa.S Go.Proofs.YtojehfdioeglgaaW.PrintWords Go.Proofs.YtojehfdioeglgaaW.PrintLast
theorem l1In_b (a b c : Int) : spec_l1In.f a b c = some (decide (b ≤ a) && decide (a ≤ c)) := by
  unfold spec_l1In.f
  by_cases h : b ≤ a <;> simp [h]
def moveV (a : Int) : Int := if a = 8234 then 14 else if a = 8235 then 15 else if a = 8236 then 16 else if a = 8237 then 17 else if a = 8238 then 18 else if a = 8294 then 19 else if a = 8295 then 20 else if a = 8296 then 21 else if a = 8297 then 22 else 13
def bidiV (a : Int) : Int := if 97 ≤ a ∧ a ≤ 122 then 1 else if 65 ≤ a ∧ a ≤ 90 then 1 else if 19968 ≤ a ∧ a ≤ 40959 then 1 else if 1488 ≤ a ∧ a ≤ 1514 then 2 else if 1569 ≤ a ∧ a ≤ 1610 then 3 else if 48 ≤ a ∧ a ≤ 57 then 4 else if 1632 ≤ a ∧ a ≤ 1641 then 7
  else if a = 43 then 5 else if a = 45 then 5 else if 35 ≤ a ∧ a ≤ 37 then 6 else if a = 44 then 8 else if a = 46 then 8 else if a = 47 then 8 else if a = 58 then 8 else if 768 ≤ a ∧ a ≤ 879 then 9
  else if a = 8203 then 10 else if a = 8205 then 10 else if a = 173 then 10 else if a = 9 then 11 else if a = 32 then 12 else moveV a
theorem moves_p (k : Nat) (a : Int) : spec_l1Moves.f (k + 10) a = some (moveV a) := by
  by_cases h1 : a = 8234
  · subst h1; simp [spec_l1Moves.f, spec_l1Moves.l0, rd, wrap64, moveV]
  by_cases h2 : a = 8235
  · subst h2; simp [spec_l1Moves.f, spec_l1Moves.l0, rd, wrap64, moveV]
  by_cases h3 : a = 8236
  · subst h3; simp [spec_l1Moves.f, spec_l1Moves.l0, rd, wrap64, moveV]
  by_cases h4 : a = 8237
  · subst h4; simp [spec_l1Moves.f, spec_l1Moves.l0, rd, wrap64, moveV]
  by_cases h5 : a = 8238
  · subst h5; simp [spec_l1Moves.f, spec_l1Moves.l0, rd, wrap64, moveV]
  by_cases h6 : a = 8294
  · subst h6; simp [spec_l1Moves.f, spec_l1Moves.l0, rd, wrap64, moveV]
  by_cases h7 : a = 8295
  · subst h7; simp [spec_l1Moves.f, spec_l1Moves.l0, rd, wrap64, moveV]
  by_cases h8 : a = 8296
  · subst h8; simp [spec_l1Moves.f, spec_l1Moves.l0, rd, wrap64, moveV]
  by_cases h9 : a = 8297
  · subst h9; simp [spec_l1Moves.f, spec_l1Moves.l0, rd, wrap64, moveV]
  have e : moveV a = 13 := by simp [moveV, h1, h2, h3, h4, h5, h6, h7, h8, h9]
  simp [spec_l1Moves.f, spec_l1Moves.l0, rd, wrap64, e, Ne.symm h1, Ne.symm h2, Ne.symm h3, Ne.symm h4, Ne.symm h5, Ne.symm h6, Ne.symm h7, Ne.symm h8, Ne.symm h9]
set_option maxHeartbeats 8000000 in
theorem signs_p (k : Nat) (a : Int) : spec_l1Signs.f (k + 13) a = some (if a = 43 then 5 else if a = 45 then 5 else if 35 ≤ a ∧ a ≤ 37 then 6 else if a = 44 then 8 else if a = 46 then 8 else if a = 47 then 8 else if a = 58 then 8 else if 768 ≤ a ∧ a ≤ 879 then 9
  else if a = 8203 then 10 else if a = 8205 then 10 else if a = 173 then 10 else if a = 9 then 11 else if a = 32 then 12 else moveV a) := by
  simp only [spec_l1Signs.f, spec_l1Signs.j0, spec_l1Signs.j1, spec_l1Signs.j2, l1In_b, Option.bind_some, moves_p]
  grind (splits := 40)
set_option maxHeartbeats 8000000 in
theorem spec_bidi_p (k : Nat) (a : Int) : spec_RuneBidi.f (k + 14) a = some (bidiV a) := by
  simp only [spec_RuneBidi.f, spec_RuneBidi.j0, l1In_b, Option.bind_some, signs_p, bidiV]
  grind (splits := 40)
theorem spec_bidi_k {k : Nat} (h : 14 ≤ k) (a : Int) : spec_RuneBidi.f k a = some (bidiV a) := by
  obtain ⟨k, rfl⟩ : ∃ m, k = m + 14 := ⟨k - 14, by omega⟩
  exact spec_bidi_p k a
theorem find_if {α : Type} (p : α → Bool) (x : α) (l : List α) : (x :: l).find? p = if p x = true then some x else l.find? p := by
  cases h : p x <;> simp [h]
set_option maxHeartbeats 8000000 in
theorem bidi_chain (a : Int) : (if 9 ≤ a ∧ a ≤ 9 then (11 : Int) else if 32 ≤ a ∧ a ≤ 32 then (12 : Int) else if 35 ≤ a ∧ a ≤ 37 then (6 : Int) else if 43 ≤ a ∧ a ≤ 43 then (5 : Int) else if 44 ≤ a ∧ a ≤ 44 then (8 : Int) else if 45 ≤ a ∧ a ≤ 45 then (5 : Int) else if 46 ≤ a ∧ a ≤ 47 then (8 : Int) else if 48 ≤ a ∧ a ≤ 57 then (4 : Int) else if 58 ≤ a ∧ a ≤ 58 then (8 : Int) else if 65 ≤ a ∧ a ≤ 90 then (1 : Int) else if 97 ≤ a ∧ a ≤ 122 then (1 : Int) else if 173 ≤ a ∧ a ≤ 173 then (10 : Int) else if 768 ≤ a ∧ a ≤ 879 then (9 : Int) else if 1488 ≤ a ∧ a ≤ 1514 then (2 : Int) else if 1569 ≤ a ∧ a ≤ 1610 then (3 : Int) else if 1632 ≤ a ∧ a ≤ 1641 then (7 : Int) else if 8203 ≤ a ∧ a ≤ 8203 then (10 : Int) else if 8205 ≤ a ∧ a ≤ 8205 then (10 : Int) else if 8234 ≤ a ∧ a ≤ 8234 then (14 : Int) else if 8235 ≤ a ∧ a ≤ 8235 then (15 : Int) else if 8236 ≤ a ∧ a ≤ 8236 then (16 : Int) else if 8237 ≤ a ∧ a ≤ 8237 then (17 : Int) else if 8238 ≤ a ∧ a ≤ 8238 then (18 : Int) else if 8294 ≤ a ∧ a ≤ 8294 then (19 : Int) else if 8295 ≤ a ∧ a ≤ 8295 then (20 : Int) else if 8296 ≤ a ∧ a ≤ 8296 then (21 : Int) else if 8297 ≤ a ∧ a ≤ 8297 then (22 : Int) else if 19968 ≤ a ∧ a ≤ 40959 then (1 : Int) else 13) = bidiV a := by
  unfold bidiV moveV
  by_cases h0 : a < 9
  · (repeat (first | rw [if_pos (by omega)] | rw [if_neg (by omega)])) <;> try rfl
  by_cases h1 : a < 10
  · (repeat (first | rw [if_pos (by omega)] | rw [if_neg (by omega)])) <;> try rfl
  clear h0
  by_cases h2 : a < 32
  · (repeat (first | rw [if_pos (by omega)] | rw [if_neg (by omega)])) <;> try rfl
  clear h1
  by_cases h3 : a < 33
  · (repeat (first | rw [if_pos (by omega)] | rw [if_neg (by omega)])) <;> try rfl
  clear h2
  by_cases h4 : a < 35
  · (repeat (first | rw [if_pos (by omega)] | rw [if_neg (by omega)])) <;> try rfl
  clear h3
  by_cases h5 : a < 38
  · (repeat (first | rw [if_pos (by omega)] | rw [if_neg (by omega)])) <;> try rfl
  clear h4
  by_cases h6 : a < 43
  · (repeat (first | rw [if_pos (by omega)] | rw [if_neg (by omega)])) <;> try rfl
  clear h5
  by_cases h7 : a < 44
  · (repeat (first | rw [if_pos (by omega)] | rw [if_neg (by omega)])) <;> try rfl
  clear h6
  by_cases h8 : a < 45
  · (repeat (first | rw [if_pos (by omega)] | rw [if_neg (by omega)])) <;> try rfl
  clear h7
  by_cases h9 : a < 46
  · (repeat (first | rw [if_pos (by omega)] | rw [if_neg (by omega)])) <;> try rfl
  clear h8
  by_cases h90 : a < 47
  · (repeat (first | rw [if_pos (by omega)] | rw [if_neg (by omega)])) <;> try rfl
  clear h9
  by_cases h10 : a < 48
  · (repeat (first | rw [if_pos (by omega)] | rw [if_neg (by omega)])) <;> try rfl
  clear h90
  by_cases h11 : a < 58
  · (repeat (first | rw [if_pos (by omega)] | rw [if_neg (by omega)])) <;> try rfl
  clear h10
  by_cases h12 : a < 59
  · (repeat (first | rw [if_pos (by omega)] | rw [if_neg (by omega)])) <;> try rfl
  clear h11
  by_cases h13 : a < 65
  · (repeat (first | rw [if_pos (by omega)] | rw [if_neg (by omega)])) <;> try rfl
  clear h12
  by_cases h14 : a < 91
  · (repeat (first | rw [if_pos (by omega)] | rw [if_neg (by omega)])) <;> try rfl
  clear h13
  by_cases h15 : a < 97
  · (repeat (first | rw [if_pos (by omega)] | rw [if_neg (by omega)])) <;> try rfl
  clear h14
  by_cases h16 : a < 123
  · (repeat (first | rw [if_pos (by omega)] | rw [if_neg (by omega)])) <;> try rfl
  clear h15
  by_cases h17 : a < 173
  · (repeat (first | rw [if_pos (by omega)] | rw [if_neg (by omega)])) <;> try rfl
  clear h16
  by_cases h18 : a < 174
  · (repeat (first | rw [if_pos (by omega)] | rw [if_neg (by omega)])) <;> try rfl
  clear h17
  by_cases h19 : a < 768
  · (repeat (first | rw [if_pos (by omega)] | rw [if_neg (by omega)])) <;> try rfl
  clear h18
  by_cases h20 : a < 880
  · (repeat (first | rw [if_pos (by omega)] | rw [if_neg (by omega)])) <;> try rfl
  clear h19
  by_cases h21 : a < 1488
  · (repeat (first | rw [if_pos (by omega)] | rw [if_neg (by omega)])) <;> try rfl
  clear h20
  by_cases h22 : a < 1515
  · (repeat (first | rw [if_pos (by omega)] | rw [if_neg (by omega)])) <;> try rfl
  clear h21
  by_cases h23 : a < 1569
  · (repeat (first | rw [if_pos (by omega)] | rw [if_neg (by omega)])) <;> try rfl
  clear h22
  by_cases h24 : a < 1611
  · (repeat (first | rw [if_pos (by omega)] | rw [if_neg (by omega)])) <;> try rfl
  clear h23
  by_cases h25 : a < 1632
  · (repeat (first | rw [if_pos (by omega)] | rw [if_neg (by omega)])) <;> try rfl
  clear h24
  by_cases h26 : a < 1642
  · (repeat (first | rw [if_pos (by omega)] | rw [if_neg (by omega)])) <;> try rfl
  clear h25
  by_cases h27 : a < 8203
  · (repeat (first | rw [if_pos (by omega)] | rw [if_neg (by omega)])) <;> try rfl
  clear h26
  by_cases h28 : a < 8204
  · (repeat (first | rw [if_pos (by omega)] | rw [if_neg (by omega)])) <;> try rfl
  clear h27
  by_cases h29 : a < 8205
  · (repeat (first | rw [if_pos (by omega)] | rw [if_neg (by omega)])) <;> try rfl
  clear h28
  by_cases h30 : a < 8206
  · (repeat (first | rw [if_pos (by omega)] | rw [if_neg (by omega)])) <;> try rfl
  clear h29
  by_cases h31 : a < 8234
  · (repeat (first | rw [if_pos (by omega)] | rw [if_neg (by omega)])) <;> try rfl
  clear h30
  by_cases h32 : a < 8235
  · (repeat (first | rw [if_pos (by omega)] | rw [if_neg (by omega)])) <;> try rfl
  clear h31
  by_cases h33 : a < 8236
  · (repeat (first | rw [if_pos (by omega)] | rw [if_neg (by omega)])) <;> try rfl
  clear h32
  by_cases h34 : a < 8237
  · (repeat (first | rw [if_pos (by omega)] | rw [if_neg (by omega)])) <;> try rfl
  clear h33
  by_cases h35 : a < 8238
  · (repeat (first | rw [if_pos (by omega)] | rw [if_neg (by omega)])) <;> try rfl
  clear h34
  by_cases h36 : a < 8239
  · (repeat (first | rw [if_pos (by omega)] | rw [if_neg (by omega)])) <;> try rfl
  clear h35
  by_cases h37 : a < 8294
  · (repeat (first | rw [if_pos (by omega)] | rw [if_neg (by omega)])) <;> try rfl
  clear h36
  by_cases h38 : a < 8295
  · (repeat (first | rw [if_pos (by omega)] | rw [if_neg (by omega)])) <;> try rfl
  clear h37
  by_cases h39 : a < 8296
  · (repeat (first | rw [if_pos (by omega)] | rw [if_neg (by omega)])) <;> try rfl
  clear h38
  by_cases h40 : a < 8297
  · (repeat (first | rw [if_pos (by omega)] | rw [if_neg (by omega)])) <;> try rfl
  clear h39
  by_cases h41 : a < 8298
  · (repeat (first | rw [if_pos (by omega)] | rw [if_neg (by omega)])) <;> try rfl
  clear h40
  by_cases h42 : a < 19968
  · (repeat (first | rw [if_pos (by omega)] | rw [if_neg (by omega)])) <;> try rfl
  clear h41
  by_cases h43 : a < 40960
  · (repeat (first | rw [if_pos (by omega)] | rw [if_neg (by omega)])) <;> try rfl
  clear h42
  (repeat (first | rw [if_pos (by omega)] | rw [if_neg (by omega)])) <;> try rfl
set_option maxHeartbeats 8000000 in
theorem impl_bidi_p (a : Int) : impl_RuneBidi.f a = some (bidiV a) := by
  unfold impl_RuneBidi.f impl_bidiReaches.f impl_find.f
  rw [Option.bind_some, if_pos (by decide), findV_eq (by decide), ← bidi_chain]
  simp only [Option.bind_some, find_if, List.find?_nil, inR_iff]
  congr 1
  by_cases h : 9 ≤ a ∧ a ≤ 9
  · simp only [if_pos h]
  simp only [if_neg h]; clear h
  by_cases h : 32 ≤ a ∧ a ≤ 32
  · simp only [if_pos h]
  simp only [if_neg h]; clear h
  by_cases h : 35 ≤ a ∧ a ≤ 37
  · simp only [if_pos h]
  simp only [if_neg h]; clear h
  by_cases h : 43 ≤ a ∧ a ≤ 43
  · simp only [if_pos h]
  simp only [if_neg h]; clear h
  by_cases h : 44 ≤ a ∧ a ≤ 44
  · simp only [if_pos h]
  simp only [if_neg h]; clear h
  by_cases h : 45 ≤ a ∧ a ≤ 45
  · simp only [if_pos h]
  simp only [if_neg h]; clear h
  by_cases h : 46 ≤ a ∧ a ≤ 47
  · simp only [if_pos h]
  simp only [if_neg h]; clear h
  by_cases h : 48 ≤ a ∧ a ≤ 57
  · simp only [if_pos h]
  simp only [if_neg h]; clear h
  by_cases h : 58 ≤ a ∧ a ≤ 58
  · simp only [if_pos h]
  simp only [if_neg h]; clear h
  by_cases h : 65 ≤ a ∧ a ≤ 90
  · simp only [if_pos h]
  simp only [if_neg h]; clear h
  by_cases h : 97 ≤ a ∧ a ≤ 122
  · simp only [if_pos h]
  simp only [if_neg h]; clear h
  by_cases h : 173 ≤ a ∧ a ≤ 173
  · simp only [if_pos h]
  simp only [if_neg h]; clear h
  by_cases h : 768 ≤ a ∧ a ≤ 879
  · simp only [if_pos h]
  simp only [if_neg h]; clear h
  by_cases h : 1488 ≤ a ∧ a ≤ 1514
  · simp only [if_pos h]
  simp only [if_neg h]; clear h
  by_cases h : 1569 ≤ a ∧ a ≤ 1610
  · simp only [if_pos h]
  simp only [if_neg h]; clear h
  by_cases h : 1632 ≤ a ∧ a ≤ 1641
  · simp only [if_pos h]
  simp only [if_neg h]; clear h
  by_cases h : 8203 ≤ a ∧ a ≤ 8203
  · simp only [if_pos h]
  simp only [if_neg h]; clear h
  by_cases h : 8205 ≤ a ∧ a ≤ 8205
  · simp only [if_pos h]
  simp only [if_neg h]; clear h
  by_cases h : 8234 ≤ a ∧ a ≤ 8234
  · simp only [if_pos h]
  simp only [if_neg h]; clear h
  by_cases h : 8235 ≤ a ∧ a ≤ 8235
  · simp only [if_pos h]
  simp only [if_neg h]; clear h
  by_cases h : 8236 ≤ a ∧ a ≤ 8236
  · simp only [if_pos h]
  simp only [if_neg h]; clear h
  by_cases h : 8237 ≤ a ∧ a ≤ 8237
  · simp only [if_pos h]
  simp only [if_neg h]; clear h
  by_cases h : 8238 ≤ a ∧ a ≤ 8238
  · simp only [if_pos h]
  simp only [if_neg h]; clear h
  by_cases h : 8294 ≤ a ∧ a ≤ 8294
  · simp only [if_pos h]
  simp only [if_neg h]; clear h
  by_cases h : 8295 ≤ a ∧ a ≤ 8295
  · simp only [if_pos h]
  simp only [if_neg h]; clear h
  by_cases h : 8296 ≤ a ∧ a ≤ 8296
  · simp only [if_pos h]
  simp only [if_neg h]; clear h
  by_cases h : 8297 ≤ a ∧ a ≤ 8297
  · simp only [if_pos h]
  simp only [if_neg h]; clear h
  by_cases h : 19968 ≤ a ∧ a ≤ 40959
  · simp only [if_pos h]
  simp only [if_neg h]
end Go.Proofs.Ytojehfdioeglgaa.Pure
/- What ends that which is read by itself: the reference looks for it letter by letter, the program keeps it in two maps. -/
namespace Go.Proofs.Ytojehfdioeglgaa.Pure
open Go.RowKit Go.Proofs.Ytojehfdioeglgaa.S Go.Proofs.YtojehfdioeglgaaW.PrintWords Go.Proofs.YtojehfdioeglgaaW.PrintLast
def stepD (c : Int) (d : Int) : Int := (if opensB c = true then d + 1 else d) - (if c = 22 then 1 else 0)
/-- The place of what ends that which begins at a place, from a place on, so deep; the length, if nothing does. -/
def scanM (cls : List Int) : Nat → Nat → Int → Nat
  | 0, _, _ => cls.length
  | g + 1, i, d => if stepD (cls.getD i 0) d = 0 then i else scanM cls g (i + 1) (stepD (cls.getD i 0) d)
theorem scanM_step {cls : List Int} {i : Nat} (hi : i < cls.length) (d : Int) : scanM cls (cls.length - i) i d = if stepD (cls.getD i 0) d = 0 then i else scanM cls (cls.length - (i + 1)) (i + 1) (stepD (cls.getD i 0) d) := by
  rw [show cls.length - i = (cls.length - (i + 1)) + 1 by omega, scanM]
theorem opens_not22 {c : Int} (h : opensB c = true) : c ≠ 22 := by
  intro e
  subst e
  revert h
  decide
theorem getD_snoc (l : List Int) (x : Int) (q : Nat) : (l ++ [x]).getD q 0 = if q < l.length then l.getD q 0 else if q = l.length then x else 0 := by
  rw [List.getD_eq_getElem?_getD, List.getD_eq_getElem?_getD, List.getElem?_append]
  split
  · rfl
  · by_cases h : q = l.length
    · subst h; simp
    · rw [if_neg h, List.getElem?_eq_none (by simp; omega)]; rfl
theorem getD_take (l : List Int) (n q : Nat) (h : q < n) : (l.take n).getD q 0 = l.getD q 0 := by
  rw [List.getD_eq_getElem?_getD, List.getD_eq_getElem?_getD, List.getElem?_take_of_lt h]
def MateI (cls : List Int) (j : Nat) (s : PaS) : Prop :=
  (∀ q, q < s.op.length → ∃ p : Nat, s.op.getD q 0 = p ∧ p < j ∧ opensB (cls.getD p 0) = true ∧ s.mt p = none ∧ scanM cls (cls.length - p) p 0 = scanM cls (cls.length - j) j ((s.op.length : Int) - q)) ∧
  (∀ q q', q < q' → q' < s.op.length → s.op.getD q 0 < s.op.getD q' 0) ∧
  (∀ x m, s.mt x = some m → ∃ p m' : Nat, x = p ∧ m = m' ∧ p < m' ∧ m' < j ∧ opensB (cls.getD p 0) = true ∧ cls.getD m' 0 = 22 ∧ scanM cls (cls.length - p) p 0 = m') ∧
  (∀ p : Nat, p < j → opensB (cls.getD p 0) = true → (∃ q, q < s.op.length ∧ s.op.getD q 0 = p) ∨ ∃ m, s.mt p = some m) ∧
  (∀ x y, s.cd y = some x ↔ s.mt x = some y)
theorem mateI_step {cls : List Int} {j : Nat} {s : PaS} (h : MateI cls j s) (hj : j < cls.length) : MateI cls (j + 1) (paraStep (cls.getD j 0) j s) := by
  obtain ⟨h1, h2, h3, h4, h5⟩ := h
  have hjn : s.mt j = none := by
    cases e : s.mt j with
    | none => rfl
    | some m =>
      obtain ⟨p, m', e1, e2, e3, e4, _⟩ := h3 _ _ e
      omega
  unfold paraStep
  cases ho : opensB (cls.getD j 0) with
  | true =>
    have hn := opens_not22 ho
    have st : ∀ d : Int, stepD (cls.getD j 0) d = d + 1 := fun d => by unfold stepD; rw [if_pos ho, if_neg hn]; omega
    rw [if_pos rfl]
    refine ⟨fun q hq => ?_, fun q q' hqq hq => ?_, fun x m hm => ?_, fun p hp hop => ?_, h5⟩
    · simp only [List.length_append, List.length_cons, List.length_nil] at hq ⊢
      by_cases hql : q < s.op.length
      · obtain ⟨p, e1, e2, e3, e4, e5⟩ := h1 q hql
        refine ⟨p, by rw [getD_snoc, if_pos hql, e1], by omega, e3, e4, ?_⟩
        rw [e5, scanM_step hj, st, if_neg (by omega)]
        congr 1
        omega
      · refine ⟨j, by rw [getD_snoc, if_neg hql, if_pos (by omega)], by omega, ho, hjn, ?_⟩
        rw [scanM_step hj, st, if_neg (by omega)]
        congr 1
        omega
    · simp only [List.length_append, List.length_cons, List.length_nil] at hq
      simp only
      rw [getD_snoc, getD_snoc, if_pos (by omega)]
      by_cases hql : q' < s.op.length
      · rw [if_pos hql]; exact h2 q q' hqq hql
      · rw [if_neg hql, if_pos (by omega)]
        obtain ⟨p, e1, e2, _⟩ := h1 q (by omega)
        omega
    · obtain ⟨p, m', e1, e2, e3, e4, e5⟩ := h3 x m hm
      exact ⟨p, m', e1, e2, e3, by omega, e5⟩
    · by_cases e : p = j
      · subst e
        exact .inl ⟨s.op.length, by simp, by simp only; rw [getD_snoc, if_neg (by omega), if_pos rfl]⟩
      · rcases h4 p (by omega) hop with ⟨q, q1, q2⟩ | h
        · exact .inl ⟨q, by simp; omega, by simp only; rw [getD_snoc, if_pos q1, q2]⟩
        · exact .inr h
  | false =>
    rw [if_neg (by decide)]
    by_cases hc : cls.getD j 0 = 22 ∧ s.op ≠ []
    · rw [if_pos hc]
      have hl : 0 < s.op.length := List.length_pos_iff.mpr hc.2
      have st : ∀ d : Int, stepD (cls.getD j 0) d = d - 1 := fun d => by unfold stepD; rw [ho, if_neg (by decide), if_pos hc.1]
      obtain ⟨p0, a1, a2, a3, a4, a5⟩ := h1 (s.op.length - 1) (by omega)
      rw [scanM_step hj, st, if_pos (by omega)] at a5
      have hne : ∀ q, q < s.op.length - 1 → s.op.getD q 0 ≠ p0 := fun q hq => by
        have := h2 q (s.op.length - 1) hq (by omega)
        omega
      refine ⟨fun q hq => ?_, fun q q' hqq hq => ?_, fun x m hm => ?_, fun p hp hop => ?_, fun x y => ?_⟩
      · simp only [List.length_take] at hq ⊢
        obtain ⟨p, e1, e2, e3, e4, e5⟩ := h1 q (by omega)
        refine ⟨p, by rw [getD_take _ _ _ (by omega), e1], by omega, e3, ?_, ?_⟩
        · have := hne q (by omega)
          rw [updI, a1, if_neg (by omega), e4]
        · rw [e5, scanM_step hj, st, if_neg (by omega)]
          congr 1
          omega
      · simp only [List.length_take] at hq ⊢
        rw [getD_take _ _ _ (by omega), getD_take _ _ _ (by omega)]
        exact h2 q q' hqq (by omega)
      · simp only [updI] at hm
        split at hm
        · rename_i e
          have hm' := Option.some.inj hm
          exact ⟨p0, j, by omega, by omega, by omega, by omega, a3, hc.1, a5⟩
        · obtain ⟨p, m', e1, e2, e3, e4, e5⟩ := h3 x m hm
          exact ⟨p, m', e1, e2, e3, by omega, e5⟩
      · by_cases e : p = j
        · subst e
          rw [ho] at hop
          cases hop
        · by_cases e2 : p = p0
          · subst e2
            exact .inr ⟨j, by simp only [updI, a1, if_true]⟩
          · rcases h4 p (by omega) hop with ⟨q, q1, q2⟩ | ⟨m, h⟩
            · have hq : q ≠ s.op.length - 1 := by
                intro e3
                subst e3
                omega
              exact .inl ⟨q, by simp only [List.length_take]; omega, by simp only; rw [getD_take _ _ _ (by omega), q2]⟩
            · exact .inr ⟨m, by simp only [updI, a1]; rw [if_neg (by omega), h]⟩
      · simp only [updI, a1]
        by_cases ex : x = p0
        · subst ex
          rw [if_pos rfl]
          by_cases ey : y = j
          · subst ey
            rw [if_pos rfl]
            exact ⟨fun _ => rfl, fun _ => rfl⟩
          · rw [if_neg ey, h5, a4]
            constructor
            · intro h; cases h
            · intro h; exact absurd (Option.some.inj h).symm ey
        · rw [if_neg ex]
          by_cases ey : y = j
          · subst ey
            rw [if_pos rfl]
            constructor
            · intro h; exact absurd (Option.some.inj h).symm ex
            · intro h
              obtain ⟨p, m', e1, e2, e3, e4, e5⟩ := h3 _ _ h
              omega
          · rw [if_neg ey]; exact h5 x y
    · rw [if_neg hc]
      refine ⟨fun q hq => ?_, h2, fun x m hm => ?_, fun p hp hop => ?_, h5⟩
      · have hl : s.op ≠ [] := fun e => by rw [e] at hq; exact absurd hq (by simp)
        have h22 : cls.getD j 0 ≠ 22 := fun e => hc ⟨e, hl⟩
        have st : ∀ d : Int, stepD (cls.getD j 0) d = d := fun d => by unfold stepD; rw [ho, if_neg (by decide), if_neg h22]; omega
        obtain ⟨p, e1, e2, e3, e4, e5⟩ := h1 q hq
        refine ⟨p, e1, by omega, e3, e4, ?_⟩
        rw [e5, scanM_step hj, st, if_neg (by omega)]
      · obtain ⟨p, m', e1, e2, e3, e4, e5⟩ := h3 x m hm
        exact ⟨p, m', e1, e2, e3, by omega, e5⟩
      · by_cases e : p = j
        · subst e
          rw [ho] at hop
          cases hop
        · exact h4 p (by omega) hop
theorem mateI_all (cls : List Int) : ∀ j, j ≤ cls.length → MateI cls j (paraS cls j)
  | 0, _ => ⟨fun q hq => absurd hq (by simp [paraS]), fun q q' _ hq => absurd hq (by simp [paraS]), fun x m hm => by simp [paraS] at hm, fun p hp => absurd hp (by omega), fun x y => by simp [paraS]⟩
  | j + 1, h => mateI_step (mateI_all cls j (by omega)) (by omega)
/-- The mate of a place. -/
def mtC (cls : List Int) : Int → Option Int := (paraS cls cls.length).mt
def cdC (cls : List Int) : Int → Option Int := (paraS cls cls.length).cd
theorem mt_scan {cls : List Int} {p : Nat} (hp : p < cls.length) (ho : opensB (cls.getD p 0) = true) : scanM cls (cls.length - p) p 0 = endP cls (mtC cls) p := by
  obtain ⟨h1, h2, h3, h4, h5⟩ := mateI_all cls cls.length (Nat.le_refl _)
  unfold endP mtC
  rcases h4 p hp ho with ⟨q, q1, q2⟩ | ⟨m, h⟩
  · obtain ⟨p', e1, e2, e3, e4, e5⟩ := h1 q q1
    obtain rfl : p' = p := by omega
    rw [e4, e5, Nat.sub_self, scanM]
  · obtain ⟨p', m', e1, e2, e3, e4, e5, e6, e7⟩ := h3 _ _ h
    obtain rfl : p' = p := by omega
    rw [h, e7]
    subst e2
    simp
theorem mt_inv {cls : List Int} {x m : Int} (h : mtC cls x = some m) : ∃ p m' : Nat, x = p ∧ m = m' ∧ p < m' ∧ m' < cls.length ∧ opensB (cls.getD p 0) = true ∧ cls.getD m' 0 = 22 ∧ scanM cls (cls.length - p) p 0 = m' :=
  (mateI_all cls cls.length (Nat.le_refl _)).2.2.1 _ _ h
theorem cd_mt {cls : List Int} (x y : Int) : cdC cls y = some x ↔ mtC cls x = some y := (mateI_all cls cls.length (Nat.le_refl _)).2.2.2.2 x y
end Go.Proofs.Ytojehfdioeglgaa.Pure
