/- The program's LevelsTold answers as the reference's, for every list of whole numbers and every level at first; it writes into no argument and its two answers are memory of their own. No condition beyond the statement's own. (text 3 of 4 of this claim: functions of the program and of the reference as plain Lean functions, what a call of each comes to, and what follows.) -/
import Derived.Test.YtojehfdioeglgaaZFnExactLevelsToldA0
import Derived.Test.YtojehfdioeglgaaZFnExactLevelsToldA1
namespace Go.Proofs.Ytojehfdioeglgaa.S
open Go.RowKit Go.Proofs.YtojehfdioeglgaaW.PrintWords Go.Proofs.YtojehfdioeglgaaW.PrintLast Go.Proofs.YtojehfdioeglgaaW.PrintMore
attribute [local go_sem] max2_int min2_int max_two min_two max_three min_three max_four min_four   -- for this text's walks alone
set_option linter.unusedVariables false
set_option linter.unusedSimpArgs false
theorem q3s {α : Type} (l : List α) (i : Nat) (a : α) : l.toArray.setIfInBounds i a = (l.set i a).toArray := List.setIfInBounds_toArray ..
theorem q3z {α : Type} (a : α) (l : List α) (b : α) : (a :: l).set 0 b = b :: l := List.set_cons_zero ..
theorem q3n {α : Type} (a : α) (l : List α) (i : Nat) (b : α) : (a :: l).set (i + 1) b = a :: l.set i b := List.set_cons_succ ..
mutual
def laws_FnExactLevelsTold.j0 : Nat → List Int → Int → List Int → List Int → List Int → List Int → List Int → Bool → Option (Bool)
 | 0, _, _, _, _, _, _, _, _ => none
 | k + 1, x0, x1, x5, x6, x7, x8, x9, x42 => if x42 = true then (some false) else ((laws_toIntS.f k x0).bind fun t351 => ((laws_eqIntS.f k x7 t351).bind fun t354 => (if t354 = true then ((laws_markIntS.f k x7 1).bind fun bt355 => (if bt355.1 < 0 then (laws_FnExactLevelsTold.j1 k x0 x1 x5 x6 x8 x9 true) else ((laws_eqIntS.f k x8 x5).bind fun t357 => (if t357 = true then ((laws_eqIntS.f k x9 x6).bind fun t358 => (laws_FnExactLevelsTold.j1 k x0 x1 x5 x6 x8 x9 (!t358))) else (laws_FnExactLevelsTold.j1 k x0 x1 x5 x6 x8 x9 true))))) else (some false))))
def laws_FnExactLevelsTold.j1 : Nat → List Int → Int → List Int → List Int → List Int → List Int → Bool → Option (Bool)
 | 0, _, _, _, _, _, _, _ => none
 | k + 1, x0, x1, x5, x6, x8, x9, x64 => if x64 = true then (some false) else ((laws_markIntS.f k x8 1).bind fun bt359 => ((laws_markIntS.f k x9 bt359.1).bind fun bt361 => ((laws_heldIntS.f k bt359.2 1).bind fun t363 => (if t363 < 0 then (some false) else ((laws_heldIntS.f k bt361.2 t363).bind fun t364 => (if t364 < 0 then (some false) else (if t364 = bt361.1 then ((laws_toIntS.f k x0).bind fun t365 => ((impl_LevelsTold.f t365 x1).bind fun bt368 => ((laws_eqIntS.f k bt368.1 x5).bind fun t374 => (if t374 = true then ((laws_eqIntS.f k bt368.2 x6).bind fun t375 => (laws_FnExactLevelsTold.j2 k bt359.2 bt361.2 bt361.1 (!t375))) else (laws_FnExactLevelsTold.j2 k bt359.2 bt361.2 bt361.1 true))))) else (some false))))))))
def laws_FnExactLevelsTold.j2 : Nat → List Int → List Int → Int → Bool → Option (Bool)
 | 0, _, _, _, _ => none
 | k + 1, x8, x9, x11, x100 => if x100 = true then (some false) else ((laws_heldIntS.f k x8 1).bind fun t376 => (if t376 < 0 then (some false) else ((laws_heldIntS.f k x9 t376).bind fun t377 => (if t377 < 0 then (some false) else (if t377 = x11 then (some true) else (some false))))))
end
def laws_FnExactLevelsTold.f (k : Nat) (l0 : List Int) (a1 : Int) : Option (Bool) := if (l0.length : Int) > 1048576 then (some true) else ((laws_toIntS.f k l0).bind fun t331 => ((spec_LevelsTold.f k t331 a1).bind fun bt334 => ((laws_toIntS.f k l0).bind fun t340 => ((impl_LevelsTold.f t340 a1).bind fun bt343 => ((laws_eqIntS.f k bt343.1 bt334.1).bind fun t349 => (if t349 = true then ((laws_eqIntS.f k bt343.2 bt334.2).bind fun t350 => (laws_FnExactLevelsTold.j0 k l0 a1 bt334.1 bt334.2 t340 bt343.1 bt343.2 (!t350))) else (laws_FnExactLevelsTold.j0 k l0 a1 bt334.1 bt334.2 t340 bt343.1 bt343.2 true)))))))
theorem laws_FnExactLevelsTold.mono_l : ∀ k, (∀ y0 y1 y2 y3 y4 y5 y6 y7, LeO (laws_FnExactLevelsTold.j0 k y0 y1 y2 y3 y4 y5 y6 y7) (laws_FnExactLevelsTold.j0 (k + 1) y0 y1 y2 y3 y4 y5 y6 y7)) ∧ (∀ y0 y1 y2 y3 y4 y5 y6, LeO (laws_FnExactLevelsTold.j1 k y0 y1 y2 y3 y4 y5 y6) (laws_FnExactLevelsTold.j1 (k + 1) y0 y1 y2 y3 y4 y5 y6)) ∧ (∀ y0 y1 y2 y3, LeO (laws_FnExactLevelsTold.j2 k y0 y1 y2 y3) (laws_FnExactLevelsTold.j2 (k + 1) y0 y1 y2 y3))
 | 0 => ⟨fun _ _ _ _ _ _ _ _ r h => by simp [laws_FnExactLevelsTold.j0] at h, fun _ _ _ _ _ _ _ r h => by simp [laws_FnExactLevelsTold.j1] at h, fun _ _ _ _ r h => by simp [laws_FnExactLevelsTold.j2] at h⟩
 | k + 1 => by
  obtain ⟨ih0, ih1, ih2⟩ := laws_FnExactLevelsTold.mono_l k; refine ⟨?_, ?_, ?_⟩
  ·
   intro y0 y1 y2 y3 y4 y5 y6 y7; unfold laws_FnExactLevelsTold.j0
   repeat' first
   | (with_reducible exact ih0 _ _ _ _ _ _ _ _)
   | (with_reducible exact ih1 _ _ _ _ _ _ _)
   | (with_reducible exact ih2 _ _ _ _)
   | (with_reducible exact laws_eqIntS.mono _ _ _)
   | (with_reducible exact laws_heldIntS.mono _ _ _)
   | (with_reducible exact laws_markIntS.mono _ _ _)
   | (with_reducible exact laws_toIntS.mono _ _)
   | (with_reducible exact spec_LevelsTold.mono _ _ _)
   | (with_reducible exact LeO.refl _)
   | (with_reducible exact LeO.none _)
   | (with_reducible refine LeO.ite ?_ ?_)
   | (with_reducible refine LeO.bind ?_ (fun _ => ?_))
   | exact ih0 _ _ _ _ _ _ _ _
   | exact ih1 _ _ _ _ _ _ _
   | exact ih2 _ _ _ _
   | exact laws_eqIntS.mono _ _ _
   | exact laws_heldIntS.mono _ _ _
   | exact laws_markIntS.mono _ _ _
   | exact laws_toIntS.mono _ _
   | exact spec_LevelsTold.mono _ _ _
   | exact LeO.none _
   | refine LeO.ite ?_ ?_
   | refine LeO.bind ?_ (fun _ => ?_)
  ·
   intro y0 y1 y2 y3 y4 y5 y6; unfold laws_FnExactLevelsTold.j1
   repeat' first
   | (with_reducible exact ih0 _ _ _ _ _ _ _ _)
   | (with_reducible exact ih1 _ _ _ _ _ _ _)
   | (with_reducible exact ih2 _ _ _ _)
   | (with_reducible exact laws_eqIntS.mono _ _ _)
   | (with_reducible exact laws_heldIntS.mono _ _ _)
   | (with_reducible exact laws_markIntS.mono _ _ _)
   | (with_reducible exact laws_toIntS.mono _ _)
   | (with_reducible exact spec_LevelsTold.mono _ _ _)
   | (with_reducible exact LeO.refl _)
   | (with_reducible exact LeO.none _)
   | (with_reducible refine LeO.ite ?_ ?_)
   | (with_reducible refine LeO.bind ?_ (fun _ => ?_))
   | exact ih0 _ _ _ _ _ _ _ _
   | exact ih1 _ _ _ _ _ _ _
   | exact ih2 _ _ _ _
   | exact laws_eqIntS.mono _ _ _
   | exact laws_heldIntS.mono _ _ _
   | exact laws_markIntS.mono _ _ _
   | exact laws_toIntS.mono _ _
   | exact spec_LevelsTold.mono _ _ _
   | exact LeO.none _
   | refine LeO.ite ?_ ?_
   | refine LeO.bind ?_ (fun _ => ?_)
  ·
   intro y0 y1 y2 y3; unfold laws_FnExactLevelsTold.j2
   repeat' first
   | (with_reducible exact ih0 _ _ _ _ _ _ _ _)
   | (with_reducible exact ih1 _ _ _ _ _ _ _)
   | (with_reducible exact ih2 _ _ _ _)
   | (with_reducible exact laws_eqIntS.mono _ _ _)
   | (with_reducible exact laws_heldIntS.mono _ _ _)
   | (with_reducible exact laws_markIntS.mono _ _ _)
   | (with_reducible exact laws_toIntS.mono _ _)
   | (with_reducible exact spec_LevelsTold.mono _ _ _)
   | (with_reducible exact LeO.refl _)
   | (with_reducible exact LeO.none _)
   | (with_reducible refine LeO.ite ?_ ?_)
   | (with_reducible refine LeO.bind ?_ (fun _ => ?_))
   | exact ih0 _ _ _ _ _ _ _ _
   | exact ih1 _ _ _ _ _ _ _
   | exact ih2 _ _ _ _
   | exact laws_eqIntS.mono _ _ _
   | exact laws_heldIntS.mono _ _ _
   | exact laws_markIntS.mono _ _ _
   | exact laws_toIntS.mono _ _
   | exact spec_LevelsTold.mono _ _ _
   | exact LeO.none _
   | refine LeO.ite ?_ ?_
   | refine LeO.bind ?_ (fun _ => ?_)
theorem laws_FnExactLevelsTold.mono : ∀ a0 a1 k, LeO (laws_FnExactLevelsTold.f k a0 a1) (laws_FnExactLevelsTold.f (k + 1) a0 a1) := by
 intro a0 a1 k; obtain ⟨ih0, ih1, ih2⟩ := laws_FnExactLevelsTold.mono_l k; unfold laws_FnExactLevelsTold.f
 repeat' first
   | (with_reducible exact ih0 _ _ _ _ _ _ _ _)
   | (with_reducible exact ih1 _ _ _ _ _ _ _)
   | (with_reducible exact ih2 _ _ _ _)
   | (with_reducible exact laws_eqIntS.mono _ _ _)
   | (with_reducible exact laws_heldIntS.mono _ _ _)
   | (with_reducible exact laws_markIntS.mono _ _ _)
   | (with_reducible exact laws_toIntS.mono _ _)
   | (with_reducible exact spec_LevelsTold.mono _ _ _)
   | (with_reducible exact LeO.refl _)
   | (with_reducible exact LeO.none _)
   | (with_reducible refine LeO.ite ?_ ?_)
   | (with_reducible refine LeO.bind ?_ (fun _ => ?_))
   | exact ih0 _ _ _ _ _ _ _ _
   | exact ih1 _ _ _ _ _ _ _
   | exact ih2 _ _ _ _
   | exact laws_eqIntS.mono _ _ _
   | exact laws_heldIntS.mono _ _ _
   | exact laws_markIntS.mono _ _ _
   | exact laws_toIntS.mono _ _
   | exact spec_LevelsTold.mono _ _ _
   | exact LeO.none _
   | refine LeO.ite ?_ ?_
   | refine LeO.bind ?_ (fun _ => ?_)
set_option maxHeartbeats 8000000 in
set_option maxRecDepth 100000 in
theorem laws_FnExactLevelsTold.calls (k : Nat) (A0 : Option Addr) (c0 : Nat) (l0 : List Int) (a1 : Int) (r : Bool) (w : World) (hr0 : Kd.C (Kd.int .i64) w A0 l0.length l0) (hc0 : l0.length ≤ c0) (h : laws_FnExactLevelsTold.f k l0 a1 = some r) :
  Calls Try.prog 5 #[.slice A0 l0.length c0, .int .i64 a1] w fun e w' => e = .returned (.bool r) ∧ Below w.heap.size w w' := by
 have HR0 := Aside0.mk hr0; have HC0 := Aside0.mk hc0; clear hr0 hc0; have HB := Aside0.mk (Below.refl w.heap.size w); have H : (if (l0.length : Int) > 1048576 then (some true) else ((laws_toIntS.f k l0).bind fun t331 => ((spec_LevelsTold.f k t331 a1).bind fun bt334 => ((laws_toIntS.f k l0).bind fun t340 => ((impl_LevelsTold.f t340 a1).bind fun bt343 => ((laws_eqIntS.f k bt343.1 bt334.1).bind fun t349 => (if t349 = true then ((laws_eqIntS.f k bt343.2 bt334.2).bind fun t350 => (laws_FnExactLevelsTold.j0 k l0 a1 bt334.1 bt334.2 t340 bt343.1 bt343.2 (!t350))) else (laws_FnExactLevelsTold.j0 k l0 a1 bt334.1 bt334.2 t340 bt343.1 bt343.2 true)))))))) = some r := h; clear h; by_cases c3 : (l0.length : Int) > 1048576
 ·
  rw [if_pos c3] at H; have c3b0 : decide (1048576 < (l0.length : Int)) = true := decide_eq_true c3; have c3b1 : decide (1048576 < l0.length) = true := decide_eq_true (by omega); clear c3; obtain rfl := Option.some.inj H; go_enter Try.func5, Try.ntmps5; go_wp2; go_ret; exact ⟨by first | rfl | (simp [errW_none, errW_some] <;> rfl) | (simp [*, errW_none, errW_some] <;> rfl), by repeat (first | (with_reducible first | exact HB.out | apply below_alloc | apply pw_below_drewN | apply below_drew1) | exact HB.out)⟩
 ·
  rw [if_neg c3] at H; have c3b0 : decide (1048576 < (l0.length : Int)) = false := decide_eq_false c3; have c3b1 : decide (1048576 < l0.length) = false := decide_eq_false (by omega); clear c3; replace H := Option.bind_eq_some_iff.mp H; obtain ⟨t331, A40, H⟩ := H; replace H : ((spec_LevelsTold.f k t331 a1).bind fun bt334 => ((laws_toIntS.f k l0).bind fun t340 => ((impl_LevelsTold.f t340 a1).bind fun bt343 => ((laws_eqIntS.f k bt343.1 bt334.1).bind fun t349 => (if t349 = true then ((laws_eqIntS.f k bt343.2 bt334.2).bind fun t350 => (laws_FnExactLevelsTold.j0 k l0 a1 bt334.1 bt334.2 t340 bt343.1 bt343.2 (!t350))) else (laws_FnExactLevelsTold.j0 k l0 a1 bt334.1 bt334.2 t340 bt343.1 bt343.2 true)))))) = some r := H; have A4 := Aside0.mk A40; clear A40; replace H := Option.bind_eq_some_iff.mp H; obtain ⟨⟨t334, t335⟩, A50, H⟩ := H; replace H : ((laws_toIntS.f k l0).bind fun t340 => ((impl_LevelsTold.f t340 a1).bind fun bt343 => ((laws_eqIntS.f k bt343.1 t334).bind fun t349 => (if t349 = true then ((laws_eqIntS.f k bt343.2 t335).bind fun t350 => (laws_FnExactLevelsTold.j0 k l0 a1 t334 t335 t340 bt343.1 bt343.2 (!t350))) else (laws_FnExactLevelsTold.j0 k l0 a1 t334 t335 t340 bt343.1 bt343.2 true))))) = some r := H; have A5 := Aside0.mk A50; clear A50; replace H := Option.bind_eq_some_iff.mp H; obtain ⟨t340, A60, H⟩ := H; replace H : ((impl_LevelsTold.f t340 a1).bind fun bt343 => ((laws_eqIntS.f k bt343.1 t334).bind fun t349 => (if t349 = true then ((laws_eqIntS.f k bt343.2 t335).bind fun t350 => (laws_FnExactLevelsTold.j0 k l0 a1 t334 t335 t340 bt343.1 bt343.2 (!t350))) else (laws_FnExactLevelsTold.j0 k l0 a1 t334 t335 t340 bt343.1 bt343.2 true)))) = some r := H; have A6 := Aside0.mk A60; clear A60; replace H := Option.bind_eq_some_iff.mp H; obtain ⟨⟨t343, t344⟩, A70, H⟩ := H; replace H : ((laws_eqIntS.f k t343 t334).bind fun t349 => (if t349 = true then ((laws_eqIntS.f k t344 t335).bind fun t350 => (laws_FnExactLevelsTold.j0 k l0 a1 t334 t335 t340 t343 t344 (!t350))) else (laws_FnExactLevelsTold.j0 k l0 a1 t334 t335 t340 t343 t344 true))) = some r := H; have A7 := Aside0.mk A70; clear A70; have HC8 := Aside0.mk H; clear H; go_enter Try.func5, Try.ntmps5; go_upto_region 6 with (first | ((with_reducible refine gate_callee (f := 10) rfl ?_); refine goesL_ (some 20) rfl rfl Try.func10 (by kernel_rfl) rfl #[.slice A0 l0.length c0] rfl (by (try simp only [List.map_toArray, List.map_cons, List.map_nil]); first | done | rfl) ?_; (with_reducible refine (laws_toIntS.calls k _ _ l0 t331 _ ?side1 ?side2 A4.out).mono ?_); (case side1 => repeat (first | exact HR0.out | (with_reducible refine Kd.C_alloc ?_ _) | (with_reducible refine Kd.C_drewN ?_ _) | (with_reducible refine Kd.C_drew ?_))); (case side2 => exact HC0.out); rintro e w9 ⟨v332, rfl, ho0, hb⟩; refine ⟨_, rfl, ?_⟩; have n0_ := Aside0.mk (Kd.R_lower ho0 (below_size (by repeat (first | (with_reducible first | exact HB.out | apply below_alloc | apply pw_below_drewN | apply below_drew1) | exact HB.out)))); have n1_ := Aside0.mk (below_step (by repeat (first | (with_reducible first | exact HB.out | apply below_alloc | apply pw_below_drewN | apply below_drew1) | exact HB.out)) hb); clear HB; have HO333 := n0_; have HB := n1_; clear n0_ n1_; (try clear hb); (try clear hb2); (try clear hk); (try clear hi); (try clear ho0); obtain ⟨Ao10, co10, eo10⟩ := Kd.R_slice HO333.out; subst eo10) | ((with_reducible refine gate_callee (f := 17) rfl ?_); refine goesL_ (some 22) rfl rfl Try.func17 (by kernel_rfl) rfl #[.slice Ao10 t331.length co10, .int .i64 a1] rfl (by (try simp only [List.map_toArray, List.map_cons, List.map_nil]); first | done | rfl) ?_; (with_reducible refine (spec_LevelsTold.calls k _ _ t331 a1 t334 t335 _ ?side1 ?side2 A5.out).mono ?_); (case side1 => repeat (first | exact (Kd.R_reads' HO333.out).2.2 | (with_reducible refine Kd.C_alloc ?_ _) | (with_reducible refine Kd.C_drewN ?_ _) | (with_reducible refine Kd.C_drew ?_))); (case side2 => exact (Kd.R_reads' HO333.out).2.1); rintro e w11 ⟨v336, v338, rfl, ho0, ho1, hb⟩; refine ⟨_, rfl, ?_⟩; have n0_ := Aside0.mk (Kd.R_mono (Kd.R_told (Kd.R_told (Kd.R_old (by (with_reducible repeat (first | apply Kd.R_alloc | apply Kd.R_drewN | apply Kd.R_drew)); exact HO333.out) hb) (Kd.R_base ho0)) (Kd.R_base ho1)) (fun _ h_ => h_.1)); have n1_ := Aside0.mk (Kd.R_lower (Kd.R_new' ho0 (Kd.R_lt (by (with_reducible repeat (first | apply Kd.R_alloc | apply Kd.R_drewN | apply Kd.R_drew)); exact HO333.out))) (below_size (by repeat (first | (with_reducible first | exact HB.out | apply below_alloc | apply pw_below_drewN | apply below_drew1) | exact HB.out)))); have n2_ := Aside0.mk (Kd.R_lower (Kd.R_new' ho1 (Kd.R_lt (by (with_reducible repeat (first | apply Kd.R_alloc | apply Kd.R_drewN | apply Kd.R_drew)); exact HO333.out))) (below_size (by repeat (first | (with_reducible first | exact HB.out | apply below_alloc | apply pw_below_drewN | apply below_drew1) | exact HB.out)))); have n3_ := Aside0.mk (below_step (by repeat (first | (with_reducible first | exact HB.out | apply below_alloc | apply pw_below_drewN | apply below_drew1) | exact HB.out)) hb); clear HO333; clear HB; have HO333 := n0_; have HO337 := n1_; have HO339 := n2_; have HB := n3_; clear n0_ n1_ n2_ n3_; (try clear hb); (try clear hb2); (try clear hk); (try clear hi); (try clear ho0); (try clear ho1)) | ((with_reducible refine gate_callee (f := 10) rfl ?_); refine goesL_ (some 26) rfl rfl Try.func10 (by kernel_rfl) rfl #[.slice A0 l0.length c0] rfl (by (try simp only [List.map_toArray, List.map_cons, List.map_nil]); first | done | rfl) ?_; (with_reducible refine (laws_toIntS.calls k _ _ l0 t340 _ ?side1 ?side2 A6.out).mono ?_); (case side1 => repeat (first | exact (Kd.C_below HR0.out HB.out) | (with_reducible refine Kd.C_alloc ?_ _) | (with_reducible refine Kd.C_drewN ?_ _) | (with_reducible refine Kd.C_drew ?_))); (case side2 => exact HC0.out); rintro e w12 ⟨v341, rfl, ho0, hb⟩; refine ⟨_, rfl, ?_⟩; have n0_ := Aside0.mk (Kd.R_elder' (by (with_reducible repeat (first | apply Kd.R_alloc | apply Kd.R_drewN | apply Kd.R_drew)); exact HO333.out) (Kd.R_base ho0) hb); have n1_ := Aside0.mk (Kd.R_elder' (by (with_reducible repeat (first | apply Kd.R_alloc | apply Kd.R_drewN | apply Kd.R_drew)); exact HO337.out) (Kd.R_base ho0) hb); have n2_ := Aside0.mk (Kd.R_elder' (by (with_reducible repeat (first | apply Kd.R_alloc | apply Kd.R_drewN | apply Kd.R_drew)); exact HO339.out) (Kd.R_base ho0) hb); have n3_ := Aside0.mk (Kd.R_lower (Kd.R_new' (Kd.R_new' (Kd.R_new' ho0 (Kd.R_lt (by (with_reducible repeat (first | apply Kd.R_alloc | apply Kd.R_drewN | apply Kd.R_drew)); exact HO333.out))) (Kd.R_lt (by (with_reducible repeat (first | apply Kd.R_alloc | apply Kd.R_drewN | apply Kd.R_drew)); exact HO337.out))) (Kd.R_lt (by (with_reducible repeat (first | apply Kd.R_alloc | apply Kd.R_drewN | apply Kd.R_drew)); exact HO339.out))) (below_size (by repeat (first | (with_reducible first | exact HB.out | apply below_alloc | apply pw_below_drewN | apply below_drew1) | exact HB.out)))); have n4_ := Aside0.mk (below_step (by repeat (first | (with_reducible first | exact HB.out | apply below_alloc | apply pw_below_drewN | apply below_drew1) | exact HB.out)) hb); clear HO333; clear HO337; clear HO339; clear HB; have HO333 := n0_; have HO337 := n1_; have HO339 := n2_; have HO342 := n3_; have HB := n4_; clear n0_ n1_ n2_ n3_ n4_; (try clear hb); (try clear hb2); (try clear hk); (try clear hi); (try clear ho0); obtain ⟨Ao13, co13, eo13⟩ := Kd.R_slice HO342.out; subst eo13) | ((with_reducible refine gate_callee (f := 18) rfl ?_); refine goesL_ (some 30) rfl rfl Try.func18 (by kernel_rfl) rfl #[.slice Ao13 t340.length co13, .int .i64 a1] rfl (by (try simp only [List.map_toArray, List.map_cons, List.map_nil]); first | done | rfl) ?_; (with_reducible refine (impl_LevelsTold.calls _ _ t340 a1 t343 t344 _ ?side1 ?side2 A7.out).mono ?_); (case side1 => repeat (first | exact (Kd.R_reads' HO342.out).2.2 | (with_reducible refine Kd.C_alloc ?_ _) | (with_reducible refine Kd.C_drewN ?_ _) | (with_reducible refine Kd.C_drew ?_))); (case side2 => exact (Kd.R_reads' HO342.out).2.1); rintro e w14 ⟨v345, v347, rfl, ho0, ho1, hb⟩; refine ⟨_, rfl, ?_⟩; have n0_ := Aside0.mk (Kd.R_mono (Kd.R_told (Kd.R_told (Kd.R_old (by (with_reducible repeat (first | apply Kd.R_alloc | apply Kd.R_drewN | apply Kd.R_drew)); exact HO333.out) hb) (Kd.R_base ho0)) (Kd.R_base ho1)) (fun _ h_ => h_.1)); have n1_ := Aside0.mk (Kd.R_mono (Kd.R_told (Kd.R_told (Kd.R_old (by (with_reducible repeat (first | apply Kd.R_alloc | apply Kd.R_drewN | apply Kd.R_drew)); exact HO337.out) hb) (Kd.R_base ho0)) (Kd.R_base ho1)) (fun _ h_ => h_.1)); have n2_ := Aside0.mk (Kd.R_mono (Kd.R_told (Kd.R_told (Kd.R_old (by (with_reducible repeat (first | apply Kd.R_alloc | apply Kd.R_drewN | apply Kd.R_drew)); exact HO339.out) hb) (Kd.R_base ho0)) (Kd.R_base ho1)) (fun _ h_ => h_.1)); have n3_ := Aside0.mk (Kd.R_mono (Kd.R_told (Kd.R_told (Kd.R_old (by (with_reducible repeat (first | apply Kd.R_alloc | apply Kd.R_drewN | apply Kd.R_drew)); exact HO342.out) hb) (Kd.R_base ho0)) (Kd.R_base ho1)) (fun _ h_ => h_.1)); have n4_ := Aside0.mk (Kd.R_lower (Kd.R_new' (Kd.R_new' (Kd.R_new' (Kd.R_new' ho0 (Kd.R_lt (by (with_reducible repeat (first | apply Kd.R_alloc | apply Kd.R_drewN | apply Kd.R_drew)); exact HO333.out))) (Kd.R_lt (by (with_reducible repeat (first | apply Kd.R_alloc | apply Kd.R_drewN | apply Kd.R_drew)); exact HO337.out))) (Kd.R_lt (by (with_reducible repeat (first | apply Kd.R_alloc | apply Kd.R_drewN | apply Kd.R_drew)); exact HO339.out))) (Kd.R_lt (by (with_reducible repeat (first | apply Kd.R_alloc | apply Kd.R_drewN | apply Kd.R_drew)); exact HO342.out))) (below_size (by repeat (first | (with_reducible first | exact HB.out | apply below_alloc | apply pw_below_drewN | apply below_drew1) | exact HB.out)))); have n5_ := Aside0.mk (Kd.R_lower (Kd.R_new' (Kd.R_new' (Kd.R_new' (Kd.R_new' ho1 (Kd.R_lt (by (with_reducible repeat (first | apply Kd.R_alloc | apply Kd.R_drewN | apply Kd.R_drew)); exact HO333.out))) (Kd.R_lt (by (with_reducible repeat (first | apply Kd.R_alloc | apply Kd.R_drewN | apply Kd.R_drew)); exact HO337.out))) (Kd.R_lt (by (with_reducible repeat (first | apply Kd.R_alloc | apply Kd.R_drewN | apply Kd.R_drew)); exact HO339.out))) (Kd.R_lt (by (with_reducible repeat (first | apply Kd.R_alloc | apply Kd.R_drewN | apply Kd.R_drew)); exact HO342.out))) (below_size (by repeat (first | (with_reducible first | exact HB.out | apply below_alloc | apply pw_below_drewN | apply below_drew1) | exact HB.out)))); have n6_ := Aside0.mk (below_step (by repeat (first | (with_reducible first | exact HB.out | apply below_alloc | apply pw_below_drewN | apply below_drew1) | exact HB.out)) hb); clear HO333; clear HO337; clear HO339; clear HO342; clear HB; have HO333 := n0_; have HO337 := n1_; have HO339 := n2_; have HO342 := n3_; have HO346 := n4_; have HO348 := n5_; have HB := n6_; clear n0_ n1_ n2_ n3_ n4_ n5_ n6_; (try clear hb); (try clear hb2); (try clear hk); (try clear hi); (try clear ho0); (try clear ho1)))
  (try simp only [Act.put, List.setIfInBounds_toArray, List.set_cons_zero, List.set_cons_succ]); go_cut [42] (fun v42 wc => ∃ (kq : Nat) (x42_7 : Bool), v42 = .bool x42_7 ∧ Aside0 (laws_FnExactLevelsTold.j0 kq l0 a1 t334 t335 t340 t343 t344 x42_7 = some r) ∧ Aside0 (kq ≤ k) ∧ Aside0 (Kd.R (Kd.int .i64) 3 wc w.heap.size (fun k_ => some k_ ≠ (v338 : Value).ownBlock ∧ some k_ ≠ ((.slice Ao13 t340.length co13) : Value).ownBlock ∧ some k_ ≠ (v345 : Value).ownBlock ∧ some k_ ≠ (v347 : Value).ownBlock) v336 t334) ∧ Aside0 (Kd.R (Kd.int .i64) 3 wc w.heap.size (fun k_ => some k_ ≠ (v336 : Value).ownBlock ∧ some k_ ≠ ((.slice Ao13 t340.length co13) : Value).ownBlock ∧ some k_ ≠ (v345 : Value).ownBlock ∧ some k_ ≠ (v347 : Value).ownBlock) v338 t335) ∧ Aside0 (Kd.R (Kd.int .i64) 3 wc w.heap.size (fun k_ => some k_ ≠ (v336 : Value).ownBlock ∧ some k_ ≠ (v338 : Value).ownBlock ∧ some k_ ≠ (v345 : Value).ownBlock ∧ some k_ ≠ (v347 : Value).ownBlock) (.slice Ao13 t340.length co13) t340) ∧ Aside0 (Kd.R (Kd.int .i64) 3 wc w.heap.size (fun k_ => some k_ ≠ (v336 : Value).ownBlock ∧ some k_ ≠ (v338 : Value).ownBlock ∧ some k_ ≠ ((.slice Ao13 t340.length co13) : Value).ownBlock ∧ some k_ ≠ (v347 : Value).ownBlock) v345 t343) ∧ Aside0 (Kd.R (Kd.int .i64) 3 wc w.heap.size (fun k_ => some k_ ≠ (v336 : Value).ownBlock ∧ some k_ ≠ (v338 : Value).ownBlock ∧ some k_ ≠ ((.slice Ao13 t340.length co13) : Value).ownBlock ∧ some k_ ≠ (v345 : Value).ownBlock) v347 t344) ∧ Aside0 (Below w.heap.size w wc))
  case first =>
   have H := HC8.out; clear HC8; replace H := Option.bind_eq_some_iff.mp H; obtain ⟨t349, A150, H⟩ := H; replace H : (if t349 = true then ((laws_eqIntS.f k t344 t335).bind fun t350 => (laws_FnExactLevelsTold.j0 k l0 a1 t334 t335 t340 t343 t344 (!t350))) else (laws_FnExactLevelsTold.j0 k l0 a1 t334 t335 t340 t343 t344 true)) = some r := H; have A15 := Aside0.mk A150; clear A150; by_cases c16 : t349 = true
   ·
    subst c16; have H1 : ((laws_eqIntS.f k t344 t335).bind fun t350 => (laws_FnExactLevelsTold.j0 k l0 a1 t334 t335 t340 t343 t344 (!t350))) = some r := by rw [if_pos rfl] at H; exact H
    clear H; have H := H1; clear H1; replace H := Option.bind_eq_some_iff.mp H; obtain ⟨t350, A170, H⟩ := H; replace H : (laws_FnExactLevelsTold.j0 k l0 a1 t334 t335 t340 t343 t344 (!t350)) = some r := H; have A17 := Aside0.mk A170; clear A170; have H' := Aside0.mk H; clear H; obtain ⟨Ao18, co18, eo18⟩ := Kd.R_slice HO346.out; subst eo18; obtain ⟨Ao19, co19, eo19⟩ := Kd.R_slice HO337.out; subst eo19; go_wp2_with (first | ((with_reducible refine gate_callee (f := 12) rfl ?_); refine goesL_ (some 35) rfl rfl Try.func12 (by kernel_rfl) rfl #[.slice Ao18 t343.length co18, .slice Ao19 t334.length co19] rfl (by (try simp only [List.map_toArray, List.map_cons, List.map_nil]); first | done | rfl) ?_; (with_reducible refine (laws_eqIntS.calls k _ _ t343 _ _ t334 true _ ?side1 ?side2 ?side3 ?side4 A15.out).mono ?_); (case side1 => repeat (first | exact (Kd.R_reads' HO346.out).2.2 | (with_reducible refine Kd.C_alloc ?_ _) | (with_reducible refine Kd.C_drewN ?_ _) | (with_reducible refine Kd.C_drew ?_))); (case side2 => exact (Kd.R_reads' HO346.out).2.1); (case side3 => repeat (first | exact (Kd.R_reads' HO337.out).2.2 | (with_reducible refine Kd.C_alloc ?_ _) | (with_reducible refine Kd.C_drewN ?_ _) | (with_reducible refine Kd.C_drew ?_))); (case side4 => exact (Kd.R_reads' HO337.out).2.1); rintro e w' ⟨rfl, ⟨nd, rfl⟩⟩; refine ⟨_, rfl, ?_⟩; obtain ⟨Ao20, co20, eo20⟩ := Kd.R_slice HO348.out; subst eo20; obtain ⟨Ao21, co21, eo21⟩ := Kd.R_slice HO339.out; subst eo21) | (go_at_call 12; (with_reducible refine (laws_eqIntS.calls k _ _ t344 _ _ t335 t350 _ ?side1 ?side2 ?side3 ?side4 A17.out).mono ?_); (case side1 => repeat (first | exact (Kd.R_reads' HO348.out).2.2 | (with_reducible refine Kd.C_alloc ?_ _) | (with_reducible refine Kd.C_drewN ?_ _) | (with_reducible refine Kd.C_drew ?_))); (case side2 => exact (Kd.R_reads' HO348.out).2.1); (case side3 => repeat (first | exact (Kd.R_reads' HO339.out).2.2 | (with_reducible refine Kd.C_alloc ?_ _) | (with_reducible refine Kd.C_drewN ?_ _) | (with_reducible refine Kd.C_drew ?_))); (case side4 => exact (Kd.R_reads' HO339.out).2.1); rintro e w' ⟨rfl, ⟨nd, rfl⟩⟩)); go_meet
    case rel => exact ⟨_, (!t350), (by first | rfl | (simp; done) | (simp [*]; done)), H', ⟨by first | omega | exact Nat.le_refl _⟩, ⟨by (with_reducible repeat (first | apply Kd.R_alloc | apply Kd.R_drewN | apply Kd.R_drew)); exact Kd.R_mono HO337.out (fun _ hk => ⟨hk.1.1.1.1, ⟨hk.1.1.2, ⟨hk.1.2, hk.2⟩⟩⟩)⟩, ⟨by (with_reducible repeat (first | apply Kd.R_alloc | apply Kd.R_drewN | apply Kd.R_drew)); exact Kd.R_mono HO339.out (fun _ hk => ⟨hk.1.1.1.1, ⟨hk.1.1.2, ⟨hk.1.2, hk.2⟩⟩⟩)⟩, ⟨by (with_reducible repeat (first | apply Kd.R_alloc | apply Kd.R_drewN | apply Kd.R_drew)); exact Kd.R_mono HO342.out (fun _ hk => ⟨hk.1.1.1.2, ⟨hk.1.1.2, ⟨hk.1.2, hk.2⟩⟩⟩)⟩, ⟨by (with_reducible repeat (first | apply Kd.R_alloc | apply Kd.R_drewN | apply Kd.R_drew)); exact Kd.R_mono HO346.out (fun _ hk => ⟨hk.1.1.2, ⟨hk.1.2, ⟨hk.2, hk.1.1.1.1⟩⟩⟩)⟩, ⟨by (with_reducible repeat (first | apply Kd.R_alloc | apply Kd.R_drewN | apply Kd.R_drew)); exact Kd.R_mono HO348.out (fun _ hk => ⟨hk.1.1.2, ⟨hk.1.2, ⟨hk.2, hk.1.1.1.1⟩⟩⟩)⟩, ⟨by repeat (first | (with_reducible first | exact HB.out | apply below_alloc | apply pw_below_drewN | apply below_drew1) | exact HB.out)⟩⟩
   ·
    replace c16 := Bool.eq_false_iff.mpr c16; subst c16; have H1 : (laws_FnExactLevelsTold.j0 k l0 a1 t334 t335 t340 t343 t344 true) = some r := by rw [if_neg (show ¬ (false = true) by decide)] at H; exact H
    clear H; have H := H1; clear H1; have H' := Aside0.mk H; clear H; obtain ⟨Ao22, co22, eo22⟩ := Kd.R_slice HO346.out; subst eo22; obtain ⟨Ao23, co23, eo23⟩ := Kd.R_slice HO337.out; subst eo23; go_wp2_with (first | ((with_reducible refine gate_callee (f := 12) rfl ?_); refine goesL_ (some 35) rfl rfl Try.func12 (by kernel_rfl) rfl #[.slice Ao22 t343.length co22, .slice Ao23 t334.length co23] rfl (by (try simp only [List.map_toArray, List.map_cons, List.map_nil]); first | done | rfl) ?_; (with_reducible refine (laws_eqIntS.calls k _ _ t343 _ _ t334 false _ ?side1 ?side2 ?side3 ?side4 A15.out).mono ?_); (case side1 => repeat (first | exact (Kd.R_reads' HO346.out).2.2 | (with_reducible refine Kd.C_alloc ?_ _) | (with_reducible refine Kd.C_drewN ?_ _) | (with_reducible refine Kd.C_drew ?_))); (case side2 => exact (Kd.R_reads' HO346.out).2.1); (case side3 => repeat (first | exact (Kd.R_reads' HO337.out).2.2 | (with_reducible refine Kd.C_alloc ?_ _) | (with_reducible refine Kd.C_drewN ?_ _) | (with_reducible refine Kd.C_drew ?_))); (case side4 => exact (Kd.R_reads' HO337.out).2.1); rintro e w' ⟨rfl, ⟨nd, rfl⟩⟩; refine ⟨_, rfl, ?_⟩)); go_meet
    case rel => exact ⟨_, (true), (by first | rfl | (simp; done) | (simp [*]; done)), H', ⟨by first | omega | exact Nat.le_refl _⟩, ⟨by (with_reducible repeat (first | apply Kd.R_alloc | apply Kd.R_drewN | apply Kd.R_drew)); exact Kd.R_mono HO337.out (fun _ hk => ⟨hk.1.1.1.1, ⟨hk.1.1.2, ⟨hk.1.2, hk.2⟩⟩⟩)⟩, ⟨by (with_reducible repeat (first | apply Kd.R_alloc | apply Kd.R_drewN | apply Kd.R_drew)); exact Kd.R_mono HO339.out (fun _ hk => ⟨hk.1.1.1.1, ⟨hk.1.1.2, ⟨hk.1.2, hk.2⟩⟩⟩)⟩, ⟨by (with_reducible repeat (first | apply Kd.R_alloc | apply Kd.R_drewN | apply Kd.R_drew)); exact Kd.R_mono HO342.out (fun _ hk => ⟨hk.1.1.1.2, ⟨hk.1.1.2, ⟨hk.1.2, hk.2⟩⟩⟩)⟩, ⟨by (with_reducible repeat (first | apply Kd.R_alloc | apply Kd.R_drewN | apply Kd.R_drew)); exact Kd.R_mono HO346.out (fun _ hk => ⟨hk.1.1.2, ⟨hk.1.2, ⟨hk.2, hk.1.1.1.1⟩⟩⟩)⟩, ⟨by (with_reducible repeat (first | apply Kd.R_alloc | apply Kd.R_drewN | apply Kd.R_drew)); exact Kd.R_mono HO348.out (fun _ hk => ⟨hk.1.1.2, ⟨hk.1.2, ⟨hk.2, hk.1.1.1.1⟩⟩⟩)⟩, ⟨by repeat (first | (with_reducible first | exact HB.out | apply below_alloc | apply pw_below_drewN | apply below_drew1) | exact HB.out)⟩⟩
  case rest =>
   clear HC8; (try clear c1); (try clear p2); (try clear c3); (try clear c3b0); (try clear c3b1); (try clear c5); (try clear c10); (try clear c12); (try clear c16); (try clear c17); (try clear c18); obtain ⟨kq, x42_7, rfl, HA, HJ7, HO_5, HO_6, HO_7, HO_8, HO_9, HB⟩ := hcut
   cases kq with
   | zero => exact absurd HA.out (by simp [laws_FnExactLevelsTold.j0])
   | succ kj7 =>
    have H := HA.out; clear HA; simp only [laws_FnExactLevelsTold.j0] at H; by_cases c24 : x42_7 = true
    ·
     subst c24; have H1 : (some false) = some r := by rw [if_pos rfl] at H; exact H
     clear H; have H := H1; clear H1; obtain rfl := Option.some.inj H; go_wp2; go_ret; exact ⟨by first | rfl | (simp [errW_none, errW_some] <;> rfl) | (simp [*, errW_none, errW_some] <;> rfl), by repeat (first | (with_reducible first | exact HB.out | apply below_alloc | apply pw_below_drewN | apply below_drew1) | exact HB.out)⟩
    ·
     replace c24 := Bool.eq_false_iff.mpr c24; subst c24; have H1 : ((laws_toIntS.f kj7 l0).bind fun t351 => ((laws_eqIntS.f kj7 t340 t351).bind fun t354 => (if t354 = true then ((laws_markIntS.f kj7 t340 1).bind fun bt355 => (if bt355.1 < 0 then (laws_FnExactLevelsTold.j1 kj7 l0 a1 t334 t335 t343 t344 true) else ((laws_eqIntS.f kj7 t343 t334).bind fun t357 => (if t357 = true then ((laws_eqIntS.f kj7 t344 t335).bind fun t358 => (laws_FnExactLevelsTold.j1 kj7 l0 a1 t334 t335 t343 t344 (!t358))) else (laws_FnExactLevelsTold.j1 kj7 l0 a1 t334 t335 t343 t344 true))))) else (some false)))) = some r := by rw [if_neg (show ¬ (false = true) by decide)] at H; exact H
     clear H; have H := H1; clear H1; replace H := Option.bind_eq_some_iff.mp H; obtain ⟨t351, A250, H⟩ := H; replace H : ((laws_eqIntS.f kj7 t340 t351).bind fun t354 => (if t354 = true then ((laws_markIntS.f kj7 t340 1).bind fun bt355 => (if bt355.1 < 0 then (laws_FnExactLevelsTold.j1 kj7 l0 a1 t334 t335 t343 t344 true) else ((laws_eqIntS.f kj7 t343 t334).bind fun t357 => (if t357 = true then ((laws_eqIntS.f kj7 t344 t335).bind fun t358 => (laws_FnExactLevelsTold.j1 kj7 l0 a1 t334 t335 t343 t344 (!t358))) else (laws_FnExactLevelsTold.j1 kj7 l0 a1 t334 t335 t343 t344 true))))) else (some false))) = some r := H; have A25 := Aside0.mk A250; clear A250; replace H := Option.bind_eq_some_iff.mp H; obtain ⟨t354, A260, H⟩ := H; replace H : (if t354 = true then ((laws_markIntS.f kj7 t340 1).bind fun bt355 => (if bt355.1 < 0 then (laws_FnExactLevelsTold.j1 kj7 l0 a1 t334 t335 t343 t344 true) else ((laws_eqIntS.f kj7 t343 t334).bind fun t357 => (if t357 = true then ((laws_eqIntS.f kj7 t344 t335).bind fun t358 => (laws_FnExactLevelsTold.j1 kj7 l0 a1 t334 t335 t343 t344 (!t358))) else (laws_FnExactLevelsTold.j1 kj7 l0 a1 t334 t335 t343 t344 true))))) else (some false)) = some r := H; have A26 := Aside0.mk A260; clear A260; by_cases c27 : t354 = true
     ·
      subst c27; have H1 : ((laws_markIntS.f kj7 t340 1).bind fun bt355 => (if bt355.1 < 0 then (laws_FnExactLevelsTold.j1 kj7 l0 a1 t334 t335 t343 t344 true) else ((laws_eqIntS.f kj7 t343 t334).bind fun t357 => (if t357 = true then ((laws_eqIntS.f kj7 t344 t335).bind fun t358 => (laws_FnExactLevelsTold.j1 kj7 l0 a1 t334 t335 t343 t344 (!t358))) else (laws_FnExactLevelsTold.j1 kj7 l0 a1 t334 t335 t343 t344 true))))) = some r := by rw [if_pos rfl] at H; exact H
      clear H; have H := H1; clear H1; replace H := Option.bind_eq_some_iff.mp H; obtain ⟨⟨t355, t356⟩, A280, H⟩ := H; replace H : (if t355 < 0 then (laws_FnExactLevelsTold.j1 kj7 l0 a1 t334 t335 t343 t344 true) else ((laws_eqIntS.f kj7 t343 t334).bind fun t357 => (if t357 = true then ((laws_eqIntS.f kj7 t344 t335).bind fun t358 => (laws_FnExactLevelsTold.j1 kj7 l0 a1 t334 t335 t343 t344 (!t358))) else (laws_FnExactLevelsTold.j1 kj7 l0 a1 t334 t335 t343 t344 true)))) = some r := H; have A28 := Aside0.mk A280; clear A280; have HC29 := Aside0.mk H; clear H; go_upto_region 12 with (first | ((with_reducible refine gate_callee (f := 10) rfl ?_); refine goesL_ (some 45) rfl rfl Try.func10 (by kernel_rfl) rfl #[.slice A0 l0.length c0] rfl (by (try simp only [List.map_toArray, List.map_cons, List.map_nil]); first | done | rfl) ?_; (with_reducible refine (laws_toIntS.calls kj7 _ _ l0 t351 _ ?side1 ?side2 A25.out).mono ?_); (case side1 => repeat (first | exact (Kd.C_below HR0.out HB.out) | (with_reducible refine Kd.C_alloc ?_ _) | (with_reducible refine Kd.C_drewN ?_ _) | (with_reducible refine Kd.C_drew ?_))); (case side2 => exact HC0.out); rintro e w30 ⟨v352, rfl, ho0, hb⟩; refine ⟨_, rfl, ?_⟩; have n0_ := Aside0.mk (Kd.R_elder' (by (with_reducible repeat (first | apply Kd.R_alloc | apply Kd.R_drewN | apply Kd.R_drew)); exact HO_5.out) (Kd.R_base ho0) hb); have n1_ := Aside0.mk (Kd.R_elder' (by (with_reducible repeat (first | apply Kd.R_alloc | apply Kd.R_drewN | apply Kd.R_drew)); exact HO_6.out) (Kd.R_base ho0) hb); have n2_ := Aside0.mk (Kd.R_elder' (by (with_reducible repeat (first | apply Kd.R_alloc | apply Kd.R_drewN | apply Kd.R_drew)); exact HO_7.out) (Kd.R_base ho0) hb); have n3_ := Aside0.mk (Kd.R_elder' (by (with_reducible repeat (first | apply Kd.R_alloc | apply Kd.R_drewN | apply Kd.R_drew)); exact HO_8.out) (Kd.R_base ho0) hb); have n4_ := Aside0.mk (Kd.R_elder' (by (with_reducible repeat (first | apply Kd.R_alloc | apply Kd.R_drewN | apply Kd.R_drew)); exact HO_9.out) (Kd.R_base ho0) hb); have n5_ := Aside0.mk (Kd.R_lower (Kd.R_new' (Kd.R_new' (Kd.R_new' (Kd.R_new' (Kd.R_new' ho0 (Kd.R_lt (by (with_reducible repeat (first | apply Kd.R_alloc | apply Kd.R_drewN | apply Kd.R_drew)); exact HO_5.out))) (Kd.R_lt (by (with_reducible repeat (first | apply Kd.R_alloc | apply Kd.R_drewN | apply Kd.R_drew)); exact HO_6.out))) (Kd.R_lt (by (with_reducible repeat (first | apply Kd.R_alloc | apply Kd.R_drewN | apply Kd.R_drew)); exact HO_7.out))) (Kd.R_lt (by (with_reducible repeat (first | apply Kd.R_alloc | apply Kd.R_drewN | apply Kd.R_drew)); exact HO_8.out))) (Kd.R_lt (by (with_reducible repeat (first | apply Kd.R_alloc | apply Kd.R_drewN | apply Kd.R_drew)); exact HO_9.out))) (below_size (by repeat (first | (with_reducible first | exact HB.out | apply below_alloc | apply pw_below_drewN | apply below_drew1) | exact HB.out)))); have n6_ := Aside0.mk (below_step (by repeat (first | (with_reducible first | exact HB.out | apply below_alloc | apply pw_below_drewN | apply below_drew1) | exact HB.out)) hb); clear HO_5; clear HO_6; clear HO_7; clear HO_8; clear HO_9; clear HB; have HO_5 := n0_; have HO_6 := n1_; have HO_7 := n2_; have HO_8 := n3_; have HO_9 := n4_; have HO353 := n5_; have HB := n6_; clear n0_ n1_ n2_ n3_ n4_ n5_ n6_; (try clear hb); (try clear hb2); (try clear hk); (try clear hi); (try clear ho0); obtain ⟨Ao31, co31, eo31⟩ := Kd.R_slice HO353.out; subst eo31) | ((with_reducible refine gate_callee (f := 12) rfl ?_); refine goesL_ (some 46) rfl rfl Try.func12 (by kernel_rfl) rfl #[.slice Ao13 t340.length co13, .slice Ao31 t351.length co31] rfl (by (try simp only [List.map_toArray, List.map_cons, List.map_nil]); first | done | rfl) ?_; (with_reducible refine (laws_eqIntS.calls kj7 _ _ t340 _ _ t351 true _ ?side1 ?side2 ?side3 ?side4 A26.out).mono ?_); (case side1 => repeat (first | exact (Kd.R_reads' HO_7.out).2.2 | (with_reducible refine Kd.C_alloc ?_ _) | (with_reducible refine Kd.C_drewN ?_ _) | (with_reducible refine Kd.C_drew ?_))); (case side2 => exact (Kd.R_reads' HO_7.out).2.1); (case side3 => repeat (first | exact (Kd.R_reads' HO353.out).2.2 | (with_reducible refine Kd.C_alloc ?_ _) | (with_reducible refine Kd.C_drewN ?_ _) | (with_reducible refine Kd.C_drew ?_))); (case side4 => exact (Kd.R_reads' HO353.out).2.1); rintro e w' ⟨rfl, ⟨nd, rfl⟩⟩; refine ⟨_, rfl, ?_⟩) | ((with_reducible refine gate_callee (f := 13) rfl ?_); refine goesL_ (some 50) rfl rfl Try.func13 (by kernel_rfl) rfl #[.slice Ao13 t340.length co13, .int .i64 1] rfl (by (try simp only [List.map_toArray, List.map_cons, List.map_nil]); first | done | rfl) ?_; (with_reducible refine (laws_markIntS.calls kj7 (fun k_ => some k_ = (.slice Ao13 t340.length co13 : Value).ownBlock) (.slice Ao13 t340.length co13) t340 1 t355 t356 w _ ?side1 ?side2 A28.out).mono ?_); (case side1 => repeat (first | (with_reducible first | exact HB.out | apply below_alloc | apply pw_below_drewN | apply below_drew1) | exact HB.out)); (case side2 => exact Kd.R_tight rfl HO_7.out); rintro e w32 ⟨rfl, hy0, hb, hkp⟩; refine ⟨_, rfl, ?_⟩; have n0_ := Aside0.mk (Kd.R_mono (ok' := fun k_ => some k_ ≠ (v338 : Value).ownBlock ∧ some k_ ≠ (.slice Ao13 t340.length co13 : Value).ownBlock ∧ some k_ ≠ (v345 : Value).ownBlock ∧ some k_ ≠ (v347 : Value).ownBlock ∧ some k_ ≠ (.slice Ao31 t351.length co31 : Value).ownBlock) (Kd.R_keptB (HO_5.out) hkp (fun k_ hk_ hs_ => (hk_.1.2.1) hs_)) (fun k_ hk_ => ⟨hk_.1.1.1, hk_.1.1.2.1, hk_.1.1.2.2.1, hk_.1.1.2.2.2, hk_.1.2⟩)); have n1_ := Aside0.mk (Kd.R_mono (ok' := fun k_ => some k_ ≠ (v336 : Value).ownBlock ∧ some k_ ≠ (.slice Ao13 t340.length co13 : Value).ownBlock ∧ some k_ ≠ (v345 : Value).ownBlock ∧ some k_ ≠ (v347 : Value).ownBlock ∧ some k_ ≠ (.slice Ao31 t351.length co31 : Value).ownBlock) (Kd.R_keptB (HO_6.out) hkp (fun k_ hk_ hs_ => (hk_.1.2.1) hs_)) (fun k_ hk_ => ⟨hk_.1.1.1, hk_.1.1.2.1, hk_.1.1.2.2.1, hk_.1.1.2.2.2, hk_.1.2⟩)); have n2_ := Aside0.mk (Kd.R_reok rfl hy0 (fun k_ e_ => HO_7.out.1 k_ e_)); have n3_ := Aside0.mk (Kd.R_mono (ok' := fun k_ => some k_ ≠ (v336 : Value).ownBlock ∧ some k_ ≠ (v338 : Value).ownBlock ∧ some k_ ≠ (.slice Ao13 t340.length co13 : Value).ownBlock ∧ some k_ ≠ (v347 : Value).ownBlock ∧ some k_ ≠ (.slice Ao31 t351.length co31 : Value).ownBlock) (Kd.R_keptB (HO_8.out) hkp (fun k_ hk_ hs_ => (hk_.1.2.2.1) hs_)) (fun k_ hk_ => ⟨hk_.1.1.1, hk_.1.1.2.1, hk_.1.1.2.2.1, hk_.1.1.2.2.2, hk_.1.2⟩)); have n4_ := Aside0.mk (Kd.R_mono (ok' := fun k_ => some k_ ≠ (v336 : Value).ownBlock ∧ some k_ ≠ (v338 : Value).ownBlock ∧ some k_ ≠ (.slice Ao13 t340.length co13 : Value).ownBlock ∧ some k_ ≠ (v345 : Value).ownBlock ∧ some k_ ≠ (.slice Ao31 t351.length co31 : Value).ownBlock) (Kd.R_keptB (HO_9.out) hkp (fun k_ hk_ hs_ => (hk_.1.2.2.1) hs_)) (fun k_ hk_ => ⟨hk_.1.1.1, hk_.1.1.2.1, hk_.1.1.2.2.1, hk_.1.1.2.2.2, hk_.1.2⟩)); have n5_ := Aside0.mk (Kd.R_mono (ok' := fun k_ => some k_ ≠ (v336 : Value).ownBlock ∧ some k_ ≠ (v338 : Value).ownBlock ∧ some k_ ≠ (.slice Ao13 t340.length co13 : Value).ownBlock ∧ some k_ ≠ (v345 : Value).ownBlock ∧ some k_ ≠ (v347 : Value).ownBlock) (Kd.R_keptB (HO353.out) hkp (fun k_ hk_ hs_ => (hk_.1.1.2) hs_)) (fun k_ hk_ => ⟨hk_.1.1.1.1.1.2, hk_.1.1.1.1.2, hk_.1.1.1.2, hk_.1.1.2, hk_.1.2⟩)); have n6_ := Aside0.mk (hb); clear HO_5; clear HO_6; clear HO_7; clear HO_8; clear HO_9; clear HO353; clear HB; have HO_5 := n0_; have HO_6 := n1_; have HO_7 := n2_; have HO_8 := n3_; have HO_9 := n4_; have HO353 := n5_; have HB := n6_; clear n0_ n1_ n2_ n3_ n4_ n5_ n6_; (try clear hb); (try clear hkp); (try clear hy0)))
      (try simp only [Act.put, List.setIfInBounds_toArray, List.set_cons_zero, List.set_cons_succ]); go_cut [64] (fun v64 wc => ∃ (kq : Nat) (x64_28 : Bool), v64 = .bool x64_28 ∧ Aside0 (laws_FnExactLevelsTold.j1 kq l0 a1 t334 t335 t343 t344 x64_28 = some r) ∧ Aside0 (kq ≤ kj7) ∧ Aside0 (Kd.R (Kd.int .i64) 3 wc w.heap.size (fun k_ => some k_ ≠ (v338 : Value).ownBlock ∧ some k_ ≠ (v345 : Value).ownBlock ∧ some k_ ≠ (v347 : Value).ownBlock) v336 t334) ∧ Aside0 (Kd.R (Kd.int .i64) 3 wc w.heap.size (fun k_ => some k_ ≠ (v336 : Value).ownBlock ∧ some k_ ≠ (v345 : Value).ownBlock ∧ some k_ ≠ (v347 : Value).ownBlock) v338 t335) ∧ Aside0 (Kd.R (Kd.int .i64) 3 wc w.heap.size (fun k_ => some k_ ≠ (v336 : Value).ownBlock ∧ some k_ ≠ (v338 : Value).ownBlock ∧ some k_ ≠ (v347 : Value).ownBlock) v345 t343) ∧ Aside0 (Kd.R (Kd.int .i64) 3 wc w.heap.size (fun k_ => some k_ ≠ (v336 : Value).ownBlock ∧ some k_ ≠ (v338 : Value).ownBlock ∧ some k_ ≠ (v345 : Value).ownBlock) v347 t344) ∧ Aside0 (Below w.heap.size w wc))
      case first =>
       have H := HC29.out; clear HC29; by_cases c33 : t355 < 0
       ·
        rw [if_pos c33] at H; have c33b0 : decide (t355 < 0) = true := decide_eq_true c33; clear c33; (first | rw [c33b0] | (simp only [i64_w, i32_w]; rw [c33b0]) | skip); have H' := Aside0.mk H; clear H; go_wp2; go_meet
        case rel => exact ⟨_, (true), (by first | rfl | (simp; done) | (simp [*]; done)), H', ⟨by have := HJ7.out; first | omega | exact Nat.le_refl _⟩, ⟨by (with_reducible repeat (first | apply Kd.R_alloc | apply Kd.R_drewN | apply Kd.R_drew)); exact Kd.R_mono HO_5.out (fun _ hk => ⟨hk.1, ⟨hk.2.2.1, hk.2.2.2.1⟩⟩)⟩, ⟨by (with_reducible repeat (first | apply Kd.R_alloc | apply Kd.R_drewN | apply Kd.R_drew)); exact Kd.R_mono HO_6.out (fun _ hk => ⟨hk.1, ⟨hk.2.2.1, hk.2.2.2.1⟩⟩)⟩, ⟨by (with_reducible repeat (first | apply Kd.R_alloc | apply Kd.R_drewN | apply Kd.R_drew)); exact Kd.R_mono HO_8.out (fun _ hk => ⟨hk.1, ⟨hk.2.1, hk.2.2.2.1⟩⟩)⟩, ⟨by (with_reducible repeat (first | apply Kd.R_alloc | apply Kd.R_drewN | apply Kd.R_drew)); exact Kd.R_mono HO_9.out (fun _ hk => ⟨hk.1, ⟨hk.2.1, hk.2.2.2.1⟩⟩)⟩, ⟨by repeat (first | (with_reducible first | exact HB.out | apply below_alloc | apply pw_below_drewN | apply below_drew1) | exact HB.out)⟩⟩
       ·
        rw [if_neg c33] at H; have c33b0 : decide (t355 < 0) = false := decide_eq_false c33; clear c33; (first | rw [c33b0] | (simp only [i64_w, i32_w]; rw [c33b0]) | skip); replace H := Option.bind_eq_some_iff.mp H; obtain ⟨t357, A340, H⟩ := H; replace H : (if t357 = true then ((laws_eqIntS.f kj7 t344 t335).bind fun t358 => (laws_FnExactLevelsTold.j1 kj7 l0 a1 t334 t335 t343 t344 (!t358))) else (laws_FnExactLevelsTold.j1 kj7 l0 a1 t334 t335 t343 t344 true)) = some r := H; have A34 := Aside0.mk A340; clear A340; by_cases c35 : t357 = true
        ·
         subst c35; have H1 : ((laws_eqIntS.f kj7 t344 t335).bind fun t358 => (laws_FnExactLevelsTold.j1 kj7 l0 a1 t334 t335 t343 t344 (!t358))) = some r := by rw [if_pos rfl] at H; exact H
         clear H; have H := H1; clear H1; replace H := Option.bind_eq_some_iff.mp H; obtain ⟨t358, A360, H⟩ := H; replace H : (laws_FnExactLevelsTold.j1 kj7 l0 a1 t334 t335 t343 t344 (!t358)) = some r := H; have A36 := Aside0.mk A360; clear A360; have H' := Aside0.mk H; clear H; obtain ⟨Ao37, co37, eo37⟩ := Kd.R_slice HO_8.out; subst eo37; obtain ⟨Ao38, co38, eo38⟩ := Kd.R_slice HO_5.out; subst eo38; go_wp2_with (first | (go_at_call 12; (with_reducible refine (laws_eqIntS.calls kj7 _ _ t343 _ _ t334 true _ ?side1 ?side2 ?side3 ?side4 A34.out).mono ?_); (case side1 => repeat (first | exact (Kd.R_reads' HO_8.out).2.2 | (with_reducible refine Kd.C_alloc ?_ _) | (with_reducible refine Kd.C_drewN ?_ _) | (with_reducible refine Kd.C_drew ?_))); (case side2 => exact (Kd.R_reads' HO_8.out).2.1); (case side3 => repeat (first | exact (Kd.R_reads' HO_5.out).2.2 | (with_reducible refine Kd.C_alloc ?_ _) | (with_reducible refine Kd.C_drewN ?_ _) | (with_reducible refine Kd.C_drew ?_))); (case side4 => exact (Kd.R_reads' HO_5.out).2.1); rintro e w' ⟨rfl, ⟨nd, rfl⟩⟩; obtain ⟨Ao39, co39, eo39⟩ := Kd.R_slice HO_9.out; subst eo39; obtain ⟨Ao40, co40, eo40⟩ := Kd.R_slice HO_6.out; subst eo40) | (go_at_call 12; (with_reducible refine (laws_eqIntS.calls kj7 _ _ t344 _ _ t335 t358 _ ?side1 ?side2 ?side3 ?side4 A36.out).mono ?_); (case side1 => repeat (first | exact (Kd.R_reads' HO_9.out).2.2 | (with_reducible refine Kd.C_alloc ?_ _) | (with_reducible refine Kd.C_drewN ?_ _) | (with_reducible refine Kd.C_drew ?_))); (case side2 => exact (Kd.R_reads' HO_9.out).2.1); (case side3 => repeat (first | exact (Kd.R_reads' HO_6.out).2.2 | (with_reducible refine Kd.C_alloc ?_ _) | (with_reducible refine Kd.C_drewN ?_ _) | (with_reducible refine Kd.C_drew ?_))); (case side4 => exact (Kd.R_reads' HO_6.out).2.1); rintro e w' ⟨rfl, ⟨nd, rfl⟩⟩)); go_meet
         case rel => exact ⟨_, (!t358), (by first | rfl | (simp; done) | (simp [*]; done)), H', ⟨by have := HJ7.out; first | omega | exact Nat.le_refl _⟩, ⟨by (with_reducible repeat (first | apply Kd.R_alloc | apply Kd.R_drewN | apply Kd.R_drew)); exact Kd.R_mono HO_5.out (fun _ hk => ⟨hk.1, ⟨hk.2.2.1, hk.2.2.2.1⟩⟩)⟩, ⟨by (with_reducible repeat (first | apply Kd.R_alloc | apply Kd.R_drewN | apply Kd.R_drew)); exact Kd.R_mono HO_6.out (fun _ hk => ⟨hk.1, ⟨hk.2.2.1, hk.2.2.2.1⟩⟩)⟩, ⟨by (with_reducible repeat (first | apply Kd.R_alloc | apply Kd.R_drewN | apply Kd.R_drew)); exact Kd.R_mono HO_8.out (fun _ hk => ⟨hk.1, ⟨hk.2.1, hk.2.2.2.1⟩⟩)⟩, ⟨by (with_reducible repeat (first | apply Kd.R_alloc | apply Kd.R_drewN | apply Kd.R_drew)); exact Kd.R_mono HO_9.out (fun _ hk => ⟨hk.1, ⟨hk.2.1, hk.2.2.2.1⟩⟩)⟩, ⟨by repeat (first | (with_reducible first | exact HB.out | apply below_alloc | apply pw_below_drewN | apply below_drew1) | exact HB.out)⟩⟩
        ·
         replace c35 := Bool.eq_false_iff.mpr c35; subst c35; have H1 : (laws_FnExactLevelsTold.j1 kj7 l0 a1 t334 t335 t343 t344 true) = some r := by rw [if_neg (show ¬ (false = true) by decide)] at H; exact H
         clear H; have H := H1; clear H1; have H' := Aside0.mk H; clear H; obtain ⟨Ao41, co41, eo41⟩ := Kd.R_slice HO_8.out; subst eo41; obtain ⟨Ao42, co42, eo42⟩ := Kd.R_slice HO_5.out; subst eo42; go_wp2_with (first | (go_at_call 12; (with_reducible refine (laws_eqIntS.calls kj7 _ _ t343 _ _ t334 false _ ?side1 ?side2 ?side3 ?side4 A34.out).mono ?_); (case side1 => repeat (first | exact (Kd.R_reads' HO_8.out).2.2 | (with_reducible refine Kd.C_alloc ?_ _) | (with_reducible refine Kd.C_drewN ?_ _) | (with_reducible refine Kd.C_drew ?_))); (case side2 => exact (Kd.R_reads' HO_8.out).2.1); (case side3 => repeat (first | exact (Kd.R_reads' HO_5.out).2.2 | (with_reducible refine Kd.C_alloc ?_ _) | (with_reducible refine Kd.C_drewN ?_ _) | (with_reducible refine Kd.C_drew ?_))); (case side4 => exact (Kd.R_reads' HO_5.out).2.1); rintro e w' ⟨rfl, ⟨nd, rfl⟩⟩)); go_meet
         case rel => exact ⟨_, (true), (by first | rfl | (simp; done) | (simp [*]; done)), H', ⟨by have := HJ7.out; first | omega | exact Nat.le_refl _⟩, ⟨by (with_reducible repeat (first | apply Kd.R_alloc | apply Kd.R_drewN | apply Kd.R_drew)); exact Kd.R_mono HO_5.out (fun _ hk => ⟨hk.1, ⟨hk.2.2.1, hk.2.2.2.1⟩⟩)⟩, ⟨by (with_reducible repeat (first | apply Kd.R_alloc | apply Kd.R_drewN | apply Kd.R_drew)); exact Kd.R_mono HO_6.out (fun _ hk => ⟨hk.1, ⟨hk.2.2.1, hk.2.2.2.1⟩⟩)⟩, ⟨by (with_reducible repeat (first | apply Kd.R_alloc | apply Kd.R_drewN | apply Kd.R_drew)); exact Kd.R_mono HO_8.out (fun _ hk => ⟨hk.1, ⟨hk.2.1, hk.2.2.2.1⟩⟩)⟩, ⟨by (with_reducible repeat (first | apply Kd.R_alloc | apply Kd.R_drewN | apply Kd.R_drew)); exact Kd.R_mono HO_9.out (fun _ hk => ⟨hk.1, ⟨hk.2.1, hk.2.2.2.1⟩⟩)⟩, ⟨by repeat (first | (with_reducible first | exact HB.out | apply below_alloc | apply pw_below_drewN | apply below_drew1) | exact HB.out)⟩⟩
      case rest =>
       clear HC29; (try clear c1); (try clear c2); (try clear p2); (try clear c3); (try clear c3b0); (try clear c3b1); (try clear c5); (try clear c10); (try clear c12); (try clear c13); (try clear c16); (try clear c17); (try clear c18); (try clear c24); (try clear c27); (try clear c33); (try clear c33b0); (try clear c35); (try clear p2); obtain ⟨kq, x64_28, rfl, HA, HJ28, HO_5, HO_6, HO_8, HO_9, HB⟩ := hcut
       cases kq with
       | zero => exact absurd HA.out (by simp [laws_FnExactLevelsTold.j1])
       | succ kj28 =>
        have H := HA.out; clear HA; simp only [laws_FnExactLevelsTold.j1] at H; by_cases c43 : x64_28 = true
        ·
         subst c43; have H1 : (some false) = some r := by rw [if_pos rfl] at H; exact H
         clear H; have H := H1; clear H1; obtain rfl := Option.some.inj H; go_wp2; go_ret; exact ⟨by first | rfl | (simp [errW_none, errW_some] <;> rfl) | (simp [*, errW_none, errW_some] <;> rfl), by repeat (first | (with_reducible first | exact HB.out | apply below_alloc | apply pw_below_drewN | apply below_drew1) | exact HB.out)⟩
        ·
         replace c43 := Bool.eq_false_iff.mpr c43; subst c43; have H1 : ((laws_markIntS.f kj28 t343 1).bind fun bt359 => ((laws_markIntS.f kj28 t344 bt359.1).bind fun bt361 => ((laws_heldIntS.f kj28 bt359.2 1).bind fun t363 => (if t363 < 0 then (some false) else ((laws_heldIntS.f kj28 bt361.2 t363).bind fun t364 => (if t364 < 0 then (some false) else (if t364 = bt361.1 then ((laws_toIntS.f kj28 l0).bind fun t365 => ((impl_LevelsTold.f t365 a1).bind fun bt368 => ((laws_eqIntS.f kj28 bt368.1 t334).bind fun t374 => (if t374 = true then ((laws_eqIntS.f kj28 bt368.2 t335).bind fun t375 => (laws_FnExactLevelsTold.j2 kj28 bt359.2 bt361.2 bt361.1 (!t375))) else (laws_FnExactLevelsTold.j2 kj28 bt359.2 bt361.2 bt361.1 true))))) else (some false)))))))) = some r := by rw [if_neg (show ¬ (false = true) by decide)] at H; exact H
         clear H; have H := H1; clear H1; replace H := Option.bind_eq_some_iff.mp H; obtain ⟨⟨t359, t360⟩, A440, H⟩ := H; replace H : ((laws_markIntS.f kj28 t344 t359).bind fun bt361 => ((laws_heldIntS.f kj28 t360 1).bind fun t363 => (if t363 < 0 then (some false) else ((laws_heldIntS.f kj28 bt361.2 t363).bind fun t364 => (if t364 < 0 then (some false) else (if t364 = bt361.1 then ((laws_toIntS.f kj28 l0).bind fun t365 => ((impl_LevelsTold.f t365 a1).bind fun bt368 => ((laws_eqIntS.f kj28 bt368.1 t334).bind fun t374 => (if t374 = true then ((laws_eqIntS.f kj28 bt368.2 t335).bind fun t375 => (laws_FnExactLevelsTold.j2 kj28 t360 bt361.2 bt361.1 (!t375))) else (laws_FnExactLevelsTold.j2 kj28 t360 bt361.2 bt361.1 true))))) else (some false))))))) = some r := H; have A44 := Aside0.mk A440; clear A440; replace H := Option.bind_eq_some_iff.mp H; obtain ⟨⟨t361, t362⟩, A450, H⟩ := H; replace H : ((laws_heldIntS.f kj28 t360 1).bind fun t363 => (if t363 < 0 then (some false) else ((laws_heldIntS.f kj28 t362 t363).bind fun t364 => (if t364 < 0 then (some false) else (if t364 = t361 then ((laws_toIntS.f kj28 l0).bind fun t365 => ((impl_LevelsTold.f t365 a1).bind fun bt368 => ((laws_eqIntS.f kj28 bt368.1 t334).bind fun t374 => (if t374 = true then ((laws_eqIntS.f kj28 bt368.2 t335).bind fun t375 => (laws_FnExactLevelsTold.j2 kj28 t360 t362 t361 (!t375))) else (laws_FnExactLevelsTold.j2 kj28 t360 t362 t361 true))))) else (some false)))))) = some r := H; have A45 := Aside0.mk A450; clear A450; replace H := Option.bind_eq_some_iff.mp H; obtain ⟨t363, A460, H⟩ := H; replace H : (if t363 < 0 then (some false) else ((laws_heldIntS.f kj28 t362 t363).bind fun t364 => (if t364 < 0 then (some false) else (if t364 = t361 then ((laws_toIntS.f kj28 l0).bind fun t365 => ((impl_LevelsTold.f t365 a1).bind fun bt368 => ((laws_eqIntS.f kj28 bt368.1 t334).bind fun t374 => (if t374 = true then ((laws_eqIntS.f kj28 bt368.2 t335).bind fun t375 => (laws_FnExactLevelsTold.j2 kj28 t360 t362 t361 (!t375))) else (laws_FnExactLevelsTold.j2 kj28 t360 t362 t361 true))))) else (some false))))) = some r := H; have A46 := Aside0.mk A460; clear A460; by_cases c47 : t363 < 0
         ·
          rw [if_pos c47] at H; have c47b0 : decide (t363 < 0) = true := decide_eq_true c47; clear c47; obtain rfl := Option.some.inj H; obtain ⟨Ao48, co48, eo48⟩ := Kd.R_slice HO_8.out; subst eo48; go_wp2_with (first | ((with_reducible refine gate_callee (f := 13) rfl ?_); refine goesL_ (some 67) rfl rfl Try.func13 (by kernel_rfl) rfl #[.slice Ao48 t343.length co48, .int .i64 1] rfl (by (try simp only [List.map_toArray, List.map_cons, List.map_nil]); first | done | rfl) ?_; (with_reducible refine (laws_markIntS.calls kj28 (fun k_ => some k_ = (.slice Ao48 t343.length co48 : Value).ownBlock) (.slice Ao48 t343.length co48) t343 1 t359 t360 w _ ?side1 ?side2 A44.out).mono ?_); (case side1 => repeat (first | (with_reducible first | exact HB.out | apply below_alloc | apply pw_below_drewN | apply below_drew1) | exact HB.out)); (case side2 => exact Kd.R_tight rfl HO_8.out); rintro e w49 ⟨rfl, hy0, hb, hkp⟩; refine ⟨_, rfl, ?_⟩; have n0_ := Aside0.mk (Kd.R_mono (ok' := fun k_ => some k_ ≠ (v338 : Value).ownBlock ∧ some k_ ≠ (.slice Ao48 t343.length co48 : Value).ownBlock ∧ some k_ ≠ (v347 : Value).ownBlock) (Kd.R_keptB (HO_5.out) hkp (fun k_ hk_ hs_ => (hk_.2.1) hs_)) (fun k_ hk_ => ⟨hk_.1.1, hk_.1.2.1, hk_.1.2.2⟩)); have n1_ := Aside0.mk (Kd.R_mono (ok' := fun k_ => some k_ ≠ (v336 : Value).ownBlock ∧ some k_ ≠ (.slice Ao48 t343.length co48 : Value).ownBlock ∧ some k_ ≠ (v347 : Value).ownBlock) (Kd.R_keptB (HO_6.out) hkp (fun k_ hk_ hs_ => (hk_.2.1) hs_)) (fun k_ hk_ => ⟨hk_.1.1, hk_.1.2.1, hk_.1.2.2⟩)); have n2_ := Aside0.mk (Kd.R_reok rfl hy0 (fun k_ e_ => HO_8.out.1 k_ e_)); have n3_ := Aside0.mk (Kd.R_mono (ok' := fun k_ => some k_ ≠ (v336 : Value).ownBlock ∧ some k_ ≠ (v338 : Value).ownBlock ∧ some k_ ≠ (.slice Ao48 t343.length co48 : Value).ownBlock) (Kd.R_keptB (HO_9.out) hkp (fun k_ hk_ hs_ => (hk_.2.2) hs_)) (fun k_ hk_ => ⟨hk_.1.1, hk_.1.2.1, hk_.1.2.2⟩)); have n4_ := Aside0.mk (hb); clear HO_5; clear HO_6; clear HO_8; clear HO_9; clear HB; have HO_5 := n0_; have HO_6 := n1_; have HO_8 := n2_; have HO_9 := n3_; have HB := n4_; clear n0_ n1_ n2_ n3_ n4_; (try clear hb); (try clear hkp); (try clear hy0); obtain ⟨Ao50, co50, eo50⟩ := Kd.R_slice HO_9.out; subst eo50) | ((with_reducible refine gate_callee (f := 13) rfl ?_); refine goesL_ (some 70) rfl rfl Try.func13 (by kernel_rfl) rfl #[.slice Ao50 t344.length co50, .int .i64 t359] rfl (by (try simp only [List.map_toArray, List.map_cons, List.map_nil]); first | done | rfl) ?_; (with_reducible refine (laws_markIntS.calls kj28 (fun k_ => some k_ = (.slice Ao50 t344.length co50 : Value).ownBlock) (.slice Ao50 t344.length co50) t344 t359 t361 t362 w _ ?side1 ?side2 A45.out).mono ?_); (case side1 => repeat (first | (with_reducible first | exact HB.out | apply below_alloc | apply pw_below_drewN | apply below_drew1) | exact HB.out)); (case side2 => exact Kd.R_tight rfl HO_9.out); rintro e w51 ⟨rfl, hy0, hb, hkp⟩; refine ⟨_, rfl, ?_⟩; have n0_ := Aside0.mk (Kd.R_mono (ok' := fun k_ => some k_ ≠ (v338 : Value).ownBlock ∧ some k_ ≠ (.slice Ao48 t343.length co48 : Value).ownBlock ∧ some k_ ≠ (.slice Ao50 t344.length co50 : Value).ownBlock) (Kd.R_keptB (HO_5.out) hkp (fun k_ hk_ hs_ => (hk_.2.2) hs_)) (fun k_ hk_ => ⟨hk_.1.1, hk_.1.2.1, hk_.1.2.2⟩)); have n1_ := Aside0.mk (Kd.R_mono (ok' := fun k_ => some k_ ≠ (v336 : Value).ownBlock ∧ some k_ ≠ (.slice Ao48 t343.length co48 : Value).ownBlock ∧ some k_ ≠ (.slice Ao50 t344.length co50 : Value).ownBlock) (Kd.R_keptB (HO_6.out) hkp (fun k_ hk_ hs_ => (hk_.2.2) hs_)) (fun k_ hk_ => ⟨hk_.1.1, hk_.1.2.1, hk_.1.2.2⟩)); have n2_ := Aside0.mk (Kd.R_mono (ok' := fun k_ => some k_ ≠ (v336 : Value).ownBlock ∧ some k_ ≠ (v338 : Value).ownBlock ∧ some k_ ≠ (.slice Ao50 t344.length co50 : Value).ownBlock) (Kd.R_keptB (HO_8.out) hkp (fun k_ hk_ hs_ => (hk_.2.2) hs_)) (fun k_ hk_ => ⟨hk_.1.1, hk_.1.2.1, hk_.1.2.2⟩)); have n3_ := Aside0.mk (Kd.R_reok rfl hy0 (fun k_ e_ => HO_9.out.1 k_ e_)); have n4_ := Aside0.mk (hb); clear HO_5; clear HO_6; clear HO_8; clear HO_9; clear HB; have HO_5 := n0_; have HO_6 := n1_; have HO_8 := n2_; have HO_9 := n3_; have HB := n4_; clear n0_ n1_ n2_ n3_ n4_; (try clear hb); (try clear hkp); (try clear hy0)) | ((with_reducible refine gate_callee (f := 14) rfl ?_); refine goesL_ (some 73) rfl rfl Try.func14 (by kernel_rfl) rfl #[.slice Ao48 t360.length co48, .int .i64 1] rfl (by (try simp only [List.map_toArray, List.map_cons, List.map_nil]); first | done | (rw [show t360.length = t343.length from (Kd.R_reads' HO_8.out).1.symm] <;> rfl) | rfl | (simp only [List.length_drop, List.length_take]; rfl)) ?_; (with_reducible refine (laws_heldIntS.calls kj28 _ _ t360 1 t363 _ ?side1 ?side2 A46.out).mono ?_); (case side1 => repeat (first | exact (Kd.R_reads' HO_8.out).2.2 | (with_reducible refine Kd.C_alloc ?_ _) | (with_reducible refine Kd.C_drewN ?_ _) | (with_reducible refine Kd.C_drew ?_))); (case side2 => rw [show t360.length = t343.length from (Kd.R_reads' HO_8.out).1.symm]; exact (Kd.R_reads' HO_8.out).2.1); rintro e w' ⟨rfl, ⟨nd, rfl⟩⟩; refine ⟨_, rfl, ?_⟩))
          go_ret; exact ⟨by first | rfl | (simp [errW_none, errW_some] <;> rfl) | (simp [*, errW_none, errW_some] <;> rfl), by repeat (first | (with_reducible first | exact HB.out | apply below_alloc | apply pw_below_drewN | apply below_drew1) | exact HB.out)⟩
         ·
          rw [if_neg c47] at H; have c47b0 : decide (t363 < 0) = false := decide_eq_false c47; clear c47; replace H := Option.bind_eq_some_iff.mp H; obtain ⟨t364, A520, H⟩ := H; replace H : (if t364 < 0 then (some false) else (if t364 = t361 then ((laws_toIntS.f kj28 l0).bind fun t365 => ((impl_LevelsTold.f t365 a1).bind fun bt368 => ((laws_eqIntS.f kj28 bt368.1 t334).bind fun t374 => (if t374 = true then ((laws_eqIntS.f kj28 bt368.2 t335).bind fun t375 => (laws_FnExactLevelsTold.j2 kj28 t360 t362 t361 (!t375))) else (laws_FnExactLevelsTold.j2 kj28 t360 t362 t361 true))))) else (some false))) = some r := H; have A52 := Aside0.mk A520; clear A520; by_cases c53 : t364 < 0
          ·
           rw [if_pos c53] at H; have c53b0 : decide (t364 < 0) = true := decide_eq_true c53; clear c53; obtain rfl := Option.some.inj H; obtain ⟨Ao54, co54, eo54⟩ := Kd.R_slice HO_8.out; subst eo54; go_wp2_with (first | ((with_reducible refine gate_callee (f := 13) rfl ?_); refine goesL_ (some 67) rfl rfl Try.func13 (by kernel_rfl) rfl #[.slice Ao54 t343.length co54, .int .i64 1] rfl (by (try simp only [List.map_toArray, List.map_cons, List.map_nil]); first | done | rfl) ?_; (with_reducible refine (laws_markIntS.calls kj28 (fun k_ => some k_ = (.slice Ao54 t343.length co54 : Value).ownBlock) (.slice Ao54 t343.length co54) t343 1 t359 t360 w _ ?side1 ?side2 A44.out).mono ?_); (case side1 => repeat (first | (with_reducible first | exact HB.out | apply below_alloc | apply pw_below_drewN | apply below_drew1) | exact HB.out)); (case side2 => exact Kd.R_tight rfl HO_8.out); rintro e w55 ⟨rfl, hy0, hb, hkp⟩; refine ⟨_, rfl, ?_⟩; have n0_ := Aside0.mk (Kd.R_mono (ok' := fun k_ => some k_ ≠ (v338 : Value).ownBlock ∧ some k_ ≠ (.slice Ao54 t343.length co54 : Value).ownBlock ∧ some k_ ≠ (v347 : Value).ownBlock) (Kd.R_keptB (HO_5.out) hkp (fun k_ hk_ hs_ => (hk_.2.1) hs_)) (fun k_ hk_ => ⟨hk_.1.1, hk_.1.2.1, hk_.1.2.2⟩)); have n1_ := Aside0.mk (Kd.R_mono (ok' := fun k_ => some k_ ≠ (v336 : Value).ownBlock ∧ some k_ ≠ (.slice Ao54 t343.length co54 : Value).ownBlock ∧ some k_ ≠ (v347 : Value).ownBlock) (Kd.R_keptB (HO_6.out) hkp (fun k_ hk_ hs_ => (hk_.2.1) hs_)) (fun k_ hk_ => ⟨hk_.1.1, hk_.1.2.1, hk_.1.2.2⟩)); have n2_ := Aside0.mk (Kd.R_reok rfl hy0 (fun k_ e_ => HO_8.out.1 k_ e_)); have n3_ := Aside0.mk (Kd.R_mono (ok' := fun k_ => some k_ ≠ (v336 : Value).ownBlock ∧ some k_ ≠ (v338 : Value).ownBlock ∧ some k_ ≠ (.slice Ao54 t343.length co54 : Value).ownBlock) (Kd.R_keptB (HO_9.out) hkp (fun k_ hk_ hs_ => (hk_.2.2) hs_)) (fun k_ hk_ => ⟨hk_.1.1, hk_.1.2.1, hk_.1.2.2⟩)); have n4_ := Aside0.mk (hb); clear HO_5; clear HO_6; clear HO_8; clear HO_9; clear HB; have HO_5 := n0_; have HO_6 := n1_; have HO_8 := n2_; have HO_9 := n3_; have HB := n4_; clear n0_ n1_ n2_ n3_ n4_; (try clear hb); (try clear hkp); (try clear hy0); obtain ⟨Ao56, co56, eo56⟩ := Kd.R_slice HO_9.out; subst eo56) | ((with_reducible refine gate_callee (f := 13) rfl ?_); refine goesL_ (some 70) rfl rfl Try.func13 (by kernel_rfl) rfl #[.slice Ao56 t344.length co56, .int .i64 t359] rfl (by (try simp only [List.map_toArray, List.map_cons, List.map_nil]); first | done | rfl) ?_; (with_reducible refine (laws_markIntS.calls kj28 (fun k_ => some k_ = (.slice Ao56 t344.length co56 : Value).ownBlock) (.slice Ao56 t344.length co56) t344 t359 t361 t362 w _ ?side1 ?side2 A45.out).mono ?_); (case side1 => repeat (first | (with_reducible first | exact HB.out | apply below_alloc | apply pw_below_drewN | apply below_drew1) | exact HB.out)); (case side2 => exact Kd.R_tight rfl HO_9.out); rintro e w57 ⟨rfl, hy0, hb, hkp⟩; refine ⟨_, rfl, ?_⟩; have n0_ := Aside0.mk (Kd.R_mono (ok' := fun k_ => some k_ ≠ (v338 : Value).ownBlock ∧ some k_ ≠ (.slice Ao54 t343.length co54 : Value).ownBlock ∧ some k_ ≠ (.slice Ao56 t344.length co56 : Value).ownBlock) (Kd.R_keptB (HO_5.out) hkp (fun k_ hk_ hs_ => (hk_.2.2) hs_)) (fun k_ hk_ => ⟨hk_.1.1, hk_.1.2.1, hk_.1.2.2⟩)); have n1_ := Aside0.mk (Kd.R_mono (ok' := fun k_ => some k_ ≠ (v336 : Value).ownBlock ∧ some k_ ≠ (.slice Ao54 t343.length co54 : Value).ownBlock ∧ some k_ ≠ (.slice Ao56 t344.length co56 : Value).ownBlock) (Kd.R_keptB (HO_6.out) hkp (fun k_ hk_ hs_ => (hk_.2.2) hs_)) (fun k_ hk_ => ⟨hk_.1.1, hk_.1.2.1, hk_.1.2.2⟩)); have n2_ := Aside0.mk (Kd.R_mono (ok' := fun k_ => some k_ ≠ (v336 : Value).ownBlock ∧ some k_ ≠ (v338 : Value).ownBlock ∧ some k_ ≠ (.slice Ao56 t344.length co56 : Value).ownBlock) (Kd.R_keptB (HO_8.out) hkp (fun k_ hk_ hs_ => (hk_.2.2) hs_)) (fun k_ hk_ => ⟨hk_.1.1, hk_.1.2.1, hk_.1.2.2⟩)); have n3_ := Aside0.mk (Kd.R_reok rfl hy0 (fun k_ e_ => HO_9.out.1 k_ e_)); have n4_ := Aside0.mk (hb); clear HO_5; clear HO_6; clear HO_8; clear HO_9; clear HB; have HO_5 := n0_; have HO_6 := n1_; have HO_8 := n2_; have HO_9 := n3_; have HB := n4_; clear n0_ n1_ n2_ n3_ n4_; (try clear hb); (try clear hkp); (try clear hy0)) | ((with_reducible refine gate_callee (f := 14) rfl ?_); refine goesL_ (some 73) rfl rfl Try.func14 (by kernel_rfl) rfl #[.slice Ao54 t360.length co54, .int .i64 1] rfl (by (try simp only [List.map_toArray, List.map_cons, List.map_nil]); first | done | (rw [show t360.length = t343.length from (Kd.R_reads' HO_8.out).1.symm] <;> rfl) | rfl | (simp only [List.length_drop, List.length_take]; rfl)) ?_; (with_reducible refine (laws_heldIntS.calls kj28 _ _ t360 1 t363 _ ?side1 ?side2 A46.out).mono ?_); (case side1 => repeat (first | exact (Kd.R_reads' HO_8.out).2.2 | (with_reducible refine Kd.C_alloc ?_ _) | (with_reducible refine Kd.C_drewN ?_ _) | (with_reducible refine Kd.C_drew ?_))); (case side2 => rw [show t360.length = t343.length from (Kd.R_reads' HO_8.out).1.symm]; exact (Kd.R_reads' HO_8.out).2.1); rintro e w' ⟨rfl, ⟨nd, rfl⟩⟩; refine ⟨_, rfl, ?_⟩) | ((with_reducible refine gate_callee (f := 14) rfl ?_); refine goesL_ (some 78) rfl rfl Try.func14 (by kernel_rfl) rfl #[.slice Ao56 t362.length co56, .int .i64 t363] rfl (by (try simp only [List.map_toArray, List.map_cons, List.map_nil]); first | done | (rw [show t362.length = t344.length from (Kd.R_reads' HO_9.out).1.symm] <;> rfl) | rfl | (simp only [List.length_drop, List.length_take]; rfl)) ?_; (with_reducible refine (laws_heldIntS.calls kj28 _ _ t362 t363 t364 _ ?side1 ?side2 A52.out).mono ?_); (case side1 => repeat (first | exact (Kd.R_reads' HO_9.out).2.2 | (with_reducible refine Kd.C_alloc ?_ _) | (with_reducible refine Kd.C_drewN ?_ _) | (with_reducible refine Kd.C_drew ?_))); (case side2 => rw [show t362.length = t344.length from (Kd.R_reads' HO_9.out).1.symm]; exact (Kd.R_reads' HO_9.out).2.1); rintro e w' ⟨rfl, ⟨nd, rfl⟩⟩; refine ⟨_, rfl, ?_⟩))
           go_ret; exact ⟨by first | rfl | (simp [errW_none, errW_some] <;> rfl) | (simp [*, errW_none, errW_some] <;> rfl), by repeat (first | (with_reducible first | exact HB.out | apply below_alloc | apply pw_below_drewN | apply below_drew1) | exact HB.out)⟩
          ·
           rw [if_neg c53] at H; have c53b0 : decide (t364 < 0) = false := decide_eq_false c53; clear c53; by_cases c58 : t364 = t361
           ·
            rw [if_pos c58] at H; have c58b0 : (t364 == t361) = true := beq_iff_eq.mpr c58; have c58b1 : (t364 != t361) = false := bne_eq_false_iff_eq.mpr c58; clear c58; replace H := Option.bind_eq_some_iff.mp H; obtain ⟨t365, A590, H⟩ := H; replace H : ((impl_LevelsTold.f t365 a1).bind fun bt368 => ((laws_eqIntS.f kj28 bt368.1 t334).bind fun t374 => (if t374 = true then ((laws_eqIntS.f kj28 bt368.2 t335).bind fun t375 => (laws_FnExactLevelsTold.j2 kj28 t360 t362 t361 (!t375))) else (laws_FnExactLevelsTold.j2 kj28 t360 t362 t361 true)))) = some r := H; have A59 := Aside0.mk A590; clear A590; replace H := Option.bind_eq_some_iff.mp H; obtain ⟨⟨t368, t369⟩, A600, H⟩ := H; replace H : ((laws_eqIntS.f kj28 t368 t334).bind fun t374 => (if t374 = true then ((laws_eqIntS.f kj28 t369 t335).bind fun t375 => (laws_FnExactLevelsTold.j2 kj28 t360 t362 t361 (!t375))) else (laws_FnExactLevelsTold.j2 kj28 t360 t362 t361 true))) = some r := H; have A60 := Aside0.mk A600; clear A600; have HC61 := Aside0.mk H; clear H; obtain ⟨Ao62, co62, eo62⟩ := Kd.R_slice HO_8.out; subst eo62; go_upto_region 27 with (first | ((with_reducible refine gate_callee (f := 13) rfl ?_); refine goesL_ (some 67) rfl rfl Try.func13 (by kernel_rfl) rfl #[.slice Ao62 t343.length co62, .int .i64 1] rfl (by (try simp only [List.map_toArray, List.map_cons, List.map_nil]); first | done | rfl) ?_; (with_reducible refine (laws_markIntS.calls kj28 (fun k_ => some k_ = (.slice Ao62 t343.length co62 : Value).ownBlock) (.slice Ao62 t343.length co62) t343 1 t359 t360 w _ ?side1 ?side2 A44.out).mono ?_); (case side1 => repeat (first | (with_reducible first | exact HB.out | apply below_alloc | apply pw_below_drewN | apply below_drew1) | exact HB.out)); (case side2 => exact Kd.R_tight rfl HO_8.out); rintro e w63 ⟨rfl, hy0, hb, hkp⟩; refine ⟨_, rfl, ?_⟩; have n0_ := Aside0.mk (Kd.R_mono (ok' := fun k_ => some k_ ≠ (v338 : Value).ownBlock ∧ some k_ ≠ (.slice Ao62 t343.length co62 : Value).ownBlock ∧ some k_ ≠ (v347 : Value).ownBlock) (Kd.R_keptB (HO_5.out) hkp (fun k_ hk_ hs_ => (hk_.2.1) hs_)) (fun k_ hk_ => ⟨hk_.1.1, hk_.1.2.1, hk_.1.2.2⟩)); have n1_ := Aside0.mk (Kd.R_mono (ok' := fun k_ => some k_ ≠ (v336 : Value).ownBlock ∧ some k_ ≠ (.slice Ao62 t343.length co62 : Value).ownBlock ∧ some k_ ≠ (v347 : Value).ownBlock) (Kd.R_keptB (HO_6.out) hkp (fun k_ hk_ hs_ => (hk_.2.1) hs_)) (fun k_ hk_ => ⟨hk_.1.1, hk_.1.2.1, hk_.1.2.2⟩)); have n2_ := Aside0.mk (Kd.R_reok rfl hy0 (fun k_ e_ => HO_8.out.1 k_ e_)); have n3_ := Aside0.mk (Kd.R_mono (ok' := fun k_ => some k_ ≠ (v336 : Value).ownBlock ∧ some k_ ≠ (v338 : Value).ownBlock ∧ some k_ ≠ (.slice Ao62 t343.length co62 : Value).ownBlock) (Kd.R_keptB (HO_9.out) hkp (fun k_ hk_ hs_ => (hk_.2.2) hs_)) (fun k_ hk_ => ⟨hk_.1.1, hk_.1.2.1, hk_.1.2.2⟩)); have n4_ := Aside0.mk (hb); clear HO_5; clear HO_6; clear HO_8; clear HO_9; clear HB; have HO_5 := n0_; have HO_6 := n1_; have HO_8 := n2_; have HO_9 := n3_; have HB := n4_; clear n0_ n1_ n2_ n3_ n4_; (try clear hb); (try clear hkp); (try clear hy0); obtain ⟨Ao64, co64, eo64⟩ := Kd.R_slice HO_9.out; subst eo64) | ((with_reducible refine gate_callee (f := 13) rfl ?_); refine goesL_ (some 70) rfl rfl Try.func13 (by kernel_rfl) rfl #[.slice Ao64 t344.length co64, .int .i64 t359] rfl (by (try simp only [List.map_toArray, List.map_cons, List.map_nil]); first | done | rfl) ?_; (with_reducible refine (laws_markIntS.calls kj28 (fun k_ => some k_ = (.slice Ao64 t344.length co64 : Value).ownBlock) (.slice Ao64 t344.length co64) t344 t359 t361 t362 w _ ?side1 ?side2 A45.out).mono ?_); (case side1 => repeat (first | (with_reducible first | exact HB.out | apply below_alloc | apply pw_below_drewN | apply below_drew1) | exact HB.out)); (case side2 => exact Kd.R_tight rfl HO_9.out); rintro e w65 ⟨rfl, hy0, hb, hkp⟩; refine ⟨_, rfl, ?_⟩; have n0_ := Aside0.mk (Kd.R_mono (ok' := fun k_ => some k_ ≠ (v338 : Value).ownBlock ∧ some k_ ≠ (.slice Ao62 t343.length co62 : Value).ownBlock ∧ some k_ ≠ (.slice Ao64 t344.length co64 : Value).ownBlock) (Kd.R_keptB (HO_5.out) hkp (fun k_ hk_ hs_ => (hk_.2.2) hs_)) (fun k_ hk_ => ⟨hk_.1.1, hk_.1.2.1, hk_.1.2.2⟩)); have n1_ := Aside0.mk (Kd.R_mono (ok' := fun k_ => some k_ ≠ (v336 : Value).ownBlock ∧ some k_ ≠ (.slice Ao62 t343.length co62 : Value).ownBlock ∧ some k_ ≠ (.slice Ao64 t344.length co64 : Value).ownBlock) (Kd.R_keptB (HO_6.out) hkp (fun k_ hk_ hs_ => (hk_.2.2) hs_)) (fun k_ hk_ => ⟨hk_.1.1, hk_.1.2.1, hk_.1.2.2⟩)); have n2_ := Aside0.mk (Kd.R_mono (ok' := fun k_ => some k_ ≠ (v336 : Value).ownBlock ∧ some k_ ≠ (v338 : Value).ownBlock ∧ some k_ ≠ (.slice Ao64 t344.length co64 : Value).ownBlock) (Kd.R_keptB (HO_8.out) hkp (fun k_ hk_ hs_ => (hk_.2.2) hs_)) (fun k_ hk_ => ⟨hk_.1.1, hk_.1.2.1, hk_.1.2.2⟩)); have n3_ := Aside0.mk (Kd.R_reok rfl hy0 (fun k_ e_ => HO_9.out.1 k_ e_)); have n4_ := Aside0.mk (hb); clear HO_5; clear HO_6; clear HO_8; clear HO_9; clear HB; have HO_5 := n0_; have HO_6 := n1_; have HO_8 := n2_; have HO_9 := n3_; have HB := n4_; clear n0_ n1_ n2_ n3_ n4_; (try clear hb); (try clear hkp); (try clear hy0)) | ((with_reducible refine gate_callee (f := 14) rfl ?_); refine goesL_ (some 73) rfl rfl Try.func14 (by kernel_rfl) rfl #[.slice Ao62 t360.length co62, .int .i64 1] rfl (by (try simp only [List.map_toArray, List.map_cons, List.map_nil]); first | done | (rw [show t360.length = t343.length from (Kd.R_reads' HO_8.out).1.symm] <;> rfl) | rfl | (simp only [List.length_drop, List.length_take]; rfl)) ?_; (with_reducible refine (laws_heldIntS.calls kj28 _ _ t360 1 t363 _ ?side1 ?side2 A46.out).mono ?_); (case side1 => repeat (first | exact (Kd.R_reads' HO_8.out).2.2 | (with_reducible refine Kd.C_alloc ?_ _) | (with_reducible refine Kd.C_drewN ?_ _) | (with_reducible refine Kd.C_drew ?_))); (case side2 => rw [show t360.length = t343.length from (Kd.R_reads' HO_8.out).1.symm]; exact (Kd.R_reads' HO_8.out).2.1); rintro e w' ⟨rfl, ⟨nd, rfl⟩⟩; refine ⟨_, rfl, ?_⟩) | ((with_reducible refine gate_callee (f := 14) rfl ?_); refine goesL_ (some 78) rfl rfl Try.func14 (by kernel_rfl) rfl #[.slice Ao64 t362.length co64, .int .i64 t363] rfl (by (try simp only [List.map_toArray, List.map_cons, List.map_nil]); first | done | (rw [show t362.length = t344.length from (Kd.R_reads' HO_9.out).1.symm] <;> rfl) | rfl | (simp only [List.length_drop, List.length_take]; rfl)) ?_; (with_reducible refine (laws_heldIntS.calls kj28 _ _ t362 t363 t364 _ ?side1 ?side2 A52.out).mono ?_); (case side1 => repeat (first | exact (Kd.R_reads' HO_9.out).2.2 | (with_reducible refine Kd.C_alloc ?_ _) | (with_reducible refine Kd.C_drewN ?_ _) | (with_reducible refine Kd.C_drew ?_))); (case side2 => rw [show t362.length = t344.length from (Kd.R_reads' HO_9.out).1.symm]; exact (Kd.R_reads' HO_9.out).2.1); rintro e w' ⟨rfl, ⟨nd, rfl⟩⟩; refine ⟨_, rfl, ?_⟩) | ((with_reducible refine gate_callee (f := 10) rfl ?_); refine goesL_ (some 86) rfl rfl Try.func10 (by kernel_rfl) rfl #[.slice A0 l0.length c0] rfl (by (try simp only [List.map_toArray, List.map_cons, List.map_nil]); first | done | rfl) ?_; (with_reducible refine (laws_toIntS.calls kj28 _ _ l0 t365 _ ?side1 ?side2 A59.out).mono ?_); (case side1 => repeat (first | exact (Kd.C_below HR0.out (by repeat (first | (with_reducible first | exact HB.out | apply below_alloc | apply pw_below_drewN | apply below_drew1) | exact HB.out))) | (with_reducible refine Kd.C_alloc ?_ _) | (with_reducible refine Kd.C_drewN ?_ _) | (with_reducible refine Kd.C_drew ?_))); (case side2 => exact HC0.out); rintro e w66 ⟨v366, rfl, ho0, hb⟩; refine ⟨_, rfl, ?_⟩; have n0_ := Aside0.mk (Kd.R_elder' (by (with_reducible repeat (first | apply Kd.R_alloc | apply Kd.R_drewN | apply Kd.R_drew)); exact HO_5.out) (Kd.R_base ho0) hb); have n1_ := Aside0.mk (Kd.R_elder' (by (with_reducible repeat (first | apply Kd.R_alloc | apply Kd.R_drewN | apply Kd.R_drew)); exact HO_6.out) (Kd.R_base ho0) hb); have n2_ := Aside0.mk (Kd.R_elder' (by (with_reducible repeat (first | apply Kd.R_alloc | apply Kd.R_drewN | apply Kd.R_drew)); exact HO_8.out) (Kd.R_base ho0) hb); have n3_ := Aside0.mk (Kd.R_elder' (by (with_reducible repeat (first | apply Kd.R_alloc | apply Kd.R_drewN | apply Kd.R_drew)); exact HO_9.out) (Kd.R_base ho0) hb); have n4_ := Aside0.mk (Kd.R_lower (Kd.R_new' (Kd.R_new' (Kd.R_new' (Kd.R_new' ho0 (Kd.R_lt (by (with_reducible repeat (first | apply Kd.R_alloc | apply Kd.R_drewN | apply Kd.R_drew)); exact HO_5.out))) (Kd.R_lt (by (with_reducible repeat (first | apply Kd.R_alloc | apply Kd.R_drewN | apply Kd.R_drew)); exact HO_6.out))) (Kd.R_lt (by (with_reducible repeat (first | apply Kd.R_alloc | apply Kd.R_drewN | apply Kd.R_drew)); exact HO_8.out))) (Kd.R_lt (by (with_reducible repeat (first | apply Kd.R_alloc | apply Kd.R_drewN | apply Kd.R_drew)); exact HO_9.out))) (below_size (by repeat (first | (with_reducible first | exact HB.out | apply below_alloc | apply pw_below_drewN | apply below_drew1) | exact HB.out)))); have n5_ := Aside0.mk (below_step (by repeat (first | (with_reducible first | exact HB.out | apply below_alloc | apply pw_below_drewN | apply below_drew1) | exact HB.out)) hb); clear HO_5; clear HO_6; clear HO_8; clear HO_9; clear HB; have HO_5 := n0_; have HO_6 := n1_; have HO_8 := n2_; have HO_9 := n3_; have HO367 := n4_; have HB := n5_; clear n0_ n1_ n2_ n3_ n4_ n5_; (try clear hb); (try clear hb2); (try clear hk); (try clear hi); (try clear ho0); obtain ⟨Ao67, co67, eo67⟩ := Kd.R_slice HO367.out; subst eo67) | ((with_reducible refine gate_callee (f := 18) rfl ?_); refine goesL_ (some 88) rfl rfl Try.func18 (by kernel_rfl) rfl #[.slice Ao67 t365.length co67, .int .i64 a1] rfl (by (try simp only [List.map_toArray, List.map_cons, List.map_nil]); first | done | rfl) ?_; (with_reducible refine (impl_LevelsTold.calls _ _ t365 a1 t368 t369 _ ?side1 ?side2 A60.out).mono ?_); (case side1 => repeat (first | exact (Kd.R_reads' HO367.out).2.2 | (with_reducible refine Kd.C_alloc ?_ _) | (with_reducible refine Kd.C_drewN ?_ _) | (with_reducible refine Kd.C_drew ?_))); (case side2 => exact (Kd.R_reads' HO367.out).2.1); rintro e w68 ⟨v370, v372, rfl, ho0, ho1, hb⟩; refine ⟨_, rfl, ?_⟩; have n0_ := Aside0.mk (Kd.R_mono (Kd.R_told (Kd.R_told (Kd.R_old (by (with_reducible repeat (first | apply Kd.R_alloc | apply Kd.R_drewN | apply Kd.R_drew)); exact HO_5.out) hb) (Kd.R_base ho0)) (Kd.R_base ho1)) (fun _ h_ => h_.1)); have n1_ := Aside0.mk (Kd.R_mono (Kd.R_told (Kd.R_told (Kd.R_old (by (with_reducible repeat (first | apply Kd.R_alloc | apply Kd.R_drewN | apply Kd.R_drew)); exact HO_6.out) hb) (Kd.R_base ho0)) (Kd.R_base ho1)) (fun _ h_ => h_.1)); have n2_ := Aside0.mk (Kd.R_mono (Kd.R_told (Kd.R_told (Kd.R_old (by (with_reducible repeat (first | apply Kd.R_alloc | apply Kd.R_drewN | apply Kd.R_drew)); exact HO_8.out) hb) (Kd.R_base ho0)) (Kd.R_base ho1)) (fun _ h_ => h_.1)); have n3_ := Aside0.mk (Kd.R_mono (Kd.R_told (Kd.R_told (Kd.R_old (by (with_reducible repeat (first | apply Kd.R_alloc | apply Kd.R_drewN | apply Kd.R_drew)); exact HO_9.out) hb) (Kd.R_base ho0)) (Kd.R_base ho1)) (fun _ h_ => h_.1)); have n4_ := Aside0.mk (Kd.R_mono (Kd.R_told (Kd.R_told (Kd.R_old (by (with_reducible repeat (first | apply Kd.R_alloc | apply Kd.R_drewN | apply Kd.R_drew)); exact HO367.out) hb) (Kd.R_base ho0)) (Kd.R_base ho1)) (fun _ h_ => h_.1)); have n5_ := Aside0.mk (Kd.R_lower (Kd.R_new' (Kd.R_new' (Kd.R_new' (Kd.R_new' (Kd.R_new' ho0 (Kd.R_lt (by (with_reducible repeat (first | apply Kd.R_alloc | apply Kd.R_drewN | apply Kd.R_drew)); exact HO_5.out))) (Kd.R_lt (by (with_reducible repeat (first | apply Kd.R_alloc | apply Kd.R_drewN | apply Kd.R_drew)); exact HO_6.out))) (Kd.R_lt (by (with_reducible repeat (first | apply Kd.R_alloc | apply Kd.R_drewN | apply Kd.R_drew)); exact HO_8.out))) (Kd.R_lt (by (with_reducible repeat (first | apply Kd.R_alloc | apply Kd.R_drewN | apply Kd.R_drew)); exact HO_9.out))) (Kd.R_lt (by (with_reducible repeat (first | apply Kd.R_alloc | apply Kd.R_drewN | apply Kd.R_drew)); exact HO367.out))) (below_size (by repeat (first | (with_reducible first | exact HB.out | apply below_alloc | apply pw_below_drewN | apply below_drew1) | exact HB.out)))); have n6_ := Aside0.mk (Kd.R_lower (Kd.R_new' (Kd.R_new' (Kd.R_new' (Kd.R_new' (Kd.R_new' ho1 (Kd.R_lt (by (with_reducible repeat (first | apply Kd.R_alloc | apply Kd.R_drewN | apply Kd.R_drew)); exact HO_5.out))) (Kd.R_lt (by (with_reducible repeat (first | apply Kd.R_alloc | apply Kd.R_drewN | apply Kd.R_drew)); exact HO_6.out))) (Kd.R_lt (by (with_reducible repeat (first | apply Kd.R_alloc | apply Kd.R_drewN | apply Kd.R_drew)); exact HO_8.out))) (Kd.R_lt (by (with_reducible repeat (first | apply Kd.R_alloc | apply Kd.R_drewN | apply Kd.R_drew)); exact HO_9.out))) (Kd.R_lt (by (with_reducible repeat (first | apply Kd.R_alloc | apply Kd.R_drewN | apply Kd.R_drew)); exact HO367.out))) (below_size (by repeat (first | (with_reducible first | exact HB.out | apply below_alloc | apply pw_below_drewN | apply below_drew1) | exact HB.out)))); have n7_ := Aside0.mk (below_step (by repeat (first | (with_reducible first | exact HB.out | apply below_alloc | apply pw_below_drewN | apply below_drew1) | exact HB.out)) hb); clear HO_5; clear HO_6; clear HO_8; clear HO_9; clear HO367; clear HB; have HO_5 := n0_; have HO_6 := n1_; have HO_8 := n2_; have HO_9 := n3_; have HO367 := n4_; have HO371 := n5_; have HO373 := n6_; have HB := n7_; clear n0_ n1_ n2_ n3_ n4_ n5_ n6_ n7_; (try clear hb); (try clear hb2); (try clear hk); (try clear hi); (try clear ho0); (try clear ho1)))
            (try simp only [Act.put, List.setIfInBounds_toArray, List.set_cons_zero, List.set_cons_succ]); go_cut [100] (fun v100 wc => ∃ (kq : Nat) (x100_60 : Bool), v100 = .bool x100_60 ∧ Aside0 (laws_FnExactLevelsTold.j2 kq t360 t362 t361 x100_60 = some r) ∧ Aside0 (kq ≤ kj28) ∧ Aside0 (Kd.R (Kd.int .i64) 3 wc w.heap.size (fun k_ => some k_ ≠ ((.slice Ao64 t344.length co64) : Value).ownBlock) (.slice Ao62 t343.length co62) t360) ∧ Aside0 (Kd.R (Kd.int .i64) 3 wc w.heap.size (fun k_ => some k_ ≠ ((.slice Ao62 t343.length co62) : Value).ownBlock) (.slice Ao64 t344.length co64) t362) ∧ Aside0 (Below w.heap.size w wc))
            case first =>
             have H := HC61.out; clear HC61; replace H := Option.bind_eq_some_iff.mp H; obtain ⟨t374, A690, H⟩ := H; replace H : (if t374 = true then ((laws_eqIntS.f kj28 t369 t335).bind fun t375 => (laws_FnExactLevelsTold.j2 kj28 t360 t362 t361 (!t375))) else (laws_FnExactLevelsTold.j2 kj28 t360 t362 t361 true)) = some r := H; have A69 := Aside0.mk A690; clear A690; by_cases c70 : t374 = true
             ·
              subst c70; have H1 : ((laws_eqIntS.f kj28 t369 t335).bind fun t375 => (laws_FnExactLevelsTold.j2 kj28 t360 t362 t361 (!t375))) = some r := by rw [if_pos rfl] at H; exact H
              clear H; have H := H1; clear H1; replace H := Option.bind_eq_some_iff.mp H; obtain ⟨t375, A710, H⟩ := H; replace H : (laws_FnExactLevelsTold.j2 kj28 t360 t362 t361 (!t375)) = some r := H; have A71 := Aside0.mk A710; clear A710; have H' := Aside0.mk H; clear H; obtain ⟨Ao72, co72, eo72⟩ := Kd.R_slice HO371.out; subst eo72; obtain ⟨Ao73, co73, eo73⟩ := Kd.R_slice HO_5.out; subst eo73; go_wp2_with (first | ((with_reducible refine gate_callee (f := 12) rfl ?_); refine goesL_ (some 93) rfl rfl Try.func12 (by kernel_rfl) rfl #[.slice Ao72 t368.length co72, .slice Ao73 t334.length co73] rfl (by (try simp only [List.map_toArray, List.map_cons, List.map_nil]); first | done | rfl) ?_; (with_reducible refine (laws_eqIntS.calls kj28 _ _ t368 _ _ t334 true _ ?side1 ?side2 ?side3 ?side4 A69.out).mono ?_); (case side1 => repeat (first | exact (Kd.R_reads' HO371.out).2.2 | (with_reducible refine Kd.C_alloc ?_ _) | (with_reducible refine Kd.C_drewN ?_ _) | (with_reducible refine Kd.C_drew ?_))); (case side2 => exact (Kd.R_reads' HO371.out).2.1); (case side3 => repeat (first | exact (Kd.R_reads' HO_5.out).2.2 | (with_reducible refine Kd.C_alloc ?_ _) | (with_reducible refine Kd.C_drewN ?_ _) | (with_reducible refine Kd.C_drew ?_))); (case side4 => exact (Kd.R_reads' HO_5.out).2.1); rintro e w' ⟨rfl, ⟨nd, rfl⟩⟩; refine ⟨_, rfl, ?_⟩; obtain ⟨Ao74, co74, eo74⟩ := Kd.R_slice HO373.out; subst eo74; obtain ⟨Ao75, co75, eo75⟩ := Kd.R_slice HO_6.out; subst eo75) | (go_at_call 12; (with_reducible refine (laws_eqIntS.calls kj28 _ _ t369 _ _ t335 t375 _ ?side1 ?side2 ?side3 ?side4 A71.out).mono ?_); (case side1 => repeat (first | exact (Kd.R_reads' HO373.out).2.2 | (with_reducible refine Kd.C_alloc ?_ _) | (with_reducible refine Kd.C_drewN ?_ _) | (with_reducible refine Kd.C_drew ?_))); (case side2 => exact (Kd.R_reads' HO373.out).2.1); (case side3 => repeat (first | exact (Kd.R_reads' HO_6.out).2.2 | (with_reducible refine Kd.C_alloc ?_ _) | (with_reducible refine Kd.C_drewN ?_ _) | (with_reducible refine Kd.C_drew ?_))); (case side4 => exact (Kd.R_reads' HO_6.out).2.1); rintro e w' ⟨rfl, ⟨nd, rfl⟩⟩)); go_meet
              case rel => exact ⟨_, (!t375), (by first | rfl | (simp; done) | (simp [*]; done)), H', ⟨by have := HJ7.out; have := HJ28.out; first | omega | exact Nat.le_refl _⟩, ⟨by (with_reducible repeat (first | apply Kd.R_alloc | apply Kd.R_drewN | apply Kd.R_drew)); exact Kd.R_mono HO_8.out (fun _ hk => hk.1.1.1.2.2)⟩, ⟨by (with_reducible repeat (first | apply Kd.R_alloc | apply Kd.R_drewN | apply Kd.R_drew)); exact Kd.R_mono HO_9.out (fun _ hk => hk.1.1.1.2.2)⟩, ⟨by repeat (first | (with_reducible first | exact HB.out | apply below_alloc | apply pw_below_drewN | apply below_drew1) | exact HB.out)⟩⟩
             ·
              replace c70 := Bool.eq_false_iff.mpr c70; subst c70; have H1 : (laws_FnExactLevelsTold.j2 kj28 t360 t362 t361 true) = some r := by rw [if_neg (show ¬ (false = true) by decide)] at H; exact H
              clear H; have H := H1; clear H1; have H' := Aside0.mk H; clear H; obtain ⟨Ao76, co76, eo76⟩ := Kd.R_slice HO371.out; subst eo76; obtain ⟨Ao77, co77, eo77⟩ := Kd.R_slice HO_5.out; subst eo77; go_wp2_with (first | ((with_reducible refine gate_callee (f := 12) rfl ?_); refine goesL_ (some 93) rfl rfl Try.func12 (by kernel_rfl) rfl #[.slice Ao76 t368.length co76, .slice Ao77 t334.length co77] rfl (by (try simp only [List.map_toArray, List.map_cons, List.map_nil]); first | done | rfl) ?_; (with_reducible refine (laws_eqIntS.calls kj28 _ _ t368 _ _ t334 false _ ?side1 ?side2 ?side3 ?side4 A69.out).mono ?_); (case side1 => repeat (first | exact (Kd.R_reads' HO371.out).2.2 | (with_reducible refine Kd.C_alloc ?_ _) | (with_reducible refine Kd.C_drewN ?_ _) | (with_reducible refine Kd.C_drew ?_))); (case side2 => exact (Kd.R_reads' HO371.out).2.1); (case side3 => repeat (first | exact (Kd.R_reads' HO_5.out).2.2 | (with_reducible refine Kd.C_alloc ?_ _) | (with_reducible refine Kd.C_drewN ?_ _) | (with_reducible refine Kd.C_drew ?_))); (case side4 => exact (Kd.R_reads' HO_5.out).2.1); rintro e w' ⟨rfl, ⟨nd, rfl⟩⟩; refine ⟨_, rfl, ?_⟩)); go_meet
              case rel => exact ⟨_, (true), (by first | rfl | (simp; done) | (simp [*]; done)), H', ⟨by have := HJ7.out; have := HJ28.out; first | omega | exact Nat.le_refl _⟩, ⟨by (with_reducible repeat (first | apply Kd.R_alloc | apply Kd.R_drewN | apply Kd.R_drew)); exact Kd.R_mono HO_8.out (fun _ hk => hk.1.1.1.2.2)⟩, ⟨by (with_reducible repeat (first | apply Kd.R_alloc | apply Kd.R_drewN | apply Kd.R_drew)); exact Kd.R_mono HO_9.out (fun _ hk => hk.1.1.1.2.2)⟩, ⟨by repeat (first | (with_reducible first | exact HB.out | apply below_alloc | apply pw_below_drewN | apply below_drew1) | exact HB.out)⟩⟩
            case rest =>
             clear HC61; (try clear c1); (try clear c2); (try clear p2); (try clear c3); (try clear c3b0); (try clear c3b1); (try clear c4); (try clear c5); (try clear c7); (try clear c10); (try clear c12); (try clear c13); (try clear c14); (try clear c16); (try clear c17); (try clear c18); (try clear c24); (try clear c27); (try clear c33); (try clear c33b0); (try clear c35); (try clear c43); (try clear c47); (try clear c47b0); (try clear c53); (try clear c53b0); (try clear c58); (try clear c58b0); (try clear c58b1); (try clear c70); (try clear p2); obtain ⟨kq, x100_60, rfl, HA, HJ60, HO_8, HO_9, HB⟩ := hcut; have hl8_60 := (Kd.R_reads' HO_8.out).1; rw [hl8_60] at HO_8; (try simp only [hl8_60]); (try simp only [hl8_60] at HO_9); have hl9_60 := (Kd.R_reads' HO_9.out).1; rw [hl9_60] at HO_9; (try simp only [hl9_60]); (try simp only [hl9_60] at HO_8)
             cases kq with
             | zero => exact absurd HA.out (by simp [laws_FnExactLevelsTold.j2])
             | succ kj60 =>
              have H := HA.out; clear HA; simp only [laws_FnExactLevelsTold.j2] at H; by_cases c78 : x100_60 = true
              ·
               subst c78; have H1 : (some false) = some r := by rw [if_pos rfl] at H; exact H
               clear H; have H := H1; clear H1; obtain rfl := Option.some.inj H; go_wp2; go_ret; exact ⟨by first | rfl | (simp [errW_none, errW_some] <;> rfl) | (simp [*, errW_none, errW_some] <;> rfl), by repeat (first | (with_reducible first | exact HB.out | apply below_alloc | apply pw_below_drewN | apply below_drew1) | exact HB.out)⟩
              ·
               replace c78 := Bool.eq_false_iff.mpr c78; subst c78; have H1 : ((laws_heldIntS.f kj60 t360 1).bind fun t376 => (if t376 < 0 then (some false) else ((laws_heldIntS.f kj60 t362 t376).bind fun t377 => (if t377 < 0 then (some false) else (if t377 = t361 then (some true) else (some false)))))) = some r := by rw [if_neg (show ¬ (false = true) by decide)] at H; exact H
               clear H; have H := H1; clear H1; replace H := Option.bind_eq_some_iff.mp H; obtain ⟨t376, A790, H⟩ := H; replace H : (if t376 < 0 then (some false) else ((laws_heldIntS.f kj60 t362 t376).bind fun t377 => (if t377 < 0 then (some false) else (if t377 = t361 then (some true) else (some false))))) = some r := H; have A79 := Aside0.mk A790; clear A790; by_cases c80 : t376 < 0
               ·
                rw [if_pos c80] at H; have c80b0 : decide (t376 < 0) = true := decide_eq_true c80; clear c80; obtain rfl := Option.some.inj H; go_wp2_with (first | ((with_reducible refine gate_callee (f := 14) rfl ?_); refine goesL_ (some 103) rfl rfl Try.func14 (by kernel_rfl) rfl #[.slice Ao62 t360.length co62, .int .i64 1] rfl (by (try simp only [List.map_toArray, List.map_cons, List.map_nil]); first | done | rfl) ?_; (with_reducible refine (laws_heldIntS.calls kj60 _ _ t360 1 t376 _ ?side1 ?side2 A79.out).mono ?_); (case side1 => repeat (first | exact (Kd.R_reads' HO_8.out).2.2 | (with_reducible refine Kd.C_alloc ?_ _) | (with_reducible refine Kd.C_drewN ?_ _) | (with_reducible refine Kd.C_drew ?_))); (case side2 => exact (Kd.R_reads' HO_8.out).2.1); rintro e w' ⟨rfl, ⟨nd, rfl⟩⟩; refine ⟨_, rfl, ?_⟩)); go_ret; exact ⟨by first | rfl | (simp [errW_none, errW_some] <;> rfl) | (simp [*, errW_none, errW_some] <;> rfl), by repeat (first | (with_reducible first | exact HB.out | apply below_alloc | apply pw_below_drewN | apply below_drew1) | exact HB.out)⟩
               ·
                rw [if_neg c80] at H; have c80b0 : decide (t376 < 0) = false := decide_eq_false c80; clear c80; replace H := Option.bind_eq_some_iff.mp H; obtain ⟨t377, A810, H⟩ := H; replace H : (if t377 < 0 then (some false) else (if t377 = t361 then (some true) else (some false))) = some r := H; have A81 := Aside0.mk A810; clear A810; by_cases c82 : t377 < 0
                ·
                 rw [if_pos c82] at H; have c82b0 : decide (t377 < 0) = true := decide_eq_true c82; clear c82; obtain rfl := Option.some.inj H; go_wp2_with (first | ((with_reducible refine gate_callee (f := 14) rfl ?_); refine goesL_ (some 103) rfl rfl Try.func14 (by kernel_rfl) rfl #[.slice Ao62 t360.length co62, .int .i64 1] rfl (by (try simp only [List.map_toArray, List.map_cons, List.map_nil]); first | done | rfl) ?_; (with_reducible refine (laws_heldIntS.calls kj60 _ _ t360 1 t376 _ ?side1 ?side2 A79.out).mono ?_); (case side1 => repeat (first | exact (Kd.R_reads' HO_8.out).2.2 | (with_reducible refine Kd.C_alloc ?_ _) | (with_reducible refine Kd.C_drewN ?_ _) | (with_reducible refine Kd.C_drew ?_))); (case side2 => exact (Kd.R_reads' HO_8.out).2.1); rintro e w' ⟨rfl, ⟨nd, rfl⟩⟩; refine ⟨_, rfl, ?_⟩) | ((with_reducible refine gate_callee (f := 14) rfl ?_); refine goesL_ (some 108) rfl rfl Try.func14 (by kernel_rfl) rfl #[.slice Ao64 t362.length co64, .int .i64 t376] rfl (by (try simp only [List.map_toArray, List.map_cons, List.map_nil]); first | done | rfl) ?_; (with_reducible refine (laws_heldIntS.calls kj60 _ _ t362 t376 t377 _ ?side1 ?side2 A81.out).mono ?_); (case side1 => repeat (first | exact (Kd.R_reads' HO_9.out).2.2 | (with_reducible refine Kd.C_alloc ?_ _) | (with_reducible refine Kd.C_drewN ?_ _) | (with_reducible refine Kd.C_drew ?_))); (case side2 => exact (Kd.R_reads' HO_9.out).2.1); rintro e w' ⟨rfl, ⟨nd, rfl⟩⟩; refine ⟨_, rfl, ?_⟩)); go_ret; exact ⟨by first | rfl | (simp [errW_none, errW_some] <;> rfl) | (simp [*, errW_none, errW_some] <;> rfl), by repeat (first | (with_reducible first | exact HB.out | apply below_alloc | apply pw_below_drewN | apply below_drew1) | exact HB.out)⟩
                ·
                 rw [if_neg c82] at H; have c82b0 : decide (t377 < 0) = false := decide_eq_false c82; clear c82; by_cases c83 : t377 = t361
                 ·
                  rw [if_pos c83] at H; have c83b0 : (t377 == t361) = true := beq_iff_eq.mpr c83; have c83b1 : (t377 != t361) = false := bne_eq_false_iff_eq.mpr c83; clear c83; obtain rfl := Option.some.inj H; go_wp2_with (first | ((with_reducible refine gate_callee (f := 14) rfl ?_); refine goesL_ (some 103) rfl rfl Try.func14 (by kernel_rfl) rfl #[.slice Ao62 t360.length co62, .int .i64 1] rfl (by (try simp only [List.map_toArray, List.map_cons, List.map_nil]); first | done | rfl) ?_; (with_reducible refine (laws_heldIntS.calls kj60 _ _ t360 1 t376 _ ?side1 ?side2 A79.out).mono ?_); (case side1 => repeat (first | exact (Kd.R_reads' HO_8.out).2.2 | (with_reducible refine Kd.C_alloc ?_ _) | (with_reducible refine Kd.C_drewN ?_ _) | (with_reducible refine Kd.C_drew ?_))); (case side2 => exact (Kd.R_reads' HO_8.out).2.1); rintro e w' ⟨rfl, ⟨nd, rfl⟩⟩; refine ⟨_, rfl, ?_⟩) | ((with_reducible refine gate_callee (f := 14) rfl ?_); refine goesL_ (some 108) rfl rfl Try.func14 (by kernel_rfl) rfl #[.slice Ao64 t362.length co64, .int .i64 t376] rfl (by (try simp only [List.map_toArray, List.map_cons, List.map_nil]); first | done | rfl) ?_; (with_reducible refine (laws_heldIntS.calls kj60 _ _ t362 t376 t377 _ ?side1 ?side2 A81.out).mono ?_); (case side1 => repeat (first | exact (Kd.R_reads' HO_9.out).2.2 | (with_reducible refine Kd.C_alloc ?_ _) | (with_reducible refine Kd.C_drewN ?_ _) | (with_reducible refine Kd.C_drew ?_))); (case side2 => exact (Kd.R_reads' HO_9.out).2.1); rintro e w' ⟨rfl, ⟨nd, rfl⟩⟩; refine ⟨_, rfl, ?_⟩)); go_ret; exact ⟨by first | rfl | (simp [errW_none, errW_some] <;> rfl) | (simp [*, errW_none, errW_some] <;> rfl), by repeat (first | (with_reducible first | exact HB.out | apply below_alloc | apply pw_below_drewN | apply below_drew1) | exact HB.out)⟩
                 ·
                  rw [if_neg c83] at H; have c83b0 : (t377 == t361) = false := beq_eq_false_iff_ne.mpr c83; have c83b1 : (t377 != t361) = true := bne_iff_ne.mpr c83; obtain rfl := Option.some.inj H; go_wp2_with (first | ((with_reducible refine gate_callee (f := 14) rfl ?_); refine goesL_ (some 103) rfl rfl Try.func14 (by kernel_rfl) rfl #[.slice Ao62 t360.length co62, .int .i64 1] rfl (by (try simp only [List.map_toArray, List.map_cons, List.map_nil]); first | done | rfl) ?_; (with_reducible refine (laws_heldIntS.calls kj60 _ _ t360 1 t376 _ ?side1 ?side2 A79.out).mono ?_); (case side1 => repeat (first | exact (Kd.R_reads' HO_8.out).2.2 | (with_reducible refine Kd.C_alloc ?_ _) | (with_reducible refine Kd.C_drewN ?_ _) | (with_reducible refine Kd.C_drew ?_))); (case side2 => exact (Kd.R_reads' HO_8.out).2.1); rintro e w' ⟨rfl, ⟨nd, rfl⟩⟩; refine ⟨_, rfl, ?_⟩) | ((with_reducible refine gate_callee (f := 14) rfl ?_); refine goesL_ (some 108) rfl rfl Try.func14 (by kernel_rfl) rfl #[.slice Ao64 t362.length co64, .int .i64 t376] rfl (by (try simp only [List.map_toArray, List.map_cons, List.map_nil]); first | done | rfl) ?_; (with_reducible refine (laws_heldIntS.calls kj60 _ _ t362 t376 t377 _ ?side1 ?side2 A81.out).mono ?_); (case side1 => repeat (first | exact (Kd.R_reads' HO_9.out).2.2 | (with_reducible refine Kd.C_alloc ?_ _) | (with_reducible refine Kd.C_drewN ?_ _) | (with_reducible refine Kd.C_drew ?_))); (case side2 => exact (Kd.R_reads' HO_9.out).2.1); rintro e w' ⟨rfl, ⟨nd, rfl⟩⟩; refine ⟨_, rfl, ?_⟩)); go_ret; exact ⟨by first | rfl | (simp [errW_none, errW_some] <;> rfl) | (simp [*, errW_none, errW_some] <;> rfl), by repeat (first | (with_reducible first | exact HB.out | apply below_alloc | apply pw_below_drewN | apply below_drew1) | exact HB.out)⟩
           ·
            rw [if_neg c58] at H; have c58b0 : (t364 == t361) = false := beq_eq_false_iff_ne.mpr c58; have c58b1 : (t364 != t361) = true := bne_iff_ne.mpr c58; obtain rfl := Option.some.inj H; obtain ⟨Ao84, co84, eo84⟩ := Kd.R_slice HO_8.out; subst eo84; go_wp2_with (first | ((with_reducible refine gate_callee (f := 13) rfl ?_); refine goesL_ (some 67) rfl rfl Try.func13 (by kernel_rfl) rfl #[.slice Ao84 t343.length co84, .int .i64 1] rfl (by (try simp only [List.map_toArray, List.map_cons, List.map_nil]); first | done | rfl) ?_; (with_reducible refine (laws_markIntS.calls kj28 (fun k_ => some k_ = (.slice Ao84 t343.length co84 : Value).ownBlock) (.slice Ao84 t343.length co84) t343 1 t359 t360 w _ ?side1 ?side2 A44.out).mono ?_); (case side1 => repeat (first | (with_reducible first | exact HB.out | apply below_alloc | apply pw_below_drewN | apply below_drew1) | exact HB.out)); (case side2 => exact Kd.R_tight rfl HO_8.out); rintro e w85 ⟨rfl, hy0, hb, hkp⟩; refine ⟨_, rfl, ?_⟩; have n0_ := Aside0.mk (Kd.R_mono (ok' := fun k_ => some k_ ≠ (v338 : Value).ownBlock ∧ some k_ ≠ (.slice Ao84 t343.length co84 : Value).ownBlock ∧ some k_ ≠ (v347 : Value).ownBlock) (Kd.R_keptB (HO_5.out) hkp (fun k_ hk_ hs_ => (hk_.2.1) hs_)) (fun k_ hk_ => ⟨hk_.1.1, hk_.1.2.1, hk_.1.2.2⟩)); have n1_ := Aside0.mk (Kd.R_mono (ok' := fun k_ => some k_ ≠ (v336 : Value).ownBlock ∧ some k_ ≠ (.slice Ao84 t343.length co84 : Value).ownBlock ∧ some k_ ≠ (v347 : Value).ownBlock) (Kd.R_keptB (HO_6.out) hkp (fun k_ hk_ hs_ => (hk_.2.1) hs_)) (fun k_ hk_ => ⟨hk_.1.1, hk_.1.2.1, hk_.1.2.2⟩)); have n2_ := Aside0.mk (Kd.R_reok rfl hy0 (fun k_ e_ => HO_8.out.1 k_ e_)); have n3_ := Aside0.mk (Kd.R_mono (ok' := fun k_ => some k_ ≠ (v336 : Value).ownBlock ∧ some k_ ≠ (v338 : Value).ownBlock ∧ some k_ ≠ (.slice Ao84 t343.length co84 : Value).ownBlock) (Kd.R_keptB (HO_9.out) hkp (fun k_ hk_ hs_ => (hk_.2.2) hs_)) (fun k_ hk_ => ⟨hk_.1.1, hk_.1.2.1, hk_.1.2.2⟩)); have n4_ := Aside0.mk (hb); clear HO_5; clear HO_6; clear HO_8; clear HO_9; clear HB; have HO_5 := n0_; have HO_6 := n1_; have HO_8 := n2_; have HO_9 := n3_; have HB := n4_; clear n0_ n1_ n2_ n3_ n4_; (try clear hb); (try clear hkp); (try clear hy0); obtain ⟨Ao86, co86, eo86⟩ := Kd.R_slice HO_9.out; subst eo86) | ((with_reducible refine gate_callee (f := 13) rfl ?_); refine goesL_ (some 70) rfl rfl Try.func13 (by kernel_rfl) rfl #[.slice Ao86 t344.length co86, .int .i64 t359] rfl (by (try simp only [List.map_toArray, List.map_cons, List.map_nil]); first | done | rfl) ?_; (with_reducible refine (laws_markIntS.calls kj28 (fun k_ => some k_ = (.slice Ao86 t344.length co86 : Value).ownBlock) (.slice Ao86 t344.length co86) t344 t359 t361 t362 w _ ?side1 ?side2 A45.out).mono ?_); (case side1 => repeat (first | (with_reducible first | exact HB.out | apply below_alloc | apply pw_below_drewN | apply below_drew1) | exact HB.out)); (case side2 => exact Kd.R_tight rfl HO_9.out); rintro e w87 ⟨rfl, hy0, hb, hkp⟩; refine ⟨_, rfl, ?_⟩; have n0_ := Aside0.mk (Kd.R_mono (ok' := fun k_ => some k_ ≠ (v338 : Value).ownBlock ∧ some k_ ≠ (.slice Ao84 t343.length co84 : Value).ownBlock ∧ some k_ ≠ (.slice Ao86 t344.length co86 : Value).ownBlock) (Kd.R_keptB (HO_5.out) hkp (fun k_ hk_ hs_ => (hk_.2.2) hs_)) (fun k_ hk_ => ⟨hk_.1.1, hk_.1.2.1, hk_.1.2.2⟩)); have n1_ := Aside0.mk (Kd.R_mono (ok' := fun k_ => some k_ ≠ (v336 : Value).ownBlock ∧ some k_ ≠ (.slice Ao84 t343.length co84 : Value).ownBlock ∧ some k_ ≠ (.slice Ao86 t344.length co86 : Value).ownBlock) (Kd.R_keptB (HO_6.out) hkp (fun k_ hk_ hs_ => (hk_.2.2) hs_)) (fun k_ hk_ => ⟨hk_.1.1, hk_.1.2.1, hk_.1.2.2⟩)); have n2_ := Aside0.mk (Kd.R_mono (ok' := fun k_ => some k_ ≠ (v336 : Value).ownBlock ∧ some k_ ≠ (v338 : Value).ownBlock ∧ some k_ ≠ (.slice Ao86 t344.length co86 : Value).ownBlock) (Kd.R_keptB (HO_8.out) hkp (fun k_ hk_ hs_ => (hk_.2.2) hs_)) (fun k_ hk_ => ⟨hk_.1.1, hk_.1.2.1, hk_.1.2.2⟩)); have n3_ := Aside0.mk (Kd.R_reok rfl hy0 (fun k_ e_ => HO_9.out.1 k_ e_)); have n4_ := Aside0.mk (hb); clear HO_5; clear HO_6; clear HO_8; clear HO_9; clear HB; have HO_5 := n0_; have HO_6 := n1_; have HO_8 := n2_; have HO_9 := n3_; have HB := n4_; clear n0_ n1_ n2_ n3_ n4_; (try clear hb); (try clear hkp); (try clear hy0)) | ((with_reducible refine gate_callee (f := 14) rfl ?_); refine goesL_ (some 73) rfl rfl Try.func14 (by kernel_rfl) rfl #[.slice Ao84 t360.length co84, .int .i64 1] rfl (by (try simp only [List.map_toArray, List.map_cons, List.map_nil]); first | done | (rw [show t360.length = t343.length from (Kd.R_reads' HO_8.out).1.symm] <;> rfl) | rfl | (simp only [List.length_drop, List.length_take]; rfl)) ?_; (with_reducible refine (laws_heldIntS.calls kj28 _ _ t360 1 t363 _ ?side1 ?side2 A46.out).mono ?_); (case side1 => repeat (first | exact (Kd.R_reads' HO_8.out).2.2 | (with_reducible refine Kd.C_alloc ?_ _) | (with_reducible refine Kd.C_drewN ?_ _) | (with_reducible refine Kd.C_drew ?_))); (case side2 => rw [show t360.length = t343.length from (Kd.R_reads' HO_8.out).1.symm]; exact (Kd.R_reads' HO_8.out).2.1); rintro e w' ⟨rfl, ⟨nd, rfl⟩⟩; refine ⟨_, rfl, ?_⟩) | ((with_reducible refine gate_callee (f := 14) rfl ?_); refine goesL_ (some 78) rfl rfl Try.func14 (by kernel_rfl) rfl #[.slice Ao86 t362.length co86, .int .i64 t363] rfl (by (try simp only [List.map_toArray, List.map_cons, List.map_nil]); first | done | (rw [show t362.length = t344.length from (Kd.R_reads' HO_9.out).1.symm] <;> rfl) | rfl | (simp only [List.length_drop, List.length_take]; rfl)) ?_; (with_reducible refine (laws_heldIntS.calls kj28 _ _ t362 t363 t364 _ ?side1 ?side2 A52.out).mono ?_); (case side1 => repeat (first | exact (Kd.R_reads' HO_9.out).2.2 | (with_reducible refine Kd.C_alloc ?_ _) | (with_reducible refine Kd.C_drewN ?_ _) | (with_reducible refine Kd.C_drew ?_))); (case side2 => rw [show t362.length = t344.length from (Kd.R_reads' HO_9.out).1.symm]; exact (Kd.R_reads' HO_9.out).2.1); rintro e w' ⟨rfl, ⟨nd, rfl⟩⟩; refine ⟨_, rfl, ?_⟩))
            go_ret; exact ⟨by first | rfl | (simp [errW_none, errW_some] <;> rfl) | (simp [*, errW_none, errW_some] <;> rfl), by repeat (first | (with_reducible first | exact HB.out | apply below_alloc | apply pw_below_drewN | apply below_drew1) | exact HB.out)⟩
     ·
      replace c27 := Bool.eq_false_iff.mpr c27; subst c27; have H1 : (some false) = some r := by rw [if_neg (show ¬ (false = true) by decide)] at H; exact H
      clear H; have H := H1; clear H1; obtain rfl := Option.some.inj H; go_wp2_with (first | ((with_reducible refine gate_callee (f := 10) rfl ?_); refine goesL_ (some 45) rfl rfl Try.func10 (by kernel_rfl) rfl #[.slice A0 l0.length c0] rfl (by (try simp only [List.map_toArray, List.map_cons, List.map_nil]); first | done | rfl) ?_; (with_reducible refine (laws_toIntS.calls kj7 _ _ l0 t351 _ ?side1 ?side2 A25.out).mono ?_); (case side1 => repeat (first | exact (Kd.C_below HR0.out HB.out) | (with_reducible refine Kd.C_alloc ?_ _) | (with_reducible refine Kd.C_drewN ?_ _) | (with_reducible refine Kd.C_drew ?_))); (case side2 => exact HC0.out); rintro e w88 ⟨v352, rfl, ho0, hb⟩; refine ⟨_, rfl, ?_⟩; have n0_ := Aside0.mk (Kd.R_elder' (by (with_reducible repeat (first | apply Kd.R_alloc | apply Kd.R_drewN | apply Kd.R_drew)); exact HO_5.out) (Kd.R_base ho0) hb); have n1_ := Aside0.mk (Kd.R_elder' (by (with_reducible repeat (first | apply Kd.R_alloc | apply Kd.R_drewN | apply Kd.R_drew)); exact HO_6.out) (Kd.R_base ho0) hb); have n2_ := Aside0.mk (Kd.R_elder' (by (with_reducible repeat (first | apply Kd.R_alloc | apply Kd.R_drewN | apply Kd.R_drew)); exact HO_7.out) (Kd.R_base ho0) hb); have n3_ := Aside0.mk (Kd.R_elder' (by (with_reducible repeat (first | apply Kd.R_alloc | apply Kd.R_drewN | apply Kd.R_drew)); exact HO_8.out) (Kd.R_base ho0) hb); have n4_ := Aside0.mk (Kd.R_elder' (by (with_reducible repeat (first | apply Kd.R_alloc | apply Kd.R_drewN | apply Kd.R_drew)); exact HO_9.out) (Kd.R_base ho0) hb); have n5_ := Aside0.mk (Kd.R_lower (Kd.R_new' (Kd.R_new' (Kd.R_new' (Kd.R_new' (Kd.R_new' ho0 (Kd.R_lt (by (with_reducible repeat (first | apply Kd.R_alloc | apply Kd.R_drewN | apply Kd.R_drew)); exact HO_5.out))) (Kd.R_lt (by (with_reducible repeat (first | apply Kd.R_alloc | apply Kd.R_drewN | apply Kd.R_drew)); exact HO_6.out))) (Kd.R_lt (by (with_reducible repeat (first | apply Kd.R_alloc | apply Kd.R_drewN | apply Kd.R_drew)); exact HO_7.out))) (Kd.R_lt (by (with_reducible repeat (first | apply Kd.R_alloc | apply Kd.R_drewN | apply Kd.R_drew)); exact HO_8.out))) (Kd.R_lt (by (with_reducible repeat (first | apply Kd.R_alloc | apply Kd.R_drewN | apply Kd.R_drew)); exact HO_9.out))) (below_size (by repeat (first | (with_reducible first | exact HB.out | apply below_alloc | apply pw_below_drewN | apply below_drew1) | exact HB.out)))); have n6_ := Aside0.mk (below_step (by repeat (first | (with_reducible first | exact HB.out | apply below_alloc | apply pw_below_drewN | apply below_drew1) | exact HB.out)) hb); clear HO_5; clear HO_6; clear HO_7; clear HO_8; clear HO_9; clear HB; have HO_5 := n0_; have HO_6 := n1_; have HO_7 := n2_; have HO_8 := n3_; have HO_9 := n4_; have HO353 := n5_; have HB := n6_; clear n0_ n1_ n2_ n3_ n4_ n5_ n6_; (try clear hb); (try clear hb2); (try clear hk); (try clear hi); (try clear ho0); obtain ⟨Ao89, co89, eo89⟩ := Kd.R_slice HO353.out; subst eo89) | ((with_reducible refine gate_callee (f := 12) rfl ?_); refine goesL_ (some 46) rfl rfl Try.func12 (by kernel_rfl) rfl #[.slice Ao13 t340.length co13, .slice Ao89 t351.length co89] rfl (by (try simp only [List.map_toArray, List.map_cons, List.map_nil]); first | done | rfl) ?_; (with_reducible refine (laws_eqIntS.calls kj7 _ _ t340 _ _ t351 false _ ?side1 ?side2 ?side3 ?side4 A26.out).mono ?_); (case side1 => repeat (first | exact (Kd.R_reads' HO_7.out).2.2 | (with_reducible refine Kd.C_alloc ?_ _) | (with_reducible refine Kd.C_drewN ?_ _) | (with_reducible refine Kd.C_drew ?_))); (case side2 => exact (Kd.R_reads' HO_7.out).2.1); (case side3 => repeat (first | exact (Kd.R_reads' HO353.out).2.2 | (with_reducible refine Kd.C_alloc ?_ _) | (with_reducible refine Kd.C_drewN ?_ _) | (with_reducible refine Kd.C_drew ?_))); (case side4 => exact (Kd.R_reads' HO353.out).2.1); rintro e w' ⟨rfl, ⟨nd, rfl⟩⟩; refine ⟨_, rfl, ?_⟩)); go_ret; exact ⟨by first | rfl | (simp [errW_none, errW_some] <;> rfl) | (simp [*, errW_none, errW_some] <;> rfl), by repeat (first | (with_reducible first | exact HB.out | apply below_alloc | apply pw_below_drewN | apply below_drew1) | exact HB.out)⟩
/-- THE ONE PURE STATEMENT of laws_FnExactLevelsTold: yours. -/
def laws_FnExactLevelsTold.Pure : Prop := ∀ (l0 : List Int) (a1 : Int), l0.length ≤ maxLen → l0.length * 8 ≤ 140737488351232 → (∀ x ∈ l0, (Lit.int .i64 x).wf = true) → (Lit.int .i64 a1).wf = true → ∃ k, laws_FnExactLevelsTold.f k l0 a1 = some true
theorem laws_FnExactLevelsTold.walk (P : laws_FnExactLevelsTold.Pure) (a0 : Option Addr) (len0 cap0 : Nat) (z0 : List Int) (a1 : Int) (w : World) (w0 : (a0 = none ∧ len0 = 0 ∧ cap0 = 0 ∧ z0 = []) ∨ ∃ x, a0 = some x ∧ len0 ≤ cap0 ∧ cap0 ≤ maxLen ∧ z0.length = cap0 ∧ (∀ i, i < z0.length → w.cell? (x.add i) = some (.int .i64 (z0.getD i 0))) ∧ ∀ n ∈ z0, (Lit.int .i64 n).wf = true) (y0 : len0 * 8 ≤ 140737488351232) (w1 : (Lit.int .i64 a1).wf = true) :
  Calls Try.prog 5 #[.slice a0 len0 cap0, .int .i64 a1] w fun e w' => e = .returned (.bool true) ∧ Below w.heap.size w w' := by
 obtain ⟨l0, rfl, hr0, hm0, hw0, hc0⟩ := ReadsInt.ofRowC w0; obtain ⟨k, h⟩ := P l0 a1 hm0 y0 hw0 w1; refine (laws_FnExactLevelsTold.calls k _ _ l0 a1 true w (Kd.C_of_reads (d := (0 : Int)) (h1 := fun _ => rfl) hr0) hc0 h).mono ?_; rintro e w' ⟨rfl, hd⟩; exact ⟨rfl, hd⟩
end Go.Proofs.Ytojehfdioeglgaa.S
/- What a search by halves in an ascending row of reaches finds: the first reach that holds the number. -/
namespace Go.Proofs.Ytojehfdioeglgaa.Pure
open Go.RowKit Go.Proofs.Ytojehfdioeglgaa.S Go.Proofs.YtojehfdioeglgaaW.PrintWords Go.Proofs.YtojehfdioeglgaaW.PrintLast
theorem cmpR_neg {x : S108} {r : Int} (h : x.f0 ≤ x.f1) : cmpR x r < 0 ↔ x.f1 < r := by
  unfold cmpR; split
  · omega
  · split
    · omega
    · split <;> omega
theorem cmpR_zero {x : S108} {r : Int} (h : x.f0 ≤ x.f1) : cmpR x r = 0 ↔ x.f0 ≤ r ∧ r ≤ x.f1 := by
  unfold cmpR; split
  · omega
  · split
    · omega
    · split <;> omega
def inR (r : Int) (x : S108) : Bool := decide (x.f0 ≤ r) && decide (r ≤ x.f1)
theorem inR_iff {r : Int} {x : S108} : inR r x = true ↔ x.f0 ≤ r ∧ r ≤ x.f1 := by simp [inR]
theorem inR_not {r : Int} {x : S108} (h : ¬ (x.f0 ≤ r ∧ r ≤ x.f1)) : inR r x = false := by
  cases e : inR r x
  · rfl
  · exact absurd (inR_iff.1 e) h
/-- The row is ascending, as the search wants it. -/
def ascR : List S108 → Bool
  | [] => true
  | x :: l => decide (x.f0 ≤ x.f1) && l.all (fun y => decide (x.f1 < y.f0)) && ascR l
theorem ascR_le : ∀ {l : List S108}, ascR l = true → ∀ t, t < l.length → (l.getD t z108).f0 ≤ (l.getD t z108).f1
  | x :: l, h, 0, _ => by simp [ascR] at h; simpa using h.1.1
  | x :: l, h, t + 1, ht => by simp [ascR] at h; simpa using ascR_le (l := l) h.2 t (by simpa using ht)
theorem ascR_lt : ∀ {l : List S108}, ascR l = true → ∀ s t, s < t → t < l.length → (l.getD s z108).f1 < (l.getD t z108).f0
  | x :: l, h, 0, t + 1, _, ht => by
    simp [ascR] at h
    have ht' : t < l.length := by simpa using ht
    simpa [List.getD_eq_getElem?_getD, ht'] using h.1.2 (l[t]) (List.getElem_mem ht')
  | x :: l, h, s + 1, t + 1, hst, ht => by simp [ascR] at h; simpa using ascR_lt (l := l) h.2 s t (by omega) (by simpa using ht)
theorem bsR_bounds {l : List S108} {r : Int} (ha : ascR l = true) : ∀ (k lo hi : Nat), hi - lo ≤ k → lo ≤ hi → hi ≤ l.length →
    (∀ t, t < lo → (l.getD t z108).f1 < r) → (∀ t, hi ≤ t → t < l.length → r ≤ (l.getD t z108).f1) →
    bsR l r k lo hi ≤ l.length ∧ (∀ t, t < bsR l r k lo hi → (l.getD t z108).f1 < r) ∧ (∀ t, bsR l r k lo hi ≤ t → t < l.length → r ≤ (l.getD t z108).f1)
  | 0, lo, hi, hk, hlh, hn, h1, h2 => by
    obtain rfl : lo = hi := by omega
    exact ⟨hn, h1, h2⟩
  | k + 1, lo, hi, hk, hlh, hn, h1, h2 => by
    rw [bsR]
    by_cases hlt : lo < hi
    · rw [if_pos hlt]
      have hm : (lo + hi) / 2 < l.length := by omega
      have hle := ascR_le ha _ hm
      by_cases hc : cmpR (l.getD ((lo + hi) / 2) z108) r < 0
      · rw [if_pos hc]
        refine bsR_bounds ha k _ hi (by omega) (by omega) hn (fun t ht => ?_) h2
        have hc' := (cmpR_neg hle).1 hc
        by_cases e : t = (lo + hi) / 2
        · rw [e]; exact hc'
        · have := ascR_lt ha t ((lo + hi) / 2) (by omega) hm
          omega
      · rw [if_neg hc]
        refine bsR_bounds ha k lo _ (by omega) (by omega) (by omega) h1 (fun t ht htn => ?_)
        have hc' : r ≤ (l.getD ((lo + hi) / 2) z108).f1 := by
          have := (cmpR_neg (r := r) hle).2
          omega
        by_cases e : t = (lo + hi) / 2
        · rw [e]; exact hc'
        · have a := ascR_lt ha ((lo + hi) / 2) t (by omega) htn
          have b := ascR_le ha t htn
          omega
    · rw [if_neg hlt]
      obtain rfl : lo = hi := by omega
      exact ⟨hn, h1, h2⟩
theorem find?_at {l : List S108} {p : S108 → Bool} {i : Nat} (hi : i < l.length) (hp : p (l.getD i z108) = true) (hb : ∀ t, t < i → p (l.getD t z108) = false) : l.find? p = some (l.getD i z108) := by
  induction l generalizing i with
  | nil => simp at hi
  | cons x l ih =>
    cases i with
    | zero => simp at hp ⊢; simp [hp]
    | succ i =>
      have h0 : p x = false := by simpa using hb 0 (by omega)
      rw [List.find?_cons, h0]
      simpa using ih (i := i) (by simpa using hi) (by simpa using hp) (fun t ht => by simpa using hb (t + 1) (by omega))
theorem find?_none' {l : List S108} {p : S108 → Bool} (hb : ∀ t, t < l.length → p (l.getD t z108) = false) : l.find? p = none := by
  rw [List.find?_eq_none]
  intro x hx
  obtain ⟨t, ht, rfl⟩ := List.getElem_of_mem hx
  have := hb t ht
  simpa [List.getD_eq_getElem?_getD, ht] using this
theorem findV_eq {l : List S108} (ha : ascR l = true) (r o : Int) : findV l r o = match l.find? (inR r) with | some x => x.f2 | none => o := by
  obtain ⟨hn, h1, h2⟩ := bsR_bounds (r := r) ha l.length 0 l.length (by omega) (by omega) (Nat.le_refl _) (fun t ht => absurd ht (Nat.not_lt_zero _)) (fun t h h' => by omega)
  unfold findV
  generalize bsR l r l.length 0 l.length = i at hn h1 h2
  by_cases hc : i < l.length ∧ cmpR (l.getD i z108) r = 0
  · rw [if_pos hc]
    have hz := (cmpR_zero (ascR_le ha i hc.1)).1 hc.2
    rw [find?_at hc.1 (inR_iff.2 hz) (fun t ht => inR_not (by have := h1 t ht; omega))]
  · rw [if_neg hc]
    rw [find?_none' (fun t ht => ?_)]
    by_cases hlt : t < i
    · have := h1 t hlt; exact inR_not (by omega)
    · have hi : i < l.length := by omega
      have hz : ¬ ((l.getD i z108).f0 ≤ r ∧ r ≤ (l.getD i z108).f1) := fun hh => hc ⟨hi, (cmpR_zero (ascR_le ha i hi)).2 hh⟩
      have hr := h2 i (Nat.le_refl _) hi
      by_cases e : t = i
      · rw [e]; exact inR_not hz
      · have := ascR_lt ha i t (by omega) ht
        exact inR_not (by omega)
end Go.Proofs.Ytojehfdioeglgaa.Pure
/- The direction of a letter, by both texts. -/
namespace Go.Proofs.Ytojehfdioeglgaa.Pure
open Go.RowKit Go.Proofs.Ytojehfdioeglgaa.S Go.Proofs.YtojehfdioeglgaaW.PrintWords Go.Proofs.YtojehfdioeglgaaW.PrintLast
theorem l1In_b (a b c : Int) : spec_l1In.f a b c = some (decide (b ≤ a) && decide (a ≤ c)) := by
  unfold spec_l1In.f
  by_cases h : b ≤ a <;> simp [h]
def moveV (a : Int) : Int := if a = 8234 then 14 else if a = 8235 then 15 else if a = 8236 then 16 else if a = 8237 then 17 else if a = 8238 then 18 else if a = 8294 then 19 else if a = 8295 then 20 else if a = 8296 then 21 else if a = 8297 then 22 else 13
def bidiV (a : Int) : Int := if 97 ≤ a ∧ a ≤ 122 then 1 else if 65 ≤ a ∧ a ≤ 90 then 1 else if 19968 ≤ a ∧ a ≤ 40959 then 1 else if 1488 ≤ a ∧ a ≤ 1514 then 2 else if 1569 ≤ a ∧ a ≤ 1610 then 3 else if 48 ≤ a ∧ a ≤ 57 then 4 else if 1632 ≤ a ∧ a ≤ 1641 then 7
  else if a = 43 then 5 else if a = 45 then 5 else if 35 ≤ a ∧ a ≤ 37 then 6 else if a = 44 then 8 else if a = 46 then 8 else if a = 47 then 8 else if a = 58 then 8 else if 768 ≤ a ∧ a ≤ 879 then 9
  else if a = 8203 then 10 else if a = 8205 then 10 else if a = 173 then 10 else if a = 9 then 11 else if a = 32 then 12 else moveV a
theorem moves_p (k : Nat) (a : Int) : spec_l1Moves.f (k + 10) a = some (moveV a) := by
  by_cases h1 : a = 8234
  · subst h1; simp [spec_l1Moves.f, spec_l1Moves.l0, rd, wrap64, moveV]
  by_cases h2 : a = 8235
  · subst h2; simp [spec_l1Moves.f, spec_l1Moves.l0, rd, wrap64, moveV]
  by_cases h3 : a = 8236
  · subst h3; simp [spec_l1Moves.f, spec_l1Moves.l0, rd, wrap64, moveV]
  by_cases h4 : a = 8237
  · subst h4; simp [spec_l1Moves.f, spec_l1Moves.l0, rd, wrap64, moveV]
  by_cases h5 : a = 8238
  · subst h5; simp [spec_l1Moves.f, spec_l1Moves.l0, rd, wrap64, moveV]
  by_cases h6 : a = 8294
  · subst h6; simp [spec_l1Moves.f, spec_l1Moves.l0, rd, wrap64, moveV]
  by_cases h7 : a = 8295
  · subst h7; simp [spec_l1Moves.f, spec_l1Moves.l0, rd, wrap64, moveV]
  by_cases h8 : a = 8296
  · subst h8; simp [spec_l1Moves.f, spec_l1Moves.l0, rd, wrap64, moveV]
  by_cases h9 : a = 8297
  · subst h9; simp [spec_l1Moves.f, spec_l1Moves.l0, rd, wrap64, moveV]
  have e : moveV a = 13 := by simp [moveV, h1, h2, h3, h4, h5, h6, h7, h8, h9]
  simp [spec_l1Moves.f, spec_l1Moves.l0, rd, wrap64, e, Ne.symm h1, Ne.symm h2, Ne.symm h3, Ne.symm h4, Ne.symm h5, Ne.symm h6, Ne.symm h7, Ne.symm h8, Ne.symm h9]
set_option maxHeartbeats 8000000 in
theorem signs_p (k : Nat) (a : Int) : spec_l1Signs.f (k + 13) a = some (if a = 43 then 5 else if a = 45 then 5 else if 35 ≤ a ∧ a ≤ 37 then 6 else if a = 44 then 8 else if a = 46 then 8 else if a = 47 then 8 else if a = 58 then 8 else if 768 ≤ a ∧ a ≤ 879 then 9
  else if a = 8203 then 10 else if a = 8205 then 10 else if a = 173 then 10 else if a = 9 then 11 else if a = 32 then 12 else moveV a) := by
  simp only [spec_l1Signs.f, spec_l1Signs.j0, spec_l1Signs.j1, spec_l1Signs.j2, l1In_b, Option.bind_some, moves_p]
  grind (splits := 40)
set_option maxHeartbeats 8000000 in
theorem spec_bidi_p (k : Nat) (a : Int) : spec_RuneBidi.f (k + 14) a = some (bidiV a) := by
  simp only [spec_RuneBidi.f, spec_RuneBidi.j0, l1In_b, Option.bind_some, signs_p, bidiV]
  grind (splits := 40)
theorem spec_bidi_k {k : Nat} (h : 14 ≤ k) (a : Int) : spec_RuneBidi.f k a = some (bidiV a) := by
  obtain ⟨k, rfl⟩ : ∃ m, k = m + 14 := ⟨k - 14, by omega⟩
  exact spec_bidi_p k a
theorem find_if {α : Type} (p : α → Bool) (x : α) (l : List α) : (x :: l).find? p = if p x = true then some x else l.find? p := by
  cases h : p x <;> simp [h]
set_option maxHeartbeats 8000000 in
theorem bidi_chain (a : Int) : (if 9 ≤ a ∧ a ≤ 9 then (11 : Int) else if 32 ≤ a ∧ a ≤ 32 then (12 : Int) else if 35 ≤ a ∧ a ≤ 37 then (6 : Int) else if 43 ≤ a ∧ a ≤ 43 then (5 : Int) else if 44 ≤ a ∧ a ≤ 44 then (8 : Int) else if 45 ≤ a ∧ a ≤ 45 then (5 : Int) else if 46 ≤ a ∧ a ≤ 47 then (8 : Int) else if 48 ≤ a ∧ a ≤ 57 then (4 : Int) else if 58 ≤ a ∧ a ≤ 58 then (8 : Int) else if 65 ≤ a ∧ a ≤ 90 then (1 : Int) else if 97 ≤ a ∧ a ≤ 122 then (1 : Int) else if 173 ≤ a ∧ a ≤ 173 then (10 : Int) else if 768 ≤ a ∧ a ≤ 879 then (9 : Int) else if 1488 ≤ a ∧ a ≤ 1514 then (2 : Int) else if 1569 ≤ a ∧ a ≤ 1610 then (3 : Int) else if 1632 ≤ a ∧ a ≤ 1641 then (7 : Int) else if 8203 ≤ a ∧ a ≤ 8203 then (10 : Int) else if 8205 ≤ a ∧ a ≤ 8205 then (10 : Int) else if 8234 ≤ a ∧ a ≤ 8234 then (14 : Int) else if 8235 ≤ a ∧ a ≤ 8235 then (15 : Int) else if 8236 ≤ a ∧ a ≤ 8236 then (16 : Int) else if 8237 ≤ a ∧ a ≤ 8237 then (17 : Int) else if 8238 ≤ a ∧ a ≤ 8238 then (18 : Int) else if 8294 ≤ a ∧ a ≤ 8294 then (19 : Int) else if 8295 ≤ a ∧ a ≤ 8295 then (20 : Int) else if 8296 ≤ a ∧ a ≤ 8296 then (21 : Int) else if 8297 ≤ a ∧ a ≤ 8297 then (22 : Int) else if 19968 ≤ a ∧ a ≤ 40959 then (1 : Int) else 13) = bidiV a := by
  unfold bidiV moveV
  by_cases h0 : a < 9
  · (repeat (first | rw [if_pos (by omega)] | rw [if_neg (by omega)])) <;> try rfl
  by_cases h1 : a < 10
  · (repeat (first | rw [if_pos (by omega)] | rw [if_neg (by omega)])) <;> try rfl
  clear h0
  by_cases h2 : a < 32
  · (repeat (first | rw [if_pos (by omega)] | rw [if_neg (by omega)])) <;> try rfl
  clear h1
  by_cases h3 : a < 33
  · (repeat (first | rw [if_pos (by omega)] | rw [if_neg (by omega)])) <;> try rfl
  clear h2
  by_cases h4 : a < 35
  · (repeat (first | rw [if_pos (by omega)] | rw [if_neg (by omega)])) <;> try rfl
  clear h3
  by_cases h5 : a < 38
  · (repeat (first | rw [if_pos (by omega)] | rw [if_neg (by omega)])) <;> try rfl
  clear h4
  by_cases h6 : a < 43
  · (repeat (first | rw [if_pos (by omega)] | rw [if_neg (by omega)])) <;> try rfl
  clear h5
  by_cases h7 : a < 44
  · (repeat (first | rw [if_pos (by omega)] | rw [if_neg (by omega)])) <;> try rfl
  clear h6
  by_cases h8 : a < 45
  · (repeat (first | rw [if_pos (by omega)] | rw [if_neg (by omega)])) <;> try rfl
  clear h7
  by_cases h9 : a < 46
  · (repeat (first | rw [if_pos (by omega)] | rw [if_neg (by omega)])) <;> try rfl
  clear h8
  by_cases h90 : a < 47
  · (repeat (first | rw [if_pos (by omega)] | rw [if_neg (by omega)])) <;> try rfl
  clear h9
  by_cases h10 : a < 48
  · (repeat (first | rw [if_pos (by omega)] | rw [if_neg (by omega)])) <;> try rfl
  clear h90
  by_cases h11 : a < 58
  · (repeat (first | rw [if_pos (by omega)] | rw [if_neg (by omega)])) <;> try rfl
  clear h10
  by_cases h12 : a < 59
  · (repeat (first | rw [if_pos (by omega)] | rw [if_neg (by omega)])) <;> try rfl
  clear h11
  by_cases h13 : a < 65
  · (repeat (first | rw [if_pos (by omega)] | rw [if_neg (by omega)])) <;> try rfl
  clear h12
  by_cases h14 : a < 91
  · (repeat (first | rw [if_pos (by omega)] | rw [if_neg (by omega)])) <;> try rfl
  clear h13
  by_cases h15 : a < 97
  · (repeat (first | rw [if_pos (by omega)] | rw [if_neg (by omega)])) <;> try rfl
  clear h14
  by_cases h16 : a < 123
  · (repeat (first | rw [if_pos (by omega)] | rw [if_neg (by omega)])) <;> try rfl
  clear h15
  by_cases h17 : a < 173
  · (repeat (first | rw [if_pos (by omega)] | rw [if_neg (by omega)])) <;> try rfl
  clear h16
  by_cases h18 : a < 174
  · (repeat (first | rw [if_pos (by omega)] | rw [if_neg (by omega)])) <;> try rfl
  clear h17
  by_cases h19 : a < 768
  · (repeat (first | rw [if_pos (by omega)] | rw [if_neg (by omega)])) <;> try rfl
  clear h18
  by_cases h20 : a < 880
  · (repeat (first | rw [if_pos (by omega)] | rw [if_neg (by omega)])) <;> try rfl
  clear h19
  by_cases h21 : a < 1488
  · (repeat (first | rw [if_pos (by omega)] | rw [if_neg (by omega)])) <;> try rfl
  clear h20
  by_cases h22 : a < 1515
  · (repeat (first | rw [if_pos (by omega)] | rw [if_neg (by omega)])) <;> try rfl
  clear h21
  by_cases h23 : a < 1569
  · (repeat (first | rw [if_pos (by omega)] | rw [if_neg (by omega)])) <;> try rfl
  clear h22
  by_cases h24 : a < 1611
  · (repeat (first | rw [if_pos (by omega)] | rw [if_neg (by omega)])) <;> try rfl
  clear h23
  by_cases h25 : a < 1632
  · (repeat (first | rw [if_pos (by omega)] | rw [if_neg (by omega)])) <;> try rfl
  clear h24
  by_cases h26 : a < 1642
  · (repeat (first | rw [if_pos (by omega)] | rw [if_neg (by omega)])) <;> try rfl
  clear h25
  by_cases h27 : a < 8203
  · (repeat (first | rw [if_pos (by omega)] | rw [if_neg (by omega)])) <;> try rfl
  clear h26
  by_cases h28 : a < 8204
  · (repeat (first | rw [if_pos (by omega)] | rw [if_neg (by omega)])) <;> try rfl
  clear h27
  by_cases h29 : a < 8205
  · (repeat (first | rw [if_pos (by omega)] | rw [if_neg (by omega)])) <;> try rfl
  clear h28
  by_cases h30 : a < 8206
  · (repeat (first | rw [if_pos (by omega)] | rw [if_neg (by omega)])) <;> try rfl
  clear h29
  by_cases h31 : a < 8234
  · (repeat (first | rw [if_pos (by omega)] | rw [if_neg (by omega)])) <;> try rfl
  clear h30
  by_cases h32 : a < 8235
  · (repeat (first | rw [if_pos (by omega)] | rw [if_neg (by omega)])) <;> try rfl
  clear h31
  by_cases h33 : a < 8236
  · (repeat (first | rw [if_pos (by omega)] | rw [if_neg (by omega)])) <;> try rfl
  clear h32
  by_cases h34 : a < 8237
  · (repeat (first | rw [if_pos (by omega)] | rw [if_neg (by omega)])) <;> try rfl
  clear h33
  by_cases h35 : a < 8238
  · (repeat (first | rw [if_pos (by omega)] | rw [if_neg (by omega)])) <;> try rfl
  clear h34
  by_cases h36 : a < 8239
  · (repeat (first | rw [if_pos (by omega)] | rw [if_neg (by omega)])) <;> try rfl
  clear h35
  by_cases h37 : a < 8294
  · (repeat (first | rw [if_pos (by omega)] | rw [if_neg (by omega)])) <;> try rfl
  clear h36
  by_cases h38 : a < 8295
  · (repeat (first | rw [if_pos (by omega)] | rw [if_neg (by omega)])) <;> try rfl
  clear h37
  by_cases h39 : a < 8296
  · (repeat (first | rw [if_pos (by omega)] | rw [if_neg (by omega)])) <;> try rfl
  clear h38
  by_cases h40 : a < 8297
  · (repeat (first | rw [if_pos (by omega)] | rw [if_neg (by omega)])) <;> try rfl
  clear h39
  by_cases h41 : a < 8298
  · (repeat (first | rw [if_pos (by omega)] | rw [if_neg (by omega)])) <;> try rfl
  clear h40
  by_cases h42 : a < 19968
  · (repeat (first | rw [if_pos (by omega)] | rw [if_neg (by omega)])) <;> try rfl
  clear h41
  by_cases h43 : a < 40960
  · (repeat (first | rw [if_pos (by omega)] | rw [if_neg (by omega)])) <;> try rfl
  clear h42
  (repeat (first | rw [if_pos (by omega)] | rw [if_neg (by omega)])) <;> try rfl
set_option maxHeartbeats 8000000 in
theorem impl_bidi_p (a : Int) : impl_RuneBidi.f a = some (bidiV a) := by
  unfold impl_RuneBidi.f impl_bidiReaches.f impl_find.f
  rw [Option.bind_some, if_pos (by decide), findV_eq (by decide), ← bidi_chain]
  simp only [Option.bind_some, find_if, List.find?_nil, inR_iff]
  congr 1
  by_cases h : 9 ≤ a ∧ a ≤ 9
  · simp only [if_pos h]
  simp only [if_neg h]; clear h
  by_cases h : 32 ≤ a ∧ a ≤ 32
  · simp only [if_pos h]
  simp only [if_neg h]; clear h
  by_cases h : 35 ≤ a ∧ a ≤ 37
  · simp only [if_pos h]
  simp only [if_neg h]; clear h
  by_cases h : 43 ≤ a ∧ a ≤ 43
  · simp only [if_pos h]
  simp only [if_neg h]; clear h
  by_cases h : 44 ≤ a ∧ a ≤ 44
  · simp only [if_pos h]
  simp only [if_neg h]; clear h
  by_cases h : 45 ≤ a ∧ a ≤ 45
  · simp only [if_pos h]
  simp only [if_neg h]; clear h
  by_cases h : 46 ≤ a ∧ a ≤ 47
  · simp only [if_pos h]
  simp only [if_neg h]; clear h
  by_cases h : 48 ≤ a ∧ a ≤ 57
  · simp only [if_pos h]
  simp only [if_neg h]; clear h
  by_cases h : 58 ≤ a ∧ a ≤ 58
  · simp only [if_pos h]
  simp only [if_neg h]; clear h
  by_cases h : 65 ≤ a ∧ a ≤ 90
  · simp only [if_pos h]
  simp only [if_neg h]; clear h
  by_cases h : 97 ≤ a ∧ a ≤ 122
  · simp only [if_pos h]
  simp only [if_neg h]; clear h
  by_cases h : 173 ≤ a ∧ a ≤ 173
  · simp only [if_pos h]
  simp only [if_neg h]; clear h
  by_cases h : 768 ≤ a ∧ a ≤ 879
  · simp only [if_pos h]
  simp only [if_neg h]; clear h
  by_cases h : 1488 ≤ a ∧ a ≤ 1514
  · simp only [if_pos h]
  simp only [if_neg h]; clear h
  by_cases h : 1569 ≤ a ∧ a ≤ 1610
  · simp only [if_pos h]
  simp only [if_neg h]; clear h
  by_cases h : 1632 ≤ a ∧ a ≤ 1641
  · simp only [if_pos h]
  simp only [if_neg h]; clear h
  by_cases h : 8203 ≤ a ∧ a ≤ 8203
  · simp only [if_pos h]
  simp only [if_neg h]; clear h
  by_cases h : 8205 ≤ a ∧ a ≤ 8205
  · simp only [if_pos h]
  simp only [if_neg h]; clear h
  by_cases h : 8234 ≤ a ∧ a ≤ 8234
  · simp only [if_pos h]
  simp only [if_neg h]; clear h
  by_cases h : 8235 ≤ a ∧ a ≤ 8235
  · simp only [if_pos h]
  simp only [if_neg h]; clear h
  by_cases h : 8236 ≤ a ∧ a ≤ 8236
  · simp only [if_pos h]
  simp only [if_neg h]; clear h
  by_cases h : 8237 ≤ a ∧ a ≤ 8237
  · simp only [if_pos h]
  simp only [if_neg h]; clear h
  by_cases h : 8238 ≤ a ∧ a ≤ 8238
  · simp only [if_pos h]
  simp only [if_neg h]; clear h
  by_cases h : 8294 ≤ a ∧ a ≤ 8294
  · simp only [if_pos h]
  simp only [if_neg h]; clear h
  by_cases h : 8295 ≤ a ∧ a ≤ 8295
  · simp only [if_pos h]
  simp only [if_neg h]; clear h
  by_cases h : 8296 ≤ a ∧ a ≤ 8296
  · simp only [if_pos h]
  simp only [if_neg h]; clear h
  by_cases h : 8297 ≤ a ∧ a ≤ 8297
  · simp only [if_pos h]
  simp only [if_neg h]; clear h
  by_cases h : 19968 ≤ a ∧ a ≤ 40959
  · simp only [if_pos h]
  simp only [if_neg h]
end Go.Proofs.Ytojehfdioeglgaa.Pure
/- What ends that which is read by itself: the reference looks for it letter by letter, the program keeps it in two maps. -/
namespace Go.Proofs.Ytojehfdioeglgaa.Pure
open Go.RowKit Go.Proofs.Ytojehfdioeglgaa.S Go.Proofs.YtojehfdioeglgaaW.PrintWords Go.Proofs.YtojehfdioeglgaaW.PrintLast
def stepD (c : Int) (d : Int) : Int := (if opensB c = true then d + 1 else d) - (if c = 22 then 1 else 0)
/-- The place of what ends that which begins at a place, from a place on, so deep; the length, if nothing does. -/
def scanM (cls : List Int) : Nat → Nat → Int → Nat
  | 0, _, _ => cls.length
  | g + 1, i, d => if stepD (cls.getD i 0) d = 0 then i else scanM cls g (i + 1) (stepD (cls.getD i 0) d)
theorem scanM_step {cls : List Int} {i : Nat} (hi : i < cls.length) (d : Int) : scanM cls (cls.length - i) i d = if stepD (cls.getD i 0) d = 0 then i else scanM cls (cls.length - (i + 1)) (i + 1) (stepD (cls.getD i 0) d) := by
  rw [show cls.length - i = (cls.length - (i + 1)) + 1 by omega, scanM]
theorem opens_not22 {c : Int} (h : opensB c = true) : c ≠ 22 := by
  intro e
  subst e
  revert h
  decide
theorem getD_snoc (l : List Int) (x : Int) (q : Nat) : (l ++ [x]).getD q 0 = if q < l.length then l.getD q 0 else if q = l.length then x else 0 := by
  rw [List.getD_eq_getElem?_getD, List.getD_eq_getElem?_getD, List.getElem?_append]
  split
  · rfl
  · by_cases h : q = l.length
    · subst h; simp
    · rw [if_neg h, List.getElem?_eq_none (by simp; omega)]; rfl
theorem getD_take (l : List Int) (n q : Nat) (h : q < n) : (l.take n).getD q 0 = l.getD q 0 := by
  rw [List.getD_eq_getElem?_getD, List.getD_eq_getElem?_getD, List.getElem?_take_of_lt h]
def MateI (cls : List Int) (j : Nat) (s : PaS) : Prop :=
  (∀ q, q < s.op.length → ∃ p : Nat, s.op.getD q 0 = p ∧ p < j ∧ opensB (cls.getD p 0) = true ∧ s.mt p = none ∧ scanM cls (cls.length - p) p 0 = scanM cls (cls.length - j) j ((s.op.length : Int) - q)) ∧
  (∀ q q', q < q' → q' < s.op.length → s.op.getD q 0 < s.op.getD q' 0) ∧
  (∀ x m, s.mt x = some m → ∃ p m' : Nat, x = p ∧ m = m' ∧ p < m' ∧ m' < j ∧ opensB (cls.getD p 0) = true ∧ cls.getD m' 0 = 22 ∧ scanM cls (cls.length - p) p 0 = m') ∧
  (∀ p : Nat, p < j → opensB (cls.getD p 0) = true → (∃ q, q < s.op.length ∧ s.op.getD q 0 = p) ∨ ∃ m, s.mt p = some m) ∧
  (∀ x y, s.cd y = some x ↔ s.mt x = some y)
theorem mateI_step {cls : List Int} {j : Nat} {s : PaS} (h : MateI cls j s) (hj : j < cls.length) : MateI cls (j + 1) (paraStep (cls.getD j 0) j s) := by
  obtain ⟨h1, h2, h3, h4, h5⟩ := h
  have hjn : s.mt j = none := by
    cases e : s.mt j with
    | none => rfl
    | some m =>
      obtain ⟨p, m', e1, e2, e3, e4, _⟩ := h3 _ _ e
      omega
  unfold paraStep
  cases ho : opensB (cls.getD j 0) with
  | true =>
    have hn := opens_not22 ho
    have st : ∀ d : Int, stepD (cls.getD j 0) d = d + 1 := fun d => by unfold stepD; rw [if_pos ho, if_neg hn]; omega
    rw [if_pos rfl]
    refine ⟨fun q hq => ?_, fun q q' hqq hq => ?_, fun x m hm => ?_, fun p hp hop => ?_, h5⟩
    · simp only [List.length_append, List.length_cons, List.length_nil] at hq ⊢
      by_cases hql : q < s.op.length
      · obtain ⟨p, e1, e2, e3, e4, e5⟩ := h1 q hql
        refine ⟨p, by rw [getD_snoc, if_pos hql, e1], by omega, e3, e4, ?_⟩
        rw [e5, scanM_step hj, st, if_neg (by omega)]
        congr 1
        omega
      · refine ⟨j, by rw [getD_snoc, if_neg hql, if_pos (by omega)], by omega, ho, hjn, ?_⟩
        rw [scanM_step hj, st, if_neg (by omega)]
        congr 1
        omega
    · simp only [List.length_append, List.length_cons, List.length_nil] at hq
      simp only
      rw [getD_snoc, getD_snoc, if_pos (by omega)]
      by_cases hql : q' < s.op.length
      · rw [if_pos hql]; exact h2 q q' hqq hql
      · rw [if_neg hql, if_pos (by omega)]
        obtain ⟨p, e1, e2, _⟩ := h1 q (by omega)
        omega
    · obtain ⟨p, m', e1, e2, e3, e4, e5⟩ := h3 x m hm
      exact ⟨p, m', e1, e2, e3, by omega, e5⟩
    · by_cases e : p = j
      · subst e
        exact .inl ⟨s.op.length, by simp, by simp only; rw [getD_snoc, if_neg (by omega), if_pos rfl]⟩
      · rcases h4 p (by omega) hop with ⟨q, q1, q2⟩ | h
        · exact .inl ⟨q, by simp; omega, by simp only; rw [getD_snoc, if_pos q1, q2]⟩
        · exact .inr h
  | false =>
    rw [if_neg (by decide)]
    by_cases hc : cls.getD j 0 = 22 ∧ s.op ≠ []
    · rw [if_pos hc]
      have hl : 0 < s.op.length := List.length_pos_iff.mpr hc.2
      have st : ∀ d : Int, stepD (cls.getD j 0) d = d - 1 := fun d => by unfold stepD; rw [ho, if_neg (by decide), if_pos hc.1]
      obtain ⟨p0, a1, a2, a3, a4, a5⟩ := h1 (s.op.length - 1) (by omega)
      rw [scanM_step hj, st, if_pos (by omega)] at a5
      have hne : ∀ q, q < s.op.length - 1 → s.op.getD q 0 ≠ p0 := fun q hq => by
        have := h2 q (s.op.length - 1) hq (by omega)
        omega
      refine ⟨fun q hq => ?_, fun q q' hqq hq => ?_, fun x m hm => ?_, fun p hp hop => ?_, fun x y => ?_⟩
      · simp only [List.length_take] at hq ⊢
        obtain ⟨p, e1, e2, e3, e4, e5⟩ := h1 q (by omega)
        refine ⟨p, by rw [getD_take _ _ _ (by omega), e1], by omega, e3, ?_, ?_⟩
        · have := hne q (by omega)
          rw [updI, a1, if_neg (by omega), e4]
        · rw [e5, scanM_step hj, st, if_neg (by omega)]
          congr 1
          omega
      · simp only [List.length_take] at hq ⊢
        rw [getD_take _ _ _ (by omega), getD_take _ _ _ (by omega)]
        exact h2 q q' hqq (by omega)
      · simp only [updI] at hm
        split at hm
        · rename_i e
          have hm' := Option.some.inj hm
          exact ⟨p0, j, by omega, by omega, by omega, by omega, a3, hc.1, a5⟩
        · obtain ⟨p, m', e1, e2, e3, e4, e5⟩ := h3 x m hm
          exact ⟨p, m', e1, e2, e3, by omega, e5⟩
      · by_cases e : p = j
        · subst e
          rw [ho] at hop
          cases hop
        · by_cases e2 : p = p0
          · subst e2
            exact .inr ⟨j, by simp only [updI, a1, if_true]⟩
          · rcases h4 p (by omega) hop with ⟨q, q1, q2⟩ | ⟨m, h⟩
            · have hq : q ≠ s.op.length - 1 := by
                intro e3
                subst e3
                omega
              exact .inl ⟨q, by simp only [List.length_take]; omega, by simp only; rw [getD_take _ _ _ (by omega), q2]⟩
            · exact .inr ⟨m, by simp only [updI, a1]; rw [if_neg (by omega), h]⟩
      · simp only [updI, a1]
        by_cases ex : x = p0
        · subst ex
          rw [if_pos rfl]
          by_cases ey : y = j
          · subst ey
            rw [if_pos rfl]
            exact ⟨fun _ => rfl, fun _ => rfl⟩
          · rw [if_neg ey, h5, a4]
            constructor
            · intro h; cases h
            · intro h; exact absurd (Option.some.inj h).symm ey
        · rw [if_neg ex]
          by_cases ey : y = j
          · subst ey
            rw [if_pos rfl]
            constructor
            · intro h; exact absurd (Option.some.inj h).symm ex
            · intro h
              obtain ⟨p, m', e1, e2, e3, e4, e5⟩ := h3 _ _ h
              omega
          · rw [if_neg ey]; exact h5 x y
    · rw [if_neg hc]
      refine ⟨fun q hq => ?_, h2, fun x m hm => ?_, fun p hp hop => ?_, h5⟩
      · have hl : s.op ≠ [] := fun e => by rw [e] at hq; exact absurd hq (by simp)
        have h22 : cls.getD j 0 ≠ 22 := fun e => hc ⟨e, hl⟩
        have st : ∀ d : Int, stepD (cls.getD j 0) d = d := fun d => by unfold stepD; rw [ho, if_neg (by decide), if_neg h22]; omega
        obtain ⟨p, e1, e2, e3, e4, e5⟩ := h1 q hq
        refine ⟨p, e1, by omega, e3, e4, ?_⟩
        rw [e5, scanM_step hj, st, if_neg (by omega)]
      · obtain ⟨p, m', e1, e2, e3, e4, e5⟩ := h3 x m hm
        exact ⟨p, m', e1, e2, e3, by omega, e5⟩
      · by_cases e : p = j
        · subst e
          rw [ho] at hop
          cases hop
        · exact h4 p (by omega) hop
theorem mateI_all (cls : List Int) : ∀ j, j ≤ cls.length → MateI cls j (paraS cls j)
  | 0, _ => ⟨fun q hq => absurd hq (by simp [paraS]), fun q q' _ hq => absurd hq (by simp [paraS]), fun x m hm => by simp [paraS] at hm, fun p hp => absurd hp (by omega), fun x y => by simp [paraS]⟩
  | j + 1, h => mateI_step (mateI_all cls j (by omega)) (by omega)
/-- The mate of a place. -/
def mtC (cls : List Int) : Int → Option Int := (paraS cls cls.length).mt
def cdC (cls : List Int) : Int → Option Int := (paraS cls cls.length).cd
theorem mt_scan {cls : List Int} {p : Nat} (hp : p < cls.length) (ho : opensB (cls.getD p 0) = true) : scanM cls (cls.length - p) p 0 = endP cls (mtC cls) p := by
  obtain ⟨h1, h2, h3, h4, h5⟩ := mateI_all cls cls.length (Nat.le_refl _)
  unfold endP mtC
  rcases h4 p hp ho with ⟨q, q1, q2⟩ | ⟨m, h⟩
  · obtain ⟨p', e1, e2, e3, e4, e5⟩ := h1 q q1
    obtain rfl : p' = p := by omega
    rw [e4, e5, Nat.sub_self, scanM]
  · obtain ⟨p', m', e1, e2, e3, e4, e5, e6, e7⟩ := h3 _ _ h
    obtain rfl : p' = p := by omega
    rw [h, e7]
    subst e2
    simp
theorem mt_inv {cls : List Int} {x m : Int} (h : mtC cls x = some m) : ∃ p m' : Nat, x = p ∧ m = m' ∧ p < m' ∧ m' < cls.length ∧ opensB (cls.getD p 0) = true ∧ cls.getD m' 0 = 22 ∧ scanM cls (cls.length - p) p 0 = m' :=
  (mateI_all cls cls.length (Nat.le_refl _)).2.2.1 _ _ h
theorem cd_mt {cls : List Int} (x y : Int) : cdC cls y = some x ↔ mtC cls x = some y := (mateI_all cls cls.length (Nat.le_refl _)).2.2.2.2 x y
end Go.Proofs.Ytojehfdioeglgaa.Pure
/- What the laws' own helpers answer: a copy, equality, a row written with 1, 2, 3 .., and whether it still holds that. -/
namespace Go.Proofs.Ytojehfdioeglgaa.Pure
open Go.RowKit Go.Proofs.Ytojehfdioeglgaa.S Go.Proofs.YtojehfdioeglgaaW.PrintWords Go.Proofs.YtojehfdioeglgaaW.PrintLast
theorem w64 {x : Int} (h0 : -9223372036854775808 ≤ x) (h1 : x ≤ 9223372036854775807) : wrap64 x = x := by
  unfold wrap64; omega
theorem rd_nat (l : List Int) (i : Nat) : rd l (i : Int) = l.getD i 0 := by simp [rd]
theorem rd_get {l : List Int} {i : Nat} (h : i < l.length) : rd l (i : Int) = l[i] := by simp [rd, List.getD_eq_getElem?_getD, h]
theorem copy_l (l : List Int) (hn : l.length ≤ 1099511627776) : ∀ (d k i : Nat), l.length - i = d → i ≤ l.length → d < k →
    laws_toIntS.l0 k l (l.take i ++ List.replicate (l.length - i) 0) (i : Int) = some l
  | 0, k, i, hd, hi, hk => by
    obtain ⟨k, rfl⟩ : ∃ m, k = m + 1 := ⟨k - 1, by omega⟩
    have e : i = l.length := by omega
    subst e
    rw [laws_toIntS.l0, if_neg (by omega)]
    simp
  | d + 1, k, i, hd, hi, hk => by
    obtain ⟨k, rfl⟩ : ∃ m, k = m + 1 := ⟨k - 1, by omega⟩
    have hlt : i < l.length := by omega
    rw [laws_toIntS.l0, if_pos (by omega), if_pos (by omega), if_pos (by simp; omega), w64 (by omega) (by omega)]
    have e : (l.take i ++ List.replicate (l.length - i) 0).set (i : Int).toNat (rd l i) = l.take (i + 1) ++ List.replicate (l.length - (i + 1)) 0 := by
      rw [Int.toNat_natCast, rd_get hlt, List.set_append_right _ _ (by simp; omega)]
      have h1 : i - (l.take i).length = 0 := by simp; omega
      rw [h1, show l.length - i = (l.length - (i + 1)) + 1 by omega, List.replicate_succ, List.set_cons_zero, List.take_succ_eq_append_getElem hlt, List.append_assoc]
      rfl
    rw [e]
    exact copy_l l hn d k (i + 1) (by omega) (by omega) (by omega)
theorem copy_p {l : List Int} {k : Nat} (hn : l.length ≤ 1099511627776) (hk : l.length < k) : laws_toIntS.f k l = some l := by
  unfold laws_toIntS.f
  rw [if_pos (by omega), if_pos (by omega)]
  simpa using copy_l l hn l.length k 0 (by omega) (by omega) hk
theorem eq_l (a b : List Int) (hab : a.length = b.length) (hn : a.length ≤ 1099511627776) : ∀ (d k i : Nat), a.length - i = d → i ≤ a.length → d < k →
    laws_eqIntS.l0 k a b (i : Int) = some (decide (a.drop i = b.drop i))
  | 0, k, i, hd, hi, hk => by
    obtain ⟨k, rfl⟩ : ∃ m, k = m + 1 := ⟨k - 1, by omega⟩
    have e : i = a.length := by omega
    subst e
    rw [laws_eqIntS.l0, if_neg (by omega), List.drop_length, hab, List.drop_length]
    simp
  | d + 1, k, i, hd, hi, hk => by
    obtain ⟨k, rfl⟩ : ∃ m, k = m + 1 := ⟨k - 1, by omega⟩
    have hlt : i < a.length := by omega
    have hlb : i < b.length := by omega
    rw [laws_eqIntS.l0, if_pos (by omega), if_pos (by omega), if_pos (by omega), w64 (by omega) (by omega), rd_get hlt, rd_get hlb, List.drop_eq_getElem_cons hlt, List.drop_eq_getElem_cons hlb]
    have := eq_l a b hab hn d k (i + 1) (by omega) (by omega) (by omega)
    rw [show ((i : Int) + 1) = ((i + 1 : Nat) : Int) by omega, this]
    by_cases h : a[i] = b[i]
    · rw [if_pos h, h]
      simp only [List.cons.injEq, true_and]
    · rw [if_neg h]
      simp only [List.cons.injEq, h, false_and, decide_false]
theorem eq_p {a b : List Int} {k : Nat} (hn : a.length ≤ 1099511627776) (hk : a.length < k) : laws_eqIntS.f k a b = some (decide (a = b)) := by
  unfold laws_eqIntS.f
  by_cases hab : a.length = b.length
  · rw [if_pos (by omega)]
    simpa using eq_l a b hab hn a.length k 0 (by omega) (by omega) hk
  · rw [if_neg (by omega)]
    simp only [Option.some.injEq]
    exact (decide_eq_false (fun h => hab (by rw [h]))).symm
/-- a, a + 1, .. : n of them. -/
def iota (a : Int) : Nat → List Int
  | 0 => []
  | n + 1 => a :: iota (a + 1) n
theorem iota_length : ∀ (n : Nat) (a : Int), (iota a n).length = n
  | 0, _ => rfl
  | n + 1, a => by simp [iota, iota_length n]
theorem mark_l : ∀ (d k i : Nat) (l : List Int) (a : Int), l.length ≤ 1099511627776 → -1099511627776 ≤ a → a ≤ 1099511627776 * 4 → a + d ≤ 1099511627776 * 4 → l.length - i = d → i ≤ l.length → d < k →
    laws_markIntS.l0 k l a (i : Int) = some (a + d, l.take i ++ iota a d)
  | 0, k, i, l, a, hn, h0, h1, h2, hd, hi, hk => by
    obtain ⟨k, rfl⟩ : ∃ m, k = m + 1 := ⟨k - 1, by omega⟩
    have e : i = l.length := by omega
    subst e
    rw [laws_markIntS.l0, if_neg (by omega)]
    simp [iota]
  | d + 1, k, i, l, a, hn, h0, h1, h2, hd, hi, hk => by
    obtain ⟨k, rfl⟩ : ∃ m, k = m + 1 := ⟨k - 1, by omega⟩
    have hlt : i < l.length := by omega
    rw [laws_markIntS.l0, if_pos (by omega), if_pos (by omega), w64 (x := (i : Int) + 1) (by omega) (by omega), w64 (by omega) (by omega), Int.toNat_natCast]
    have := mark_l d k (i + 1) (l.set i a) (a + 1) (by simpa using hn) (by omega) (by omega) (by omega) (by simp; omega) (by simp; omega) (by omega)
    rw [show ((i : Int) + 1) = ((i + 1 : Nat) : Int) by omega, this]
    simp only [Option.some.injEq, Prod.mk.injEq, iota]
    refine ⟨by omega, ?_⟩
    rw [List.take_succ_eq_append_getElem (by simpa using hlt)]
    simp [List.take_set_of_le]
theorem mark_p {l : List Int} {a : Int} {k : Nat} (hn : l.length ≤ 1099511627776) (h0 : -1099511627776 ≤ a) (h1 : a ≤ 1099511627776) (hk : l.length < k) : laws_markIntS.f k l a = some (a + l.length, iota a l.length) := by
  unfold laws_markIntS.f
  simpa using mark_l l.length k 0 l a hn h0 (by omega) (by omega) (by omega) (by omega) hk
theorem held_l : ∀ (d k i : Nat) (l : List Int) (a : Int), l.length ≤ 1099511627776 → -1099511627776 ≤ a → a + d ≤ 1099511627776 * 4 → l.length - i = d → i ≤ l.length → d < k → l.drop i = iota a d →
    laws_heldIntS.l0 k l a (i : Int) = some (a + d)
  | 0, k, i, l, a, hn, h0, h2, hd, hi, hk, he => by
    obtain ⟨k, rfl⟩ : ∃ m, k = m + 1 := ⟨k - 1, by omega⟩
    rw [laws_heldIntS.l0, if_neg (by omega)]
    simp
  | d + 1, k, i, l, a, hn, h0, h2, hd, hi, hk, he => by
    obtain ⟨k, rfl⟩ : ∃ m, k = m + 1 := ⟨k - 1, by omega⟩
    have hlt : i < l.length := by omega
    rw [List.drop_eq_getElem_cons hlt, iota] at he
    obtain ⟨e1, e2⟩ := List.cons.inj he
    rw [laws_heldIntS.l0, if_pos (by omega), if_pos (by omega), rd_get hlt, if_pos e1, w64 (x := (i : Int) + 1) (by omega) (by omega), w64 (by omega) (by omega)]
    have := held_l d k (i + 1) l (a + 1) hn (by omega) (by omega) (by omega) (by omega) (by omega) e2
    rw [show ((i : Int) + 1) = ((i + 1 : Nat) : Int) by omega, this]
    congr 1; omega
theorem held_p {n : Nat} {a : Int} {k : Nat} (hn : n ≤ 1099511627776) (h0 : -1099511627776 ≤ a) (h1 : a ≤ 1099511627776) (hk : n < k) : laws_heldIntS.f k (iota a n) a = some (a + n) := by
  unfold laws_heldIntS.f
  have hl := iota_length n a
  simpa using held_l n k 0 (iota a n) a (by omega) h0 (by omega) (by omega) (by omega) hk rfl
end Go.Proofs.Ytojehfdioeglgaa.Pure
/- Letters that are ok, by both texts. -/
namespace Go.Proofs.Ytojehfdioeglgaa.Pure
open Go.RowKit Go.Proofs.Ytojehfdioeglgaa.S Go.Proofs.YtojehfdioeglgaaW.PrintWords Go.Proofs.YtojehfdioeglgaaW.PrintLast
theorem l1In_p (a b c : Int) : spec_l1In.f a b c = some (decide (b ≤ a) && decide (a ≤ c)) := by
  unfold spec_l1In.f
  by_cases h : b ≤ a <;> simp [h]
def sizeV (a : Int) : Int := if 0 ≤ a ∧ a ≤ 127 then 1 else if 128 ≤ a ∧ a ≤ 2047 then 2 else if 55296 ≤ a ∧ a ≤ 57343 then 0 else if 2048 ≤ a ∧ a ≤ 65535 then 3 else if 65536 ≤ a ∧ a ≤ 1114111 then 4 else 0
theorem size_f (a : Int) : spec_l1Size.f a = some (sizeV a) := by
  simp only [spec_l1Size.f, l1In_p, Option.bind_some, sizeV]
  grind
theorem size_let (a : Int) : sizeV a = 0 ↔ isLetV a = false := by
  simp only [isLetV, sizeV]
  grind
theorem size_p (a : Int) : ∃ s, spec_l1Size.f a = some s ∧ (s = 0 ↔ isLetV a = false) := ⟨_, size_f a, size_let a⟩
theorem ok_l (l : List Int) (hn : l.length ≤ 1099511627776) : ∀ (d k i : Nat), l.length - i = d → i ≤ l.length → d < k →
    spec_l1Ok.l0 k l (i : Int) = some ((l.drop i).all isLetV && decide (l.length ≤ 80))
  | 0, k, i, hd, hi, hk => by
    obtain ⟨k, rfl⟩ : ∃ m, k = m + 1 := ⟨k - 1, by omega⟩
    have e : i = l.length := by omega
    subst e
    rw [spec_l1Ok.l0, if_neg (by omega), List.drop_length]
    simp only [List.all_nil, Bool.true_and, Option.some.injEq, decide_eq_decide]
    omega
  | d + 1, k, i, hd, hi, hk => by
    obtain ⟨k, rfl⟩ : ∃ m, k = m + 1 := ⟨k - 1, by omega⟩
    have hlt : i < l.length := by omega
    obtain ⟨s, hs, hz⟩ := size_p l[i]
    rw [spec_l1Ok.l0, if_pos (by omega), if_pos (by omega), w64 (by omega) (by omega), rd_get hlt, hs, Option.bind_some, List.drop_eq_getElem_cons hlt, List.all_cons]
    have := ok_l l hn d k (i + 1) (by omega) (by omega) (by omega)
    rw [show ((i : Int) + 1) = ((i + 1 : Nat) : Int) by omega, this]
    by_cases h : s = 0
    · rw [if_pos h, hz.1 h]; simp
    · have : isLetV l[i] = true := by
        cases e : isLetV l[i]
        · exact absurd (hz.2 e) h
        · rfl
      rw [if_neg h, this, Bool.true_and]
theorem ok_p {l : List Int} {k : Nat} (hn : l.length ≤ 1099511627776) (hk : l.length < k) : spec_l1Ok.f k l = some (okV l) := by
  unfold spec_l1Ok.f
  have := ok_l l hn l.length k 0 (by omega) (by omega) hk
  rw [show ((0 : Nat) : Int) = 0 from rfl] at this
  rw [this, List.drop_zero, okV, Bool.and_comm]
theorem ok_len {l : List Int} (h : okV l = true) : l.length ≤ 80 := by
  simp [okV] at h; exact h.1
theorem ok_let {l : List Int} (h : okV l = true) {x : Int} (hx : x ∈ l) : isLetV x = true := by
  simp [okV] at h; exact h.2 x hx
theorem let_wf {x : Int} (h : isLetV x = true) : (Lit.int .i64 x).wf = true := by
  simp [isLetV] at h
  exact WalkArith.wf_i64 (by omega)
end Go.Proofs.Ytojehfdioeglgaa.Pure
/- The levels and classes that are told, by both texts. -/
namespace Go.Proofs.Ytojehfdioeglgaa.Pure
open Go.RowKit Go.Proofs.Ytojehfdioeglgaa.S Go.Proofs.YtojehfdioeglgaaW.PrintWords Go.Proofs.YtojehfdioeglgaaW.PrintLast
def clsV (rs : List Int) : List Int := rs.map bidiV
theorem clsV_len (rs : List Int) : (clsV rs).length = rs.length := List.length_map ..
theorem clsV_get {rs : List Int} {i : Nat} (h : i < rs.length) : (clsV rs).getD i 0 = bidiV (rs.getD i 0) := by
  simp [clsV, List.getD_eq_getElem?_getD, h]
theorem clsO_p : ∀ rs : List Int, clsO rs = some (clsV rs)
  | [] => rfl
  | x :: r => by
    rw [clsO, impl_bidi_p, Option.bind_some, clsO_p r, Option.bind_some]
    rfl
def cv (e : S87) : S74 := ⟨e.f0, e.f1, e.f2⟩
/-- The reference's stack is the program's, the other way round. -/
def RelT (s : WkS) (t : TeS) : Prop := s.st = (t.st.map cv).reverse ∧ s.lost = t.lost ∧ s.sk = t.sk
theorem st_cons {s : WkS} {t : TeS} {e : S87} {r : List S87} (h : RelT s t) (hst : t.st = e :: r) : s.st = (r.map cv).reverse ++ [cv e] := by
  rw [h.1, hst, List.map_cons, List.reverse_cons]
theorem getD_last (a : List S74) (x : S74) : (a ++ [x]).getD a.length z74 = x := by
  rw [List.getD_eq_getElem?_getD, List.getElem?_append_right (Nat.le_refl _)]
  simp
theorem rel_top {s : WkS} {t : TeS} {e : S87} {r : List S87} (h : RelT s t) (hst : t.st = e :: r) : s.top = cv e := by
  unfold WkS.top
  rw [st_cons h hst, show ((r.map cv).reverse ++ [cv e]).length - 1 = ((r.map cv).reverse).length by simp, getD_last]
theorem up_eq {l : Int} (h0 : 0 ≤ l) (h1 : l ≤ 1000) (r : Bool) : upV l r = upT l r := by
  have w1 : wrap64 (l + 1) = l + 1 := w64 (by omega) (by omega)
  have w2 : wrap64 (l + 2) = l + 2 := w64 (by omega) (by omega)
  have t1 : Int.tmod l 2 = l % 2 := Int.tmod_eq_emod_of_nonneg h0
  unfold upV spec_l3Up.f upT
  simp only [w1, w2, t1]
  have : l % 2 = 0 ∨ l % 2 = 1 := by omega
  cases r <;> rcases this with h | h
  · have h' : (l + 1) % 2 = 1 := by omega
    simp [h, h']; omega
  · have h' : (l + 1) % 2 = 0 := by omega
    simp [h, h']
  · have h' : (l + 1) % 2 = 1 := by omega
    simp [h, h']
  · have h' : (l + 1) % 2 = 0 := by omega
    simp [h, h']; omega
theorem rel_push {s : WkS} {t : TeS} {j : Nat} (h : RelT s t) (hi : InvT j t) (r : Bool) (d : Int) (a : Bool) : RelT (pushS r d a s) (pushT r d a t) := by
  obtain ⟨e, q, hst, _, he0, he1⟩ := hi.cons
  have ht := rel_top h hst
  have hu : upV s.top.f0 r = upT (topT t) r := by
    rw [ht, show topT t = e.f0 by unfold topT; rw [hst], show (cv e).f0 = e.f0 from rfl, up_eq he0 (by omega)]
  obtain ⟨h1, h2, h3⟩ := h
  unfold pushS pushT
  rw [hu, h2, h3]
  split
  · have h1' : ∀ b : Bool, b = a → RelT { s with st := s.st ++ [⟨upT (topT t) r, d, b⟩], lost := t.lost, sk := t.sk } { t with st := ⟨upT (topT t) r, d, a⟩ :: t.st } := fun b hb => by
      subst hb
      exact ⟨by simp only; rw [h1, List.map_cons, List.reverse_cons]; rfl, rfl, rfl⟩
    cases a with
    | true => rw [if_pos rfl]; exact ⟨(h1' true rfl).1, (by first | rfl | exact h2), (by first | rfl | exact h3)⟩
    | false => rw [if_neg (by decide)]; exact ⟨(h1' false rfl).1, (by first | rfl | exact h2), (by first | rfl | exact h3)⟩
  · split
    · exact ⟨h1, (by first | rfl | exact h2), (by first | rfl | exact h3)⟩
    · split
      · exact ⟨h1, (by first | rfl | exact h2), (by first | rfl | exact h3)⟩
      · exact ⟨h1, (by first | rfl | exact h2), (by first | rfl | exact h3)⟩
theorem rel_pop {s : WkS} {t : TeS} {j : Nat} (h : RelT s t) (hi : InvT j t) : RelT (dropsS s) (popT t) := by
  obtain ⟨e, q, hst, _, he0, he1⟩ := hi.cons
  have ht := rel_top h hst
  have hs := st_cons h hst
  have h' := h
  obtain ⟨h1, h2, h3⟩ := h
  unfold dropsS popT
  rw [h2, h3]
  split
  · exact h'
  · split
    · exact ⟨h1, (by first | rfl | exact h2), (by first | rfl | exact h3)⟩
    · rw [ht, hst]
      have hf : (cv e).f2 = e.f2 := rfl
      rw [hf]
      cases q with
      | nil =>
        rw [if_neg (by rw [hs]; simp)]
        exact h'
      | cons e2 r =>
        simp only
        by_cases h0 : e.f2 = false
        · rw [if_pos ⟨h0, by rw [hs]; simp⟩, if_pos h0]
          refine ⟨?_, (by first | rfl | exact h2), (by first | rfl | exact h3)⟩
          simp only
          rw [hs, show (((e2 :: r).map cv).reverse ++ [cv e]).length - 1 = (((e2 :: r).map cv).reverse).length by simp, List.take_left]
        · rw [if_neg (fun h => h0 h.1), if_neg h0]
          exact h'
theorem popA_app (x : S74) (a : List S74) : ∀ n, n ≤ a.length → popA (a ++ [x]) n = popA a n
  | 0, _ => rfl
  | n + 1, h => by
    rw [popA, popA, popA_app x a n (by omega), List.take_append_of_le_length (by omega), List.getD_eq_getElem?_getD, List.getD_eq_getElem?_getD, List.getElem?_append_left (by omega)]
theorem popA_rev : ∀ l : List S87, popA (l.map cv).reverse l.length = ((popAl l).map cv).reverse
  | [] => rfl
  | e :: r => by
    have hlen : (r.map cv).reverse.length = r.length := by simp
    rw [List.map_cons, List.reverse_cons, List.length_cons, popA, popAl, popA_app _ _ _ (by omega), popA_rev r]
    have hg : ((r.map cv).reverse ++ [cv e]).getD r.length z74 = cv e := by
      have := getD_last (r.map cv).reverse (cv e)
      rwa [hlen] at this
    rw [hg, show (cv e).f2 = e.f2 from rfl]
    by_cases h : e.f2 = true
    · rw [if_pos h, if_pos h]
      conv => lhs; rw [← hlen, List.take_left]
    · rw [if_neg h, if_neg h]
theorem cntA_any : ∀ l : List S87, cntA (l.map cv).reverse = 0 ↔ l.any (·.f2) = false
  | [] => by simp [cntA]
  | e :: r => by
    have ih := cntA_any r
    rw [List.map_cons, List.reverse_cons, cntA_snoc, List.any_cons, Bool.or_eq_false_iff, show (cv e).f2 = e.f2 from rfl]
    cases e.f2 with
    | true => simp
    | false => simpa using ih
theorem rel_close {s : WkS} {t : TeS} {n j i : Nat} (h : RelT s t) (hi : InvT j t) (hw : InvW n i s) : RelT (endsS s) (closeT t) := by
  have h' := h
  obtain ⟨h1, h2, h3⟩ := h
  have hal : s.al = 0 ↔ t.st.any (·.f2) = false := by
    rw [← cntA_any, ← h1, hw.2.2.2.2.2.2.1]
    omega
  unfold endsS closeT
  rw [h2]
  split
  · exact ⟨h1, (by first | rfl | exact h2), (by first | rfl | exact h3)⟩
  · by_cases ha : s.al = 0
    · rw [if_pos ha, if_neg (by rw [hal.mp ha]; decide)]
      exact h'
    · have hb : t.st.any (·.f2) = true := by
        cases e : t.st.any (·.f2) with
        | true => rfl
        | false => exact absurd (hal.mpr e) ha
      rw [if_neg ha, if_pos hb]
      refine ⟨?_, (by first | rfl | exact h2), rfl⟩
      simp only
      rw [h1, show ((t.st.map cv).reverse).length = t.st.length by simp, popA_rev]
theorem set_mid (L R : List Int) (x y : Int) : (L ++ x :: R).set L.length y = L ++ y :: R := by
  rw [List.set_append_right _ _ (Nat.le_refl _), Nat.sub_self, List.set_cons_zero]
theorem dropsS_lens (s : WkS) : (dropsS s).lv = s.lv ∧ (dropsS s).cl = s.cl := by
  unfold dropsS
  repeat' split
  all_goals exact ⟨rfl, rfl⟩
/-- What the two lists of the reference's teller hold at a letter. -/
def AtL (s : WkS) (L C R : List Int) (i : Nat) (x y : Int) : Prop := s.lv = L ++ x :: R ∧ s.cl = C ++ y :: R ∧ L.length = i ∧ C.length = i
theorem here_p {s : WkS} {t : TeS} {e : S87} {r : List S87} {L C R : List Int} {i : Nat} {x y : Int} (h : RelT s t) (hst : t.st = e :: r) (ha : AtL s L C R i x y) (c : Int) : RelT (hereS i c s) t ∧ AtL (hereS i c s) L C R i e.f0 (if e.f1 = 0 then c else e.f1) := by
  obtain ⟨a1, a2, rfl, a4⟩ := ha
  refine ⟨h, ?_, ?_, rfl, a4⟩
  · show s.lv.set L.length s.top.f0 = _
    rw [a1, rel_top h hst, set_mid]
    rfl
  · show s.cl.set L.length (if s.top.f1 = 0 then c else s.top.f1) = _
    rw [a2, rel_top h hst, ← a4, set_mid]
    rfl
theorem AtL.to {s s' : WkS} {L C R : List Int} {i : Nat} {x y : Int} (h : AtL s L C R i x y) (hl : s'.lv = s.lv ∧ s'.cl = s.cl) : AtL s' L C R i x y := by
  obtain ⟨a1, a2, a3, a4⟩ := h
  exact ⟨by rw [hl.1, a1], by rw [hl.2, a2], a3, a4⟩
theorem letter_rel {k n i0 : Nat} {rs cls : List Int} {mt : Int → Option Int} {i : Nat} {s : WkS} {t : TeS} {L C R : List Int} (h : RelT s t) (hi : InvT i t) (hw : InvW n i0 s) (ha : AtL s L C R i (-1) 0) (hc : spec_RuneBidi.f k (rs.getD i 0) = some (cls.getD i 0))
    (hf : cls.getD i 0 = 21 → ∃ m b, spec_l3Mate.f k rs i = some m ∧ spec_l3Base.f k rs ((i : Int) + 1) m = some b ∧ (b == 1) = (sideF cls mt (endP cls mt i) (cls.length + 1) (i + 1) == 1)) :
    ∃ s', letterF k rs i s = some s' ∧ RelT s' (tellS cls mt i t) ∧ AtL s' L C R i (tellL (cls.getD i 0) t) (tellC (cls.getD i 0) t) := by
  obtain ⟨e, r, hst, _⟩ := hi.cons
  have hte : topE t = e := by unfold topE; rw [hst]
  unfold letterF tellS tellL tellC
  rw [hc, Option.bind_some]
  generalize cls.getD i 0 = c at hf
  by_cases k15 : c = 15
  · subst k15
    rw [if_pos rfl]
    exact ⟨_, rfl, rel_push h hi _ _ _, ha.to (pushS_lens _ _ _ _)⟩
  rw [if_neg k15]
  by_cases k14 : c = 14
  · subst k14
    rw [if_pos rfl]
    exact ⟨_, rfl, rel_push h hi _ _ _, ha.to (pushS_lens _ _ _ _)⟩
  rw [if_neg k14]
  by_cases k18 : c = 18
  · subst k18
    rw [if_pos rfl]
    exact ⟨_, rfl, rel_push h hi _ _ _, ha.to (pushS_lens _ _ _ _)⟩
  rw [if_neg k18]
  by_cases k17 : c = 17
  · subst k17
    rw [if_pos rfl]
    exact ⟨_, rfl, rel_push h hi _ _ _, ha.to (pushS_lens _ _ _ _)⟩
  rw [if_neg k17]
  by_cases k16 : c = 16
  · subst k16
    rw [if_pos rfl]
    exact ⟨_, rfl, rel_pop h hi, ha.to (dropsS_lens _)⟩
  rw [if_neg k16]
  by_cases k10 : c = 10
  · subst k10
    rw [if_pos rfl]
    exact ⟨_, rfl, h, ha⟩
  have hno : noLv c = false := by
    unfold noLv
    simp [k14, k15, k17, k18, k16, k10]
  rw [if_neg k10, if_neg k14, if_neg k15, if_neg k17, if_neg k18, if_neg k16, if_neg k10, hno]
  simp only [Bool.false_eq_true, if_false]
  by_cases k20 : c = 20
  · subst k20
    obtain ⟨p1, p2⟩ := here_p h hst ha 20
    rw [if_pos rfl]
    refine ⟨_, rfl, ?_, ?_⟩
    · exact rel_push p1 hi _ _ _
    · simp only [show ¬ ((20 : Int) = 22) by decide, if_false, hte]
      exact p2.to (pushS_lens _ _ _ _)
  rw [if_neg k20]
  by_cases k19 : c = 19
  · subst k19
    obtain ⟨p1, p2⟩ := here_p h hst ha 19
    rw [if_pos rfl]
    refine ⟨_, rfl, ?_, ?_⟩
    · exact rel_push p1 hi _ _ _
    · simp only [show ¬ ((19 : Int) = 22) by decide, if_false, hte]
      exact p2.to (pushS_lens _ _ _ _)
  rw [if_neg k19]
  by_cases k21 : c = 21
  · subst k21
    obtain ⟨p1, p2⟩ := here_p h hst ha 21
    obtain ⟨m, b, f1, f2, f3⟩ := hf rfl
    rw [if_pos rfl, f1, Option.bind_some, f2, Option.bind_some, f3]
    refine ⟨_, rfl, ?_, ?_⟩
    · exact rel_push p1 hi _ _ _
    · simp only [show ¬ ((21 : Int) = 22) by decide, if_false, hte]
      exact p2.to (pushS_lens _ _ _ _)
  rw [if_neg k21]
  by_cases k22 : c = 22
  · subst k22
    have hcl := rel_close h hi hw
    obtain ⟨e2, r2, hst2, _⟩ := (inv_closeT hi).cons
    have hte2 : topE (closeT t) = e2 := by unfold topE; rw [hst2]
    obtain ⟨p1, p2⟩ := here_p hcl hst2 (ha.to (endsS_lens _)) 22
    rw [if_pos rfl]
    refine ⟨_, rfl, p1, ?_⟩
    simp only [if_true, hte2]
    exact p2
  · obtain ⟨p1, p2⟩ := here_p h hst ha c
    rw [if_neg k22]
    refine ⟨_, rfl, ?_, ?_⟩
    · rw [if_neg k22, if_neg k19, if_neg k20, if_neg k21]
      exact p1
    · rw [if_neg k22, hte]
      exact p2
theorem opens_p (c : Int) : spec_l3Opens.f c = some (opensB c) := by
  unfold spec_l3Opens.f
  rw [l1In_b]
  unfold opensB
  congr 1
  by_cases h1 : c = 19
  · subst h1; rfl
  · by_cases h2 : c = 20
    · subst h2; rfl
    · by_cases h3 : c = 21
      · subst h3; rfl
      · rw [beq_eq_false_iff_ne.mpr h1, beq_eq_false_iff_ne.mpr h2, beq_eq_false_iff_ne.mpr h3]
        simp
        omega
theorem mate_l {rs : List Int} (hn : rs.length ≤ 400) : ∀ (g k i : Nat) (d : Int), rs.length - i = g → i ≤ rs.length → (0 < d ∨ d = 0 ∧ opensB (bidiV (rs.getD i 0)) = true) → d ≤ i → 2 * g + 20 ≤ k → spec_l3Mate.l0 k rs d (i : Int) = some ((scanM (clsV rs) g i d : Nat) : Int)
  | 0, k, i, d, hg, hi, h0, h1, hk => by
    obtain ⟨k, rfl⟩ : ∃ m, k = m + 1 := ⟨k - 1, by omega⟩
    rw [spec_l3Mate.l0, if_neg (by omega), scanM, clsV_len]
  | g + 1, k, i, d, hg, hi, h0, h1, hk => by
    obtain ⟨k, rfl⟩ : ∃ m, k = m + 2 := ⟨k - 2, by omega⟩
    have hlt : i < rs.length := by omega
    have ih := fun d' a b => mate_l hn g k (i + 1) d' (by omega) (by omega) (.inl a) b (by omega)
    rw [spec_l3Mate.l0, if_pos (by omega), if_pos (by omega), spec_bidi_k (by omega), Option.bind_some, opens_p, Option.bind_some, rd_nat, scanM, clsV_get hlt]
    generalize bidiV (rs.getD i 0) = c at h0
    have e1 : wrap64 ((i : Int) + 1) = ((i + 1 : Nat) : Int) := by rw [w64 (by omega) (by omega)]; omega
    unfold stepD
    cases ho : opensB c with
    | true =>
      have hn22 := opens_not22 ho
      rw [if_pos rfl, spec_l3Mate.j1, if_neg hn22, if_pos rfl, if_neg hn22, w64 (x := d + 1) (by omega) (by omega), e1, Int.sub_zero, if_neg (by omega), if_neg (by omega), ih (d + 1) (by omega) (by omega)]
    | false =>
      have hd0 : 0 < d := by
        rcases h0 with h | ⟨_, h⟩
        · exact h
        · rw [ho] at h; cases h
      simp only [Bool.false_eq_true, if_false]
      rw [spec_l3Mate.j1, e1]
      by_cases h22 : c = 22
      · rw [if_pos h22, if_pos h22, w64 (x := d - 1) (by omega) (by omega)]
        by_cases hd1 : d - 1 = 0
        · rw [if_pos hd1, if_pos hd1]
        · rw [if_neg hd1, if_neg hd1, ih (d - 1) (by omega) (by omega)]
      · rw [if_neg h22, if_neg h22, Int.sub_zero, if_neg (by omega), if_neg (by omega), ih d hd0 (by omega)]
theorem mate_m {rs : List Int} (hn : rs.length ≤ 400) {i k : Nat} (hi : i < rs.length) (ho : opensB (bidiV (rs.getD i 0)) = true) (hk : 2 * rs.length + 20 ≤ k) : spec_l3Mate.f k rs (i : Int) = some ((endP (clsV rs) (mtC (clsV rs)) i : Nat) : Int) := by
  unfold spec_l3Mate.f
  rw [mate_l hn (rs.length - i) k i 0 rfl (by omega) (.inr ⟨rfl, ho⟩) (by omega) (by omega), ← mt_scan (by rw [clsV_len]; exact hi) (by rw [clsV_get hi]; exact ho), clsV_len]
theorem endP_gt {cls : List Int} {i : Nat} (hi : i < cls.length) : i < endP cls (mtC cls) i ∧ endP cls (mtC cls) i ≤ cls.length := by
  unfold endP
  cases e : mtC cls i with
  | none => exact ⟨hi, Nat.le_refl _⟩
  | some m =>
    obtain ⟨p, m', e1, e2, e3, e4, _⟩ := mt_inv e
    subst e2
    obtain rfl : p = i := by omega
    simp only [Int.toNat_natCast]
    omega
theorem sideF_end {cls : List Int} {mt : Int → Option Int} {tg g i : Nat} (h : tg ≤ i) : sideF cls mt tg g i = 0 := by
  cases g with
  | zero => rfl
  | succ g => rw [sideF, if_neg (by omega)]
theorem base_l {rs : List Int} (hn : rs.length ≤ 400) (tg : Nat) (ht : tg ≤ rs.length) : ∀ (g k i : Nat), rs.length + 1 - i ≤ g → 2 * (rs.length - i) + 2 * rs.length + 30 ≤ k → spec_l3Base.l0 k rs (tg : Int) (i : Int) = some (sideF (clsV rs) (mtC (clsV rs)) tg g i)
  | 0, k, i, hg, hk => by
    obtain ⟨k, rfl⟩ : ∃ m, k = m + 1 := ⟨k - 1, by omega⟩
    rw [spec_l3Base.l0, if_neg (by omega)]
    rfl
  | g + 1, k, i, hg, hk => by
    obtain ⟨k, rfl⟩ : ∃ m, k = m + 2 := ⟨k - 2, by omega⟩
    rw [spec_l3Base.l0, sideF]
    by_cases hlt : i < tg
    · have e1 : wrap64 ((i : Int) + 1) = ((i + 1 : Nat) : Int) := by rw [w64 (by omega) (by omega)]; omega
      rw [if_pos (by omega), if_pos hlt, if_pos (by omega), if_pos (by omega), spec_bidi_k (by omega), Option.bind_some, rd_nat, clsV_get (by omega)]
      have hm : opensB (bidiV (rs.getD i 0)) = true → spec_l3Mate.f k rs (i : Int) = some ((endP (clsV rs) (mtC (clsV rs)) i : Nat) : Int) := fun ho => mate_m hn (by omega) ho (by omega)
      generalize bidiV (rs.getD i 0) = c at hm
      by_cases h1 : c = 1
      · rw [if_pos h1, if_pos h1]
      rw [if_neg h1, if_neg h1]
      by_cases h2 : c = 2
      · subst h2
        rw [if_pos rfl, if_pos (.inl rfl), spec_l3Base.j1, if_pos (by decide)]
      by_cases h3 : c = 3
      · subst h3
        rw [if_neg (by decide), if_pos (.inr rfl), spec_l3Base.j1, if_pos (by decide)]
      rw [if_neg h2, if_neg (by omega), spec_l3Base.j1, if_neg (by simpa using h3), opens_p, Option.bind_some]
      cases ho : opensB c with
      | true =>
        have hg2 := endP_gt (cls := clsV rs) (i := i) (by rw [clsV_len]; omega)
        rw [clsV_len] at hg2
        rw [if_pos rfl, if_pos rfl, hm ho, Option.bind_some, w64 (by omega) (by omega), show ((endP (clsV rs) (mtC (clsV rs)) i : Nat) : Int) + 1 = ((endP (clsV rs) (mtC (clsV rs)) i + 1 : Nat) : Int) by omega, base_l hn tg ht g k _ (by omega) (by omega)]
        unfold endP
        cases e : mtC (clsV rs) i with
        | none => simp only; rw [clsV_len, sideF_end (by omega)]
        | some m => rfl
      | false =>
        rw [if_neg (by decide), if_neg (by decide), e1, base_l hn tg ht g k (i + 1) (by omega) (by omega)]
    · rw [if_neg (by omega), if_neg hlt]
theorem base_m {rs : List Int} (hn : rs.length ≤ 400) {tg i k : Nat} (ht : tg ≤ rs.length) (hk : 4 * rs.length + 30 ≤ k) : spec_l3Base.f k rs ((i : Int) + 1) (tg : Int) = some (sideF (clsV rs) (mtC (clsV rs)) tg ((clsV rs).length + 1) (i + 1)) := by
  unfold spec_l3Base.f
  rw [show (i : Int) + 1 = ((i + 1 : Nat) : Int) by omega, base_l hn tg ht (rs.length + 1) k (i + 1) (by omega) (by omega), clsV_len]
theorem walk_told {k : Nat} {rs : List Int} {base : Int} (hn : rs.length ≤ 400) (h0 : 0 ≤ base) (h1 : base ≤ 100) (hk : 4 * rs.length + 30 ≤ k) : ∀ j, j ≤ rs.length → ∃ s, walkF k rs base j = some s ∧ RelT s (toldS (clsV rs) (mtC (clsV rs)) base j) ∧
    s.lv = toldL (clsV rs) (mtC (clsV rs)) base j ++ List.replicate (rs.length - j) 0 ∧ s.cl = toldC (clsV rs) (mtC (clsV rs)) base j ++ List.replicate (rs.length - j) 0
  | 0, _ => ⟨walkS rs.length base, rfl, ⟨rfl, rfl, rfl⟩, rfl, rfl⟩
  | j + 1, hj => by
    obtain ⟨s, q1, q2, q3, q4⟩ := walk_told hn h0 h1 hk j (by omega)
    have hL := toldL_len (clsV rs) (mtC (clsV rs)) base j
    have hC := toldC_len (clsV rs) (mtC (clsV rs)) base j
    have hi := inv_told (clsV rs) (mtC (clsV rs)) base h0 h1 j
    have hw := inv_walk j s q1
    rw [show rs.length - j = (rs.length - (j + 1)) + 1 by omega, List.replicate_succ] at q3 q4
    have hat : AtL { s with lv := s.lv.set j (-1) } (toldL (clsV rs) (mtC (clsV rs)) base j) (toldC (clsV rs) (mtC (clsV rs)) base j) (List.replicate (rs.length - (j + 1)) 0) j (-1) 0 := by
      refine ⟨?_, q4, hL, hC⟩
      have := set_mid (toldL (clsV rs) (mtC (clsV rs)) base j) (List.replicate (rs.length - (j + 1)) 0) 0 (-1)
      rw [hL, ← q3] at this
      exact this
    have hw' : InvW rs.length (2 * j) { s with lv := s.lv.set j (-1) } := by
      obtain ⟨a, b⟩ := hw
      exact ⟨by simpa using a, b⟩
    obtain ⟨s', p1, p2, p3⟩ := letter_rel (k := k) (rs := rs) (cls := clsV rs) (mt := mtC (clsV rs)) (s := { s with lv := s.lv.set j (-1) }) (t := toldS (clsV rs) (mtC (clsV rs)) base j) q2 hi hw' hat (by rw [clsV_get (by omega), spec_bidi_k (by omega)]) (fun h21 => by
      have ho : opensB (bidiV (rs.getD j 0)) = true := by rw [← clsV_get (by omega), h21]; rfl
      have hg2 := endP_gt (cls := clsV rs) (i := j) (by rw [clsV_len]; omega)
      rw [clsV_len] at hg2
      exact ⟨_, _, mate_m hn (by omega) ho (by omega), base_m hn hg2.2 (by omega), rfl⟩)
    refine ⟨s', by rw [walkF, q1, Option.bind_some, p1], p2, ?_, ?_⟩
    · rw [p3.1, toldL_succ, List.append_assoc]; rfl
    · rw [p3.2.1, toldC_succ, List.append_assoc]; rfl
theorem l3Ok_p {l : List Int} {b : Int} {k : Nat} (hn : l.length ≤ 1099511627776) (hk : l.length < k) : spec_l3Ok.f k l b = some (okV l && baseB b) := by
  unfold spec_l3Ok.f
  rw [ok_p hn hk, Option.bind_some]
  cases okV l with
  | false => rfl
  | true =>
    rw [if_pos rfl, l1In_b, Option.bind_some, Bool.true_and]
    congr 1
    unfold baseB
    by_cases h1 : b = 0
    · subst h1; rfl
    · by_cases h2 : b = 1
      · subst h2; rfl
      · simp [h1, h2]; omega
/-- What LevelsTold answers. -/
def toldV (l : List Int) (b : Int) : List Int × List Int := if okV l = true ∧ baseB b = true then toldLC (clsV l) b else ([], [])
theorem implTold_p (l : List Int) (b : Int) : impl_LevelsTold.f l b = some (toldV l b) := by
  unfold impl_LevelsTold.f toldV
  split
  · rw [clsO_p, Option.bind_some]
  · rfl
theorem specTold_p {l : List Int} {b : Int} {k : Nat} (hn : l.length ≤ 1099511627776) (hk : l.length < k) (hk2 : 2000 ≤ k) : spec_LevelsTold.f k l b = some (toldV l b) := by
  unfold spec_LevelsTold.f toldV
  rw [l3Ok_p hn hk, Option.bind_some]
  by_cases hok : okV l = true
  · by_cases hb : baseB b = true
    · have h80 := ok_len hok
      have hb01 : 0 ≤ b ∧ b ≤ 100 := by
        unfold baseB at hb
        rw [Bool.or_eq_true, decide_eq_true_eq, decide_eq_true_eq] at hb
        omega
      obtain ⟨s, q1, _, q3, q4⟩ := walk_told (k := k) (rs := l) (base := b) (by omega) hb01.1 hb01.2 (by omega) l.length (Nat.le_refl _)
      rw [hok, hb, if_pos (by decide), if_pos (by omega), if_pos ⟨rfl, rfl⟩, q1, Option.bind_some, q3, q4, Nat.sub_self]
      simp only [List.replicate_zero, List.append_nil]
      unfold toldLC
      rw [clsV_len]
      unfold mtC
      rw [clsV_len]
    · rw [if_neg (by simp [hb]), if_neg (fun h => hb h.2)]
  · rw [if_neg (by simp [hok]), if_neg (fun h => hok h.1)]
theorem toldV_len (l : List Int) (b : Int) : (toldV l b).1.length ≤ l.length ∧ (toldV l b).2.length ≤ l.length := by
  unfold toldV
  split
  · unfold toldLC
    rw [toldL_len, toldC_len, clsV_len]
    exact ⟨Nat.le_refl _, Nat.le_refl _⟩
  · simp
end Go.Proofs.Ytojehfdioeglgaa.Pure
/- The program's LevelsTold answers as the reference's, for every list of whole numbers and every level at first; it writes into no argument and its two answers are memory of their own. No condition beyond the statement's own. -/
namespace Go.Proofs.Ytojehfdioeglgaa.Pure
open Go.RowKit Go.Proofs.Ytojehfdioeglgaa.S Go.Proofs.YtojehfdioeglgaaW.PrintWords Go.Proofs.YtojehfdioeglgaaW.PrintLast
theorem FnExactLevelsTold : laws_FnExactLevelsTold.Pure := by
  intro l a _ _ _ _
  refine ⟨l.length + 3003, ?_⟩
  unfold laws_FnExactLevelsTold.f
  by_cases h : (l.length : Int) > 1048576
  · rw [if_pos h]
  · have hs := toldV_len l a
    rw [if_neg h, copy_p (by omega) (by omega), Option.bind_some, specTold_p (by omega) (by omega) (by omega), Option.bind_some, Option.bind_some, implTold_p, Option.bind_some]
    generalize hpq : toldV l a = pq at hs ⊢
    obtain ⟨p, q⟩ := pq
    simp only at hs
    have e1 : ∀ k, l.length + 100 < k → laws_eqIntS.f k p p = some true := fun k hk => by rw [eq_p (by omega) (by omega), decide_eq_true rfl]
    have e2 : ∀ k, l.length + 100 < k → laws_eqIntS.f k q q = some true := fun k hk => by rw [eq_p (by omega) (by omega), decide_eq_true rfl]
    have e3 : ∀ k, l.length + 100 < k → laws_eqIntS.f k l l = some true := fun k hk => by rw [eq_p (by omega) (by omega), decide_eq_true rfl]
    simp only [e1 _ (show l.length + 100 < l.length + 3003 by omega), Option.bind_some, if_true, e2 _ (show l.length + 100 < l.length + 3003 by omega), Bool.not_true]
    rw [laws_FnExactLevelsTold.j0]
    simp only [Bool.false_eq_true, if_false]
    rw [copy_p (by omega) (by omega), Option.bind_some, e3 _ (by omega), Option.bind_some, if_pos rfl, mark_p (by omega) (by omega) (by omega) (by omega), Option.bind_some, if_neg (by simp only; omega), e1 _ (by omega), Option.bind_some, if_pos rfl, e2 _ (by omega), Option.bind_some, Bool.not_true, laws_FnExactLevelsTold.j1]
    simp only [Bool.false_eq_true, if_false]
    rw [mark_p (by omega) (by omega) (by omega) (by omega), Option.bind_some]
    simp only
    rw [mark_p (by omega) (by omega) (by omega) (by omega), Option.bind_some]
    simp only
    rw [held_p (by omega) (by omega) (by omega) (by omega), Option.bind_some, if_neg (by omega), held_p (by omega) (by omega) (by omega) (by omega), Option.bind_some, if_neg (by omega), if_pos rfl, copy_p (by omega) (by omega), Option.bind_some, implTold_p, Option.bind_some, hpq]
    simp only
    rw [e1 _ (by omega), Option.bind_some, if_pos rfl, e2 _ (by omega), Option.bind_some, Bool.not_true, laws_FnExactLevelsTold.j2]
    simp only [Bool.false_eq_true, if_false]
    rw [held_p (by omega) (by omega) (by omega) (by omega), Option.bind_some, if_neg (by omega), held_p (by omega) (by omega) (by omega) (by omega), Option.bind_some, if_neg (by omega), if_pos rfl]
end Go.Proofs.Ytojehfdioeglgaa.Pure
