/- Of drawn letters, spans and a width: each line that is as full as can be and does not end where it must has no room for the next word; the lines are the reference's. No condition beyond the statement's own. (text 2 of 7 of this claim: functions of the program and of the reference as plain Lean functions, what a call of each comes to, and what follows.) -/
import Derived.Test.YtmcdcogedcbndaaGreatZFnFillGreedyA0
set_option maxHeartbeats 16000000
set_option maxRecDepth 100000
set_option linter.unusedVariables false
set_option linter.unusedSimpArgs false
namespace Go.Proofs.YtmcdcogedcbndaaGreat.S
open Go.RowKit Go.Proofs.YtmcdcogedcbndaaGreatW.PrintWords Go.Proofs.YtmcdcogedcbndaaGreatW.PrintLast
set_option linter.unusedVariables false
set_option linter.unusedSimpArgs false
def impl_SpansOk.l0 : Nat → List S50 → Int → List S50 → Int → Int → Option Bool
 | 0, _, _, _, _, _ => none
 | k + 1, x0, x1, x7, x8, x9 => if x9 < x8 then (if 0 ≤ x9 then (if x9 < (x7.length : Int) then ((impl_spanOk.f ((rd_T50 x7 x9).f0) ((rd_T50 x7 x9).f1) ((rd_T50 x7 x9).f2) ((rd_T50 x7 x9).f3) x1).bind fun t => (if t = true then (if x9 > 0 then (if 0 ≤ (wrap64 (x9 - 1)) then (if (wrap64 (x9 - 1)) < (x0.length : Int) then (if ((rd_T50 x0 (wrap64 (x9 - 1))).f1) > ((rd_T50 x7 x9).f0) then (some false) else (impl_SpansOk.l0 k x0 x1 x7 x8 (wrap64 (x9 + 1)))) else (none)) else (none)) else (impl_SpansOk.l0 k x0 x1 x7 x8 (wrap64 (x9 + 1)))) else (some false))) else (none)) else (none)) else (if x1 ≥ 0 then (if x1 ≤ 80 then (some (decide ((x0.length : Int) ≤ 12))) else (some false)) else (some false))
def impl_SpansOk.f (k : Nat) (l0 : List S50) (a1 : Int) : Option Bool := impl_SpansOk.l0 k l0 a1 l0 (l0.length : Int) 0
theorem impl_SpansOk.mono_l : ∀ k x0 x1 x7 x8 x9, LeO (impl_SpansOk.l0 k x0 x1 x7 x8 x9) (impl_SpansOk.l0 (k + 1) x0 x1 x7 x8 x9)
 | 0, _, _, _, _, _ => fun r h => by simp [impl_SpansOk.l0] at h
 | k + 1, x0, x1, x7, x8, x9 => by
  have ih := impl_SpansOk.mono_l k
  show LeO (impl_SpansOk.l0 (k + 1) x0 x1 x7 x8 x9) (impl_SpansOk.l0 ((k + 1) + 1) x0 x1 x7 x8 x9)
  unfold impl_SpansOk.l0
  exact LeO.ite (LeO.ite (LeO.ite (LeO.bind (LeO.refl _) (fun t => LeO.ite (LeO.ite (LeO.ite (LeO.ite (LeO.ite (LeO.refl _) (ih _ _ _ _ _)) (LeO.refl _)) (LeO.refl _)) (ih _ _ _ _ _)) (LeO.refl _))) (LeO.refl _)) (LeO.refl _)) (LeO.refl _)
theorem impl_SpansOk.mono : ∀ a0 a1 k, LeO (impl_SpansOk.f k a0 a1) (impl_SpansOk.f (k + 1) a0 a1) := fun _ _ k => impl_SpansOk.mono_l k _ _ _ _ _
theorem impl_SpansOk.calls (k : Nat) (A0 : Option Addr) (c0 : Nat) (l0 : List S50) (a1 : Int) (r : Bool) (w : World) (hr0 : Kd.C k50 w A0 l0.length l0) (hc0 : l0.length ≤ c0) (h : impl_SpansOk.f k l0 a1 = some r) :
  Calls Tryz.prog 54 #[.slice A0 l0.length c0, .int .i64 a1] w fun e w' => e = .returned (.bool r) ∧ Below w.heap.size w w' := by
 have hu := Tryz.underlying50
 have HR := az hr0
 have HF := az (show impl_SpansOk.l0 k l0 a1 l0 (l0.length : Int) 0 = some r from h)
 clear hr0 hc0 h
 go_enter Tryz.func54, Tryz.ntmps54
 go_wp2
 go_loopg [9] k (fun gg s9 wr => ∃ x : Int, s9 = .int .i64 x ∧ Aside0 (impl_SpansOk.l0 gg l0 a1 l0 (l0.length : Int) x = some r) ∧ Aside0 (Below w.heap.size w wr))
 case atStart => exact ⟨0, rfl, HF, ⟨Below.refl _ _⟩⟩
 case round =>
  clear HF
  obtain ⟨x, rfl, HF, HW⟩ := hrel
  cases gk with
  | zero => exact absurd HF.out (by simp [impl_SpansOk.l0])
  | succ g =>
  have hq := HF.out
  rw [impl_SpansOk.l0] at hq
  clear HF
  by_cases hlt : x < (l0.length : Int)
  ·
   rw [if_pos hlt] at hq
   by_cases hx0 : 0 ≤ x
   case neg => rw [if_neg hx0] at hq; cases hq
   case pos =>
   rw [if_pos hx0, if_pos hlt] at hq
   obtain ⟨ad, rfl, h0, h1, h2, h3⟩ := at_T50 (Kd.C_below HR.out HW.out) x hx0 hlt
   obtain ⟨e, he⟩ : ∃ e, rd_T50 l0 x = e := ⟨_, rfl⟩
   rw [he] at h0 h1 h2 h3 hq
   clear he
   replace hq := Option.bind_eq_some_iff.mp hq
   obtain ⟨t, ht, hq⟩ := hq
   have HT := az ht
   clear ht
   obtain ⟨y, hy⟩ : ∃ y, wrap64 (x + 1) = y := ⟨_, rfl⟩
   have hy2 : IntKind.i64.wrap (x + 1) = y := (i64_w _).trans hy
   rw [hy] at hq
   have HL := az HR.out.2.1
   obtain ⟨p4, z, j, h4, h5⟩ : ∃ (p4 : Addr) (z j : Int), wr.cell? p4 = some (.int .i64 z) ∧ (0 < x → wrap64 (x - 1) = j ∧ 0 ≤ j ∧ j < (l0.length : Int) ∧ p4 = ⟨(ad.add (j.toNat * 4)).block, (ad.add (j.toNat * 4)).off + 1, none⟩ ∧ z = (rd_T50 l0 j).f1) := by
    by_cases hx : 0 < x
    ·
     obtain ⟨ad2, e2, _, g1, _, _⟩ := at_T50 (Kd.C_below HR.out HW.out) (x - 1) (by omega) (by omega)
     obtain rfl : ad = ad2 := Option.some.inj e2
     exact ⟨_, _, x - 1, g1, fun _ => ⟨by unfold wrap64; have := HL.out; unfold maxLen at this; omega, by omega, by omega, rfl, rfl⟩⟩
    · exact ⟨_, _, 0, h0, fun h => absurd h hx⟩
   have hS : Sp5 _ _ _ _ _ _ _ _ _ _ wr wr := ⟨h0, h1, h2, h3, h4, ⟨Below.refl _ _⟩⟩
   have H5 := az h5
   have HQ := az hq
   have H4 := az h4
   clear h5 hq hS
   go_upto_region 4 with fail
   clear h0 h1 h2 h3 h4
   obtain ⟨ob, hob⟩ : ∃ ob, Obj.cells #[.int .i64 e.f0, .int .i64 e.f1, .int .i64 e.f2, .int .i64 e.f3] 50 = ob := ⟨_, rfl⟩
   have hS : Sp5 ⟨wr.heap.size, 0, none⟩ ⟨wr.heap.size, 1, none⟩ ⟨wr.heap.size, 2, none⟩ ⟨wr.heap.size, 3, none⟩ p4 (.int .i64 e.f0) (.int .i64 e.f1) (.int .i64 e.f2) (.int .i64 e.f3) (.int .i64 z) wr (wr.alloc ob) := by
    subst hob
    have hb := below_alloc (o := .cells #[.int .i64 e.f0, .int .i64 e.f1, .int .i64 e.f2, .int .i64 e.f3] 50) (Below.refl wr.heap.size wr)
    exact ⟨(blk_cell (blk_new wr _) 0).trans rfl, (blk_cell (blk_new wr _) 1).trans rfl, (blk_cell (blk_new wr _) 2).trans rfl, (blk_cell (blk_new wr _) 3).trans rfl, (hb.cell (World.block_lt_of_cell? _ _ H4.out)).trans H4.out, ⟨hb⟩⟩
   rw [hob]
   refine Tod.st 19 [(1, 15), (0, 14), (2, 16), (3, 17), (4, 18), (5, 19), (6, 20), (7, 21), (8, 22), (9, 23), (10, 24), (11, 25), (12, 26), (14, 28), (13, 27), (15, 29), (16, 30), (17, 31), (18, 32)] _ (by kernel_rfl) rfl (Sp5.drew hS) (fun wz _ hH => ?_)
   clear hS hob
   iterate 2 (first | (refine Tod.pu (v := ?_) (a' := ?_) rfl rfl (by kernel_rfl) (fun _ _ _ => id) (Or.inl ⟨by rfl, ?_⟩) ?_ ?_; rotate_left; intro w'; go_simp; (with_reducible rfl); rotate_left; simp only [Act.put, List.setIfInBounds_toArray, List.set_cons_zero, List.set_cons_succ, i64_w, i32_w]; rfl) | (refine Tod.ta (v := ?_) (a' := ?_) rfl rfl (by kernel_rfl) (fun _ _ _ => id) (Or.inl ⟨by rfl, ?_⟩) hH ?_ ?_; rotate_left; (rintro w' ⟨s0, s1, s2, s3, s4, _⟩; go_simp; with_reducible rfl); rotate_left; simp only [Act.put, List.setIfInBounds_toArray, List.set_cons_zero, List.set_cons_succ, i64_w, i32_w]; rfl) | (refine Tod.pu (v := undef) (a' := ?_) rfl rfl (by kernel_rfl) (fun _ _ _ => id) (Or.inr ⟨by rfl, rfl⟩) ?_ ?_; rotate_left; simp only [Act.put, List.setIfInBounds_toArray, List.set_cons_zero, List.set_cons_succ, i64_w, i32_w]; rfl))
   refine Tod.on rfl rfl (by kernel_rfl) (by decide) (fun K hK => ?_)
   refine goes_ Tryz.func84 (by kernel_rfl) rfl #[.agg #[.int .i64 e.f0, .int .i64 e.f1, .int .i64 e.f2, .int .i64 e.f3], .int .i64 a1] (by rfl) rfl rfl zC ?_
   refine (impl_spanOk.calls e.f0 e.f1 e.f2 e.f3 a1 t _ HT.out).mono ?_
   rintro e9 w9 ⟨rfl, p⟩
   refine ⟨_, rfl, ?_⟩
   refine hK.out _ _ (Sp5.below hH p) (fun hH => ?_)
   clear hK K p
   refine Tod.no (a' := ?_) ?_ ?_; rotate_left
   · show Act.put _ (some 16) _ = _; simp only [Act.put, List.setIfInBounds_toArray, List.set_cons_zero, List.set_cons_succ]; rfl
   cases t
   ·
    have hq := HQ.out
    rw [if_neg (by decide)] at hq
    obtain rfl := Option.some.inj hq
    clear hq
    repeat (first | (refine Tod.pu (v := ?_) (a' := ?_) rfl rfl (by kernel_rfl) (fun _ _ _ => id) (Or.inl ⟨by rfl, ?_⟩) ?_ ?_; rotate_left; intro w'; go_simp; (with_reducible rfl); rotate_left; simp only [Act.put, List.setIfInBounds_toArray, List.set_cons_zero, List.set_cons_succ, i64_w, i32_w]; rfl) | (refine Tod.ta (v := ?_) (a' := ?_) rfl rfl (by kernel_rfl) (fun _ _ _ => id) (Or.inl ⟨by rfl, ?_⟩) hH ?_ ?_; rotate_left; (rintro w' ⟨s0, s1, s2, s3, s4, _⟩; go_simp; with_reducible rfl); rotate_left; simp only [Act.put, List.setIfInBounds_toArray, List.set_cons_zero, List.set_cons_succ, i64_w, i32_w]; rfl) | (refine Tod.pu (v := undef) (a' := ?_) rfl rfl (by kernel_rfl) (fun _ _ _ => id) (Or.inr ⟨by rfl, rfl⟩) ?_ ?_; rotate_left; simp only [Act.put, List.setIfInBounds_toArray, List.set_cons_zero, List.set_cons_succ, i64_w, i32_w]; rfl))
    refine Tod.dn (by kernel_rfl) ?_
    go_wp2
    go_ret
    exact ⟨rfl, below_then HW.out HW.out.size hH.2.2.2.2.2.out⟩
   have hq := HQ.out
   rw [if_pos rfl] at hq
   by_cases hx : 0 < x
   ·
    obtain ⟨g1, g2, g3, rfl, g4⟩ := H5.out hx
    have dx : decide (0 < x) = true := decide_eq_true hx
    have g5 : IntKind.i64.wrap (x - 1) = j := (i64_w _).trans g1
    rw [if_pos hx, g1, if_pos g2, if_pos g3, ← g4] at hq
    have HQ2 := az hq
    clear hq hx g4
    repeat (first | (refine Tod.pu (v := ?_) (a' := ?_) rfl rfl (by kernel_rfl) (fun _ _ _ => id) (Or.inl ⟨by rfl, ?_⟩) ?_ ?_; rotate_left; intro w'; go_simp; (with_reducible rfl); rotate_left; simp only [Act.put, List.setIfInBounds_toArray, List.set_cons_zero, List.set_cons_succ, i64_w, i32_w]; rfl) | (refine Tod.ta (v := ?_) (a' := ?_) rfl rfl (by kernel_rfl) (fun _ _ _ => id) (Or.inl ⟨by rfl, ?_⟩) hH ?_ ?_; rotate_left; (rintro w' ⟨s0, s1, s2, s3, s4, _⟩; go_simp; with_reducible rfl); rotate_left; simp only [Act.put, List.setIfInBounds_toArray, List.set_cons_zero, List.set_cons_succ, i64_w, i32_w]; rfl) | (refine Tod.pu (v := undef) (a' := ?_) rfl rfl (by kernel_rfl) (fun _ _ _ => id) (Or.inr ⟨by rfl, rfl⟩) ?_ ?_; rotate_left; simp only [Act.put, List.setIfInBounds_toArray, List.set_cons_zero, List.set_cons_succ, i64_w, i32_w]; rfl))
    refine Tod.dn (by kernel_rfl) ?_
    have hq := HQ2.out
    by_cases hz : z > e.f0
    ·
     rw [if_pos hz] at hq
     obtain rfl := Option.some.inj hq
     have dz : decide (e.f0 < z) = true := decide_eq_true hz
     rw [dz]
     clear hz hq
     go_wp2
     go_ret
     exact ⟨rfl, below_then HW.out HW.out.size hH.2.2.2.2.2.out⟩
    ·
     rw [if_neg hz] at hq
     have dz : decide (e.f0 < z) = false := decide_eq_false hz
     have HQ3 := az hq
     rw [dz]
     clear hz hq
     go_wp2
     go_roundg g
     case measure => omega
     case rel => exact ⟨y, rfl, HQ3, ⟨below_then HW.out HW.out.size hH.2.2.2.2.2.out⟩⟩
   ·
    have dx : decide (0 < x) = false := decide_eq_false hx
    rw [if_neg hx] at hq
    have HQ2 := az hq
    clear hq hx
    repeat (first | (refine Tod.pu (v := ?_) (a' := ?_) rfl rfl (by kernel_rfl) (fun _ _ _ => id) (Or.inl ⟨by rfl, ?_⟩) ?_ ?_; rotate_left; intro w'; go_simp; (with_reducible rfl); rotate_left; simp only [Act.put, List.setIfInBounds_toArray, List.set_cons_zero, List.set_cons_succ, i64_w, i32_w]; rfl) | (refine Tod.ta (v := ?_) (a' := ?_) rfl rfl (by kernel_rfl) (fun _ _ _ => id) (Or.inl ⟨by rfl, ?_⟩) hH ?_ ?_; rotate_left; (rintro w' ⟨s0, s1, s2, s3, s4, _⟩; go_simp; with_reducible rfl); rotate_left; simp only [Act.put, List.setIfInBounds_toArray, List.set_cons_zero, List.set_cons_succ, i64_w, i32_w]; rfl) | (refine Tod.pu (v := undef) (a' := ?_) rfl rfl (by kernel_rfl) (fun _ _ _ => id) (Or.inr ⟨by rfl, rfl⟩) ?_ ?_; rotate_left; simp only [Act.put, List.setIfInBounds_toArray, List.set_cons_zero, List.set_cons_succ, i64_w, i32_w]; rfl))
    refine Tod.dn (by kernel_rfl) ?_
    go_wp2
    go_roundg g
    case measure => omega
    case rel => exact ⟨y, rfl, HQ2, ⟨below_then HW.out HW.out.size hH.2.2.2.2.2.out⟩⟩
  ·
   rw [if_neg hlt] at hq
   by_cases hl : a1 ≥ 0
   ·
    have dl : decide (0 ≤ a1) = true := decide_eq_true hl
    rw [if_pos hl] at hq
    by_cases hm : a1 ≤ 80
    ·
     have dm : decide (a1 ≤ 80) = true := decide_eq_true hm
     rw [if_pos hm] at hq
     obtain rfl := Option.some.inj hq
     clear hl hq hm
     go_wp2
     go_ret
     exact ⟨by simp, HW.out⟩
    ·
     have dm : decide (a1 ≤ 80) = false := decide_eq_false hm
     rw [if_neg hm] at hq
     obtain rfl := Option.some.inj hq
     clear hl hq hm
     go_wp2
     go_ret
     exact ⟨rfl, HW.out⟩
   ·
    have dl : decide (0 ≤ a1) = false := decide_eq_false hl
    rw [if_neg hl] at hq
    obtain rfl := Option.some.inj hq
    clear hl hq
    go_wp2
    go_ret
    exact ⟨rfl, HW.out⟩
def impl_starts.l0 : Nat → List Int → List Bool → Int → Int → Option (List Int)
 | 0, _, _, _, _ => none
 | k + 1, x3, x7, x8, x9 => if x9 < x8 then (if 0 ≤ x9 then (if x9 < (x7.length : Int) then (if rdOf false x7 x9 = true then (impl_starts.l0 k x3 x7 x8 (wrap64 (x9 + 1))) else (if x3.length < 17592186044416 then (impl_starts.l0 k (x3 ++ [x9]) x7 x8 (wrap64 (x9 + 1))) else (none))) else (none)) else (none)) else (some x3)
def impl_starts.f (k : Nat) (l0 : List Int) : Option (List Int) := (impl_joined.f k l0).bind fun t320 => (impl_starts.l0 k ([] : List Int) t320 (t320.length : Int) 0)
theorem impl_starts.mono_l : ∀ k, (∀ y0 y1 y2 y3, LeO (impl_starts.l0 k y0 y1 y2 y3) (impl_starts.l0 (k + 1) y0 y1 y2 y3))
 | 0 => fun _ _ _ _ r h => by simp [impl_starts.l0] at h
 | k + 1 => by
  have ih0 := impl_starts.mono_l k
  ·
   intro y0 y1 y2 y3; unfold impl_starts.l0
   repeat' first
   | (with_reducible exact ih0 _ _ _ _)
   | (with_reducible exact impl_joined.mono _ _)
   | (with_reducible exact LeO.refl _)
   | (with_reducible exact LeO.none _)
   | (with_reducible refine LeO.ite ?_ ?_)
   | (with_reducible refine LeO.bind ?_ (fun _ => ?_))
   | exact ih0 _ _ _ _
   | exact impl_joined.mono _ _
   | exact LeO.none _
   | refine LeO.ite ?_ ?_
   | refine LeO.bind ?_ (fun _ => ?_)
theorem impl_starts.mono : ∀ a0 k, LeO (impl_starts.f k a0) (impl_starts.f (k + 1) a0) := by
 intro a0 k; have ih0 := impl_starts.mono_l k; unfold impl_starts.f
 repeat' first
   | (with_reducible exact ih0 _ _ _ _)
   | (with_reducible exact impl_joined.mono _ _)
   | (with_reducible exact LeO.refl _)
   | (with_reducible exact LeO.none _)
   | (with_reducible refine LeO.ite ?_ ?_)
   | (with_reducible refine LeO.bind ?_ (fun _ => ?_))
   | exact ih0 _ _ _ _
   | exact impl_joined.mono _ _
   | exact LeO.none _
   | refine LeO.ite ?_ ?_
   | refine LeO.bind ?_ (fun _ => ?_)
theorem impl_starts.calls (k : Nat) (A0 : Option Addr) (c0 : Nat) (l0 : List Int) (r : List Int) (w : World) (hr0 : Kd.C (Kd.int .i64) w A0 l0.length l0) (hc0 : l0.length ≤ c0) (h : impl_starts.f k l0 = some r) :
  Calls Tryz.prog 85 #[.slice A0 l0.length c0] w fun e w' => ∃ v0_ : Value, e = .returned (v0_) ∧ Kd.R (Kd.int .i64) 3 w' w.heap.size (fun _ => True) v0_ r ∧ Below w.heap.size w w' := by
 have HR0 := az hr0; have HC0 := az hc0; clear hr0 hc0; have HB := az (Below.refl w.heap.size w); have H : ((impl_joined.f k l0).bind fun t320 => (impl_starts.l0 k ([] : List Int) t320 (t320.length : Int) 0)) = some r := h; clear h; replace H := Option.bind_eq_some_iff.mp H; obtain ⟨t320, A20, H⟩ := H; replace H : (impl_starts.l0 k ([] : List Int) t320 (t320.length : Int) 0) = some r := H; have A2 := az A20; clear A20; have H' := az H; clear H; go_enter Tryz.func85, Tryz.ntmps85; go_wp2_with (first | ((with_reducible refine gate_callee (f := 79) rfl ?_); refine goesL_ (some 7) rfl rfl Tryz.func79 (by kernel_rfl) rfl #[.slice A0 l0.length c0] rfl zC ?_; (with_reducible refine (impl_joined.calls k _ _ l0 t320 _ ?side1 ?side2 A2.out).mono ?_); (case side1 => exact (zO HR0.out)); (case side2 => exact HC0.out); rintro e w3 ⟨v321, rfl, ho0, hb⟩; refine ⟨_, rfl, ?_⟩; have n0_ := az (Kd.R_lower ho0 (below_size (zA HB.out))); have n1_ := az (below_step (zA HB.out) hb); clear HB; have HO322 := n0_; have HB := n1_; clear n0_ n1_; (try clear hb); (try clear hb2); (try clear hk); (try clear hi); (try clear ho0); obtain ⟨Ao4, co4, eo4⟩ := Kd.R_slice HO322.out; subst eo4)); go_loopg [3, 9] k (fun kq v3 v9 w' => ∃ (x3_1 : List Int) (x9_1 : Int), v9 = .int .i64 x9_1 ∧ Aside0 (impl_starts.l0 kq x3_1 t320 (t320.length : Int) x9_1 = some r) ∧ Aside0 (kq ≤ k) ∧ Aside0 (Kd.R (Kd.int .i64) 3 w' w.heap.size (fun _ => True) v3 x3_1) ∧ Aside0 (Kd.R Kd.bool 4 w' w.heap.size (fun _ => True) (.slice Ao4 t320.length co4) t320) ∧ Aside0 (Below w.heap.size w w'))
 case atStart => exact ⟨(([] : List Int)), (0), zB, H', ⟨Nat.le_refl _⟩, ⟨zS⟩, ⟨zF HO322.out⟩, ⟨zA HB.out⟩⟩
 case round =>
  clear H'; (try clear p2); obtain ⟨x3_1, x9_1, rfl, HA, HK1, HO_3, HO_7, HB⟩ := hrel
  cases gk with
  | zero => exact absurd HA.out (by simp [impl_starts.l0])
  | succ k1 =>
   have H := HA.out; clear HA; simp only [impl_starts.l0] at H; by_cases c5 : x9_1 < (t320.length : Int)
   ·
    rw [if_pos c5] at H; have c5b0 : decide (x9_1 < (t320.length : Int)) = true := decide_eq_true c5; clear c5; by_cases c6 : 0 ≤ x9_1
    ·
     rw [if_pos c6] at H; have c6b0 : decide (0 ≤ x9_1) = true := decide_eq_true c6; clear c6; by_cases c7 : x9_1 < (t320.length : Int)
     ·
      rw [if_pos c7] at H; have c7b0 : decide (x9_1 < (t320.length : Int)) = true := decide_eq_true c7; clear c7; obtain ⟨bq8, hbq8⟩ : ∃ b_ : Bool, b_ = (rdOf false t320 x9_1) := ⟨_, rfl⟩; replace H : (if bq8 = true then (impl_starts.l0 k1 x3_1 t320 (t320.length : Int) (wrap64 (x9_1 + 1))) else (if x3_1.length < 17592186044416 then (impl_starts.l0 k1 (x3_1 ++ [x9_1]) t320 (t320.length : Int) (wrap64 (x9_1 + 1))) else (none))) = some r := by rw [← hbq8] at H; exact H
      have Nbq8 := az hbq8; clear hbq8; by_cases c9 : bq8 = true
      ·
       subst c9; have H1 : (impl_starts.l0 k1 x3_1 t320 (t320.length : Int) (wrap64 (x9_1 + 1))) = some r := by rw [if_pos rfl] at H; exact H
       clear H; have H := H1; clear H1; have H' := az H; clear H; have p323 : 0 ≤ (x9_1 : Int) := of_decide_eq_true (by assumption); have q323 : x9_1 < (t320.length : Int) := of_decide_eq_true (by assumption); obtain ⟨ad323, e323, hx323_0⟩ := Kd.at_bool (Kd.R_reads' HO_7.out).2.2 x9_1 p323 q323; (try rw [← Nbq8.out] at hx323_0)
       cases e323
       replace p323 := eq_true p323; replace q323 := eq_true q323; go_wp2; go_roundg k1
       case measure => have := HK1.out; omega
       case rel => exact ⟨(x3_1), (wrap64 (x9_1 + 1)), zB, H', ⟨zE HK1.out⟩, ⟨zF HO_3.out⟩, ⟨zF HO_7.out⟩, ⟨zA HB.out⟩⟩
      ·
       replace c9 := Bool.eq_false_iff.mpr c9; subst c9; have H1 : (if x3_1.length < 17592186044416 then (impl_starts.l0 k1 (x3_1 ++ [x9_1]) t320 (t320.length : Int) (wrap64 (x9_1 + 1))) else (none)) = some r := by rw [if_neg (show ¬ (false = true) by decide)] at H; exact H
       clear H; have H := H1; clear H1; by_cases c10 : x3_1.length < 17592186044416
       ·
        rw [if_pos c10] at H; have LMc10 := az c10; clear c10; obtain ⟨y324, hy324⟩ : ∃ y_ : List Int, y_ = (x3_1 ++ [x9_1]) := ⟨_, rfl⟩; replace H : (impl_starts.l0 k1 y324 t320 (t320.length : Int) (wrap64 (x9_1 + 1))) = some r := by first | (rw [hy324]; with_reducible exact H) | (have H2_ := (Option.bind_some _ _).symm.trans H; rw [hy324]; with_reducible exact H2_) | (have H2_ := (Option.bind_some _ _).symm.trans H; with_reducible exact H2_) | with_reducible exact H | (rw [hy324]; exact H) | exact H
        have Ny324 := az hy324; clear hy324; have H' := az H; clear H; have p323 : 0 ≤ (x9_1 : Int) := of_decide_eq_true (by assumption); have q323 : x9_1 < (t320.length : Int) := of_decide_eq_true (by assumption); obtain ⟨ad323, e323, hx323_0⟩ := Kd.at_bool (Kd.R_reads' HO_7.out).2.2 x9_1 p323 q323; (try rw [← Nbq8.out] at hx323_0)
        cases e323
        replace p323 := eq_true p323; replace q323 := eq_true q323; go_wp2_with (first | ((with_reducible refine gate_builtin (b := .append) (xs := #[.tmp 16, .tmp 18]) rfl ?_); at_builtin; refine Kd.R_append (Kd.int .i64) (w0 := w) w.heap.size rfl (.tmp 16) (.tmp 18) 22 3 (.int .i64 0) 8 rfl Tryz.underlying22 info3 rfl (by decide) (by omega) u3 x3_1 x9_1 [.int .i64 x9_1] (fun _ => True) (fun _ => False) rfl rfl ?aP (fun _ hk => hk.elim) ?aF ?aO ?aB ?aS ?aL ?_; (case aP => exact rfl); (case aB => exact (zA HB.out)); (case aF => exact (fun _ _ => trivial)); (case aO => exact (zF HO_3.out)); (case aS => exact (below_size (zA HB.out))); (case aL => have := LMc10.out; omega); intro v325 w11 ho hb hg hat; rw [← Ny324.out] at ho; have n0_ := az (Kd.R_over' (zF HO_7.out) (Kd.R_typed (zF HO_3.out)) (by decide) hg); have n1_ := az (hb); have n2_ := az (ho); clear HO_7; clear HB; clear HO_3; have HO_7 := n0_; have HB := n1_; have HO326 := n2_; clear n0_ n1_ n2_; clear ho hb hg hat)); go_roundg k1
        case measure => have := HK1.out; omega
        case rel => exact ⟨(y324), (wrap64 (x9_1 + 1)), zB, H', ⟨zE HK1.out⟩, ⟨zF HO326.out⟩, ⟨zF HO_7.out⟩, ⟨zA HB.out⟩⟩
       ·
        rw [if_neg c10] at H; exact absurd H (by simp)
     ·
      rw [if_neg c7] at H; exact absurd H (by simp)
    ·
     rw [if_neg c6] at H; exact absurd H (by simp)
   ·
    rw [if_neg c5] at H; have c5b0 : decide (x9_1 < (t320.length : Int)) = false := decide_eq_false c5; clear c5; obtain rfl := Option.some.inj H; go_wp2; go_ret; exact ⟨_, zG, zF HO_3.out, zA HB.out⟩
mutual
def impl_RuneWide.j0 : Nat → Int → Int → Bool → Option (Int)
 | 0, _, _, _ => none
 | k + 1, x0, x3, x6 => if x6 = true then (some 0) else (if x0 = 105 then (impl_RuneWide.j1 k x0 x3 (x0 == 105)) else (if x0 = 106 then (impl_RuneWide.j1 k x0 x3 (x0 == 106)) else (if x0 = 108 then (impl_RuneWide.j1 k x0 x3 (x0 == 108)) else (if x0 = 102 then (impl_RuneWide.j1 k x0 x3 (x0 == 102)) else (impl_RuneWide.j1 k x0 x3 (x0 == 116))))))
def impl_RuneWide.j1 : Nat → Int → Int → Bool → Option (Int)
 | 0, _, _, _ => none
 | k + 1, x0, x3, x17 => if x17 = true then (some 6) else (if x0 = 109 then (impl_RuneWide.j2 k x0 x3 (x0 == 109)) else (impl_RuneWide.j2 k x0 x3 (x0 == 119)))
def impl_RuneWide.j2 : Nat → Int → Int → Bool → Option (Int)
 | 0, _, _, _ => none
 | k + 1, x0, x3, x28 => if x28 = true then (some 16) else (if x0 ≥ 19968 then (impl_RuneWide.j3 k x3 (decide (x0 ≤ 40959))) else (impl_RuneWide.j3 k x3 false))
def impl_RuneWide.j3 : Nat → Int → Bool → Option (Int)
 | 0, _, _ => none
 | k + 1, x3, x33 => if x33 = true then (some 20) else (if x3 = 2 then (impl_RuneWide.j4 k x3 (x3 == 2)) else (impl_RuneWide.j4 k x3 (x3 == 3)))
def impl_RuneWide.j4 : Nat → Int → Bool → Option (Int)
 | 0, _, _ => none
 | k + 1, x3, x40 => if x40 = true then (some 12) else (if x3 = 11 then (some 40) else (if x3 = 12 then (some 6) else (if x3 = 8 then (some 6) else (some 10))))
end
def impl_RuneWide.f (k : Nat) (a0 : Int) : Option (Int) := (impl_RuneBidi.f a0).bind fun t327 => (if t327 = 9 then (impl_RuneWide.j0 k a0 t327 (t327 == 9)) else (if t327 = 10 then (impl_RuneWide.j0 k a0 t327 (t327 == 10)) else (if t327 ≥ 14 then (impl_RuneWide.j0 k a0 t327 (decide (t327 ≥ 14))) else (if a0 = 10 then (impl_RuneWide.j0 k a0 t327 (a0 == 10)) else (impl_RuneWide.j0 k a0 t327 (a0 == 13))))))
theorem impl_RuneWide.mono_l : ∀ k, (∀ y0 y1 y2, LeO (impl_RuneWide.j0 k y0 y1 y2) (impl_RuneWide.j0 (k + 1) y0 y1 y2)) ∧ (∀ y0 y1 y2, LeO (impl_RuneWide.j1 k y0 y1 y2) (impl_RuneWide.j1 (k + 1) y0 y1 y2)) ∧ (∀ y0 y1 y2, LeO (impl_RuneWide.j2 k y0 y1 y2) (impl_RuneWide.j2 (k + 1) y0 y1 y2)) ∧ (∀ y0 y1, LeO (impl_RuneWide.j3 k y0 y1) (impl_RuneWide.j3 (k + 1) y0 y1)) ∧ (∀ y0 y1, LeO (impl_RuneWide.j4 k y0 y1) (impl_RuneWide.j4 (k + 1) y0 y1))
 | 0 => ⟨fun _ _ _ r h => by simp [impl_RuneWide.j0] at h, fun _ _ _ r h => by simp [impl_RuneWide.j1] at h, fun _ _ _ r h => by simp [impl_RuneWide.j2] at h, fun _ _ r h => by simp [impl_RuneWide.j3] at h, fun _ _ r h => by simp [impl_RuneWide.j4] at h⟩
 | k + 1 => by
  obtain ⟨ih0, ih1, ih2, ih3, ih4⟩ := impl_RuneWide.mono_l k; refine ⟨?_, ?_, ?_, ?_, ?_⟩
  ·
   intro y0 y1 y2; unfold impl_RuneWide.j0
   repeat' first
   | (with_reducible exact ih0 _ _ _)
   | (with_reducible exact ih1 _ _ _)
   | (with_reducible exact ih2 _ _ _)
   | (with_reducible exact ih3 _ _)
   | (with_reducible exact ih4 _ _)
   | (with_reducible exact LeO.refl _)
   | (with_reducible exact LeO.none _)
   | (with_reducible refine LeO.ite ?_ ?_)
   | (with_reducible refine LeO.bind ?_ (fun _ => ?_))
   | exact ih0 _ _ _
   | exact ih1 _ _ _
   | exact ih2 _ _ _
   | exact ih3 _ _
   | exact ih4 _ _
   | exact LeO.none _
   | refine LeO.ite ?_ ?_
   | refine LeO.bind ?_ (fun _ => ?_)
  ·
   intro y0 y1 y2; unfold impl_RuneWide.j1
   repeat' first
   | (with_reducible exact ih0 _ _ _)
   | (with_reducible exact ih1 _ _ _)
   | (with_reducible exact ih2 _ _ _)
   | (with_reducible exact ih3 _ _)
   | (with_reducible exact ih4 _ _)
   | (with_reducible exact LeO.refl _)
   | (with_reducible exact LeO.none _)
   | (with_reducible refine LeO.ite ?_ ?_)
   | (with_reducible refine LeO.bind ?_ (fun _ => ?_))
   | exact ih0 _ _ _
   | exact ih1 _ _ _
   | exact ih2 _ _ _
   | exact ih3 _ _
   | exact ih4 _ _
   | exact LeO.none _
   | refine LeO.ite ?_ ?_
   | refine LeO.bind ?_ (fun _ => ?_)
  ·
   intro y0 y1 y2; unfold impl_RuneWide.j2
   repeat' first
   | (with_reducible exact ih0 _ _ _)
   | (with_reducible exact ih1 _ _ _)
   | (with_reducible exact ih2 _ _ _)
   | (with_reducible exact ih3 _ _)
   | (with_reducible exact ih4 _ _)
   | (with_reducible exact LeO.refl _)
   | (with_reducible exact LeO.none _)
   | (with_reducible refine LeO.ite ?_ ?_)
   | (with_reducible refine LeO.bind ?_ (fun _ => ?_))
   | exact ih0 _ _ _
   | exact ih1 _ _ _
   | exact ih2 _ _ _
   | exact ih3 _ _
   | exact ih4 _ _
   | exact LeO.none _
   | refine LeO.ite ?_ ?_
   | refine LeO.bind ?_ (fun _ => ?_)
  ·
   intro y0 y1; unfold impl_RuneWide.j3
   repeat' first
   | (with_reducible exact ih0 _ _ _)
   | (with_reducible exact ih1 _ _ _)
   | (with_reducible exact ih2 _ _ _)
   | (with_reducible exact ih3 _ _)
   | (with_reducible exact ih4 _ _)
   | (with_reducible exact LeO.refl _)
   | (with_reducible exact LeO.none _)
   | (with_reducible refine LeO.ite ?_ ?_)
   | (with_reducible refine LeO.bind ?_ (fun _ => ?_))
   | exact ih0 _ _ _
   | exact ih1 _ _ _
   | exact ih2 _ _ _
   | exact ih3 _ _
   | exact ih4 _ _
   | exact LeO.none _
   | refine LeO.ite ?_ ?_
   | refine LeO.bind ?_ (fun _ => ?_)
  ·
   intro y0 y1; unfold impl_RuneWide.j4
   repeat' first
   | (with_reducible exact ih0 _ _ _)
   | (with_reducible exact ih1 _ _ _)
   | (with_reducible exact ih2 _ _ _)
   | (with_reducible exact ih3 _ _)
   | (with_reducible exact ih4 _ _)
   | (with_reducible exact LeO.refl _)
   | (with_reducible exact LeO.none _)
   | (with_reducible refine LeO.ite ?_ ?_)
   | (with_reducible refine LeO.bind ?_ (fun _ => ?_))
   | exact ih0 _ _ _
   | exact ih1 _ _ _
   | exact ih2 _ _ _
   | exact ih3 _ _
   | exact ih4 _ _
   | exact LeO.none _
   | refine LeO.ite ?_ ?_
   | refine LeO.bind ?_ (fun _ => ?_)
theorem impl_RuneWide.mono : ∀ a0 k, LeO (impl_RuneWide.f k a0) (impl_RuneWide.f (k + 1) a0) := by
 intro a0 k; obtain ⟨ih0, ih1, ih2, ih3, ih4⟩ := impl_RuneWide.mono_l k; unfold impl_RuneWide.f
 repeat' first
   | (with_reducible exact ih0 _ _ _)
   | (with_reducible exact ih1 _ _ _)
   | (with_reducible exact ih2 _ _ _)
   | (with_reducible exact ih3 _ _)
   | (with_reducible exact ih4 _ _)
   | (with_reducible exact LeO.refl _)
   | (with_reducible exact LeO.none _)
   | (with_reducible refine LeO.ite ?_ ?_)
   | (with_reducible refine LeO.bind ?_ (fun _ => ?_))
   | exact ih0 _ _ _
   | exact ih1 _ _ _
   | exact ih2 _ _ _
   | exact ih3 _ _
   | exact ih4 _ _
   | exact LeO.none _
   | refine LeO.ite ?_ ?_
   | refine LeO.bind ?_ (fun _ => ?_)
theorem impl_RuneWide.calls (k : Nat) (a0 : Int) (r : Int) (w : World) (h : impl_RuneWide.f k a0 = some r) :
  Calls Tryz.prog 118 #[.int .i64 a0] w fun e w' => e = .returned (.int .i64 r) ∧ Below w.heap.size w w' := by
 have HB := az (Below.refl w.heap.size w); have H : ((impl_RuneBidi.f a0).bind fun t327 => (if t327 = 9 then (impl_RuneWide.j0 k a0 t327 (t327 == 9)) else (if t327 = 10 then (impl_RuneWide.j0 k a0 t327 (t327 == 10)) else (if t327 ≥ 14 then (impl_RuneWide.j0 k a0 t327 (decide (t327 ≥ 14))) else (if a0 = 10 then (impl_RuneWide.j0 k a0 t327 (a0 == 10)) else (impl_RuneWide.j0 k a0 t327 (a0 == 13))))))) = some r := h; clear h; replace H := Option.bind_eq_some_iff.mp H; obtain ⟨t327, A20, H⟩ := H; replace H : (if t327 = 9 then (impl_RuneWide.j0 k a0 t327 (t327 == 9)) else (if t327 = 10 then (impl_RuneWide.j0 k a0 t327 (t327 == 10)) else (if t327 ≥ 14 then (impl_RuneWide.j0 k a0 t327 (decide (t327 ≥ 14))) else (if a0 = 10 then (impl_RuneWide.j0 k a0 t327 (a0 == 10)) else (impl_RuneWide.j0 k a0 t327 (a0 == 13)))))) = some r := H; have A2 := az A20; clear A20; have HC3 := az H; clear H; go_enter Tryz.func118, Tryz.ntmps118; go_upto_if 6 with (first | ((with_reducible refine gate_callee (f := 115) rfl ?_); refine goesL_ (some 5) rfl rfl Tryz.func115 (by kernel_rfl) rfl #[.int .i64 a0] rfl zC ?_; (with_reducible refine (impl_RuneBidi.calls a0 t327 _ A2.out).mono ?_); rintro e w4 ⟨rfl, hb⟩; refine ⟨_, rfl, ?_⟩; have n0_ := az (below_step (zA HB.out) hb); clear HB; have HB := n0_; clear n0_; (try clear hb); (try clear hb2); (try clear hk); (try clear hi)))
 (try simp only [Act.put, List.setIfInBounds_toArray, List.set_cons_zero, List.set_cons_succ]); go_cut [6] (fun v6 wc => ∃ (kq : Nat) (x6_2 : Bool), v6 = .bool x6_2 ∧ Aside0 (impl_RuneWide.j0 kq a0 t327 x6_2 = some r) ∧ Aside0 (kq ≤ k) ∧ Aside0 (Below w.heap.size w wc))
 case first =>
  have H := HC3.out; clear HC3; by_cases c5 : t327 = 9
  ·
   rw [if_pos c5] at H; have c5b0 : (t327 == 9) = true := beq_iff_eq.mpr c5; have c5b1 : (t327 != 9) = false := bne_eq_false_iff_eq.mpr c5; clear c5; (first | rw [c5b0] | (simp only [i64_w, i32_w]; rw [c5b0]) | skip); have H' := az H; clear H; go_wp2; go_meet
   case rel => exact ⟨_, ((t327 == 9)), zB, H', ⟨zI⟩, ⟨zA HB.out⟩⟩
  ·
   rw [if_neg c5] at H; have c5b0 : (t327 == 9) = false := beq_eq_false_iff_ne.mpr c5; have c5b1 : (t327 != 9) = true := bne_iff_ne.mpr c5; (first | rw [c5b0] | (simp only [i64_w, i32_w]; rw [c5b0]) | skip); by_cases c6 : t327 = 10
   ·
    rw [if_pos c6] at H; have c6b0 : (t327 == 10) = true := beq_iff_eq.mpr c6; have c6b1 : (t327 != 10) = false := bne_eq_false_iff_eq.mpr c6; clear c6; have H' := az H; clear H; go_wp2; go_meet
    case rel => exact ⟨_, ((t327 == 10)), zB, H', ⟨zI⟩, ⟨zA HB.out⟩⟩
   ·
    rw [if_neg c6] at H; have c6b0 : (t327 == 10) = false := beq_eq_false_iff_ne.mpr c6; have c6b1 : (t327 != 10) = true := bne_iff_ne.mpr c6; by_cases c7 : t327 ≥ 14
    ·
     rw [if_pos c7] at H; have c7b0 : decide (14 ≤ t327) = true := decide_eq_true c7; clear c7; have H' := az H; clear H; go_wp2; go_meet
     case rel => exact ⟨_, (decide (t327 ≥ 14)), zB, H', ⟨zI⟩, ⟨zA HB.out⟩⟩
    ·
     rw [if_neg c7] at H; have c7b0 : decide (14 ≤ t327) = false := decide_eq_false c7; clear c7; by_cases c8 : a0 = 10
     ·
      rw [if_pos c8] at H; have c8b0 : (a0 == 10) = true := beq_iff_eq.mpr c8; have c8b1 : (a0 != 10) = false := bne_eq_false_iff_eq.mpr c8; clear c8; have H' := az H; clear H; go_wp2; go_meet
      case rel => exact ⟨_, ((a0 == 10)), zB, H', ⟨zI⟩, ⟨zA HB.out⟩⟩
     ·
      rw [if_neg c8] at H; have c8b0 : (a0 == 10) = false := beq_eq_false_iff_ne.mpr c8; have c8b1 : (a0 != 10) = true := bne_iff_ne.mpr c8; have H' := az H; clear H; go_wp2; go_meet
      case rel => exact ⟨_, ((a0 == 13)), zB, H', ⟨zI⟩, ⟨zA HB.out⟩⟩
 case rest =>
  clear HC3; (try clear c1); (try clear p2); (try clear c5); (try clear c5b0); (try clear c5b1); (try clear c6); (try clear c6b0); (try clear c6b1); (try clear c7); (try clear c7b0); (try clear c8); (try clear c8b0); (try clear c8b1); obtain ⟨kq, x6_2, rfl, HA, HJ2, HB⟩ := hcut
  cases kq with
  | zero => exact absurd HA.out (by simp [impl_RuneWide.j0])
  | succ kj2 =>
   have H := HA.out; clear HA; simp only [impl_RuneWide.j0] at H; by_cases c9 : x6_2 = true
   ·
    subst c9; have H1 : (some 0) = some r := by rw [if_pos rfl] at H; exact H
    clear H; have H := H1; clear H1; obtain rfl := Option.some.inj H; go_wp2; go_ret; exact ⟨zG, zA HB.out⟩
   ·
    replace c9 := Bool.eq_false_iff.mpr c9; subst c9; have H1 : (if a0 = 105 then (impl_RuneWide.j1 kj2 a0 t327 (a0 == 105)) else (if a0 = 106 then (impl_RuneWide.j1 kj2 a0 t327 (a0 == 106)) else (if a0 = 108 then (impl_RuneWide.j1 kj2 a0 t327 (a0 == 108)) else (if a0 = 102 then (impl_RuneWide.j1 kj2 a0 t327 (a0 == 102)) else (impl_RuneWide.j1 kj2 a0 t327 (a0 == 116)))))) = some r := by rw [if_neg (show ¬ (false = true) by decide)] at H; exact H
    clear H; have H := H1; clear H1; have HC10 := az H; clear H; go_upto_if 17 with (fail)
    go_cut [17] (fun v17 wc => ∃ (kq : Nat) (x17_9 : Bool), v17 = .bool x17_9 ∧ Aside0 (impl_RuneWide.j1 kq a0 t327 x17_9 = some r) ∧ Aside0 (kq ≤ kj2) ∧ Aside0 (Below w.heap.size w wc))
    case first =>
     have H := HC10.out; clear HC10; by_cases c11 : a0 = 105
     ·
      rw [if_pos c11] at H; have c11b0 : (a0 == 105) = true := beq_iff_eq.mpr c11; have c11b1 : (a0 != 105) = false := bne_eq_false_iff_eq.mpr c11; clear c11; (first | rw [c11b0] | (simp only [i64_w, i32_w]; rw [c11b0]) | skip); have H' := az H; clear H; go_wp2; go_meet
      case rel => exact ⟨_, ((a0 == 105)), zB, H', ⟨zJ HJ2.out⟩, ⟨zA HB.out⟩⟩
     ·
      rw [if_neg c11] at H; have c11b0 : (a0 == 105) = false := beq_eq_false_iff_ne.mpr c11; have c11b1 : (a0 != 105) = true := bne_iff_ne.mpr c11; (first | rw [c11b0] | (simp only [i64_w, i32_w]; rw [c11b0]) | skip); by_cases c12 : a0 = 106
      ·
       rw [if_pos c12] at H; have c12b0 : (a0 == 106) = true := beq_iff_eq.mpr c12; have c12b1 : (a0 != 106) = false := bne_eq_false_iff_eq.mpr c12; clear c12; have H' := az H; clear H; go_wp2; go_meet
       case rel => exact ⟨_, ((a0 == 106)), zB, H', ⟨zJ HJ2.out⟩, ⟨zA HB.out⟩⟩
      ·
       rw [if_neg c12] at H; have c12b0 : (a0 == 106) = false := beq_eq_false_iff_ne.mpr c12; have c12b1 : (a0 != 106) = true := bne_iff_ne.mpr c12; by_cases c13 : a0 = 108
       ·
        rw [if_pos c13] at H; have c13b0 : (a0 == 108) = true := beq_iff_eq.mpr c13; have c13b1 : (a0 != 108) = false := bne_eq_false_iff_eq.mpr c13; clear c13; have H' := az H; clear H; go_wp2; go_meet
        case rel => exact ⟨_, ((a0 == 108)), zB, H', ⟨zJ HJ2.out⟩, ⟨zA HB.out⟩⟩
       ·
        rw [if_neg c13] at H; have c13b0 : (a0 == 108) = false := beq_eq_false_iff_ne.mpr c13; have c13b1 : (a0 != 108) = true := bne_iff_ne.mpr c13; by_cases c14 : a0 = 102
        ·
         rw [if_pos c14] at H; have c14b0 : (a0 == 102) = true := beq_iff_eq.mpr c14; have c14b1 : (a0 != 102) = false := bne_eq_false_iff_eq.mpr c14; clear c14; have H' := az H; clear H; go_wp2; go_meet
         case rel => exact ⟨_, ((a0 == 102)), zB, H', ⟨zJ HJ2.out⟩, ⟨zA HB.out⟩⟩
        ·
         rw [if_neg c14] at H; have c14b0 : (a0 == 102) = false := beq_eq_false_iff_ne.mpr c14; have c14b1 : (a0 != 102) = true := bne_iff_ne.mpr c14; have H' := az H; clear H; go_wp2; go_meet
         case rel => exact ⟨_, ((a0 == 116)), zB, H', ⟨zJ HJ2.out⟩, ⟨zA HB.out⟩⟩
    case rest =>
     clear HC10; (try clear c1); (try clear p2); (try clear c5); (try clear c5b0); (try clear c5b1); (try clear c6); (try clear c6b0); (try clear c6b1); (try clear c7); (try clear c7b0); (try clear c8); (try clear c8b0); (try clear c8b1); (try clear c9); (try clear c11); (try clear c11b0); (try clear c11b1); (try clear c12); (try clear c12b0); (try clear c12b1); (try clear c13); (try clear c13b0); (try clear c13b1); (try clear c14); (try clear c14b0); (try clear c14b1); (try clear p2); obtain ⟨kq, x17_9, rfl, HA, HJ9, HB⟩ := hcut
     cases kq with
     | zero => exact absurd HA.out (by simp [impl_RuneWide.j1])
     | succ kj9 =>
      have H := HA.out; clear HA; simp only [impl_RuneWide.j1] at H; by_cases c15 : x17_9 = true
      ·
       subst c15; have H1 : (some 6) = some r := by rw [if_pos rfl] at H; exact H
       clear H; have H := H1; clear H1; obtain rfl := Option.some.inj H; go_wp2; go_ret; exact ⟨zG, zA HB.out⟩
      ·
       replace c15 := Bool.eq_false_iff.mpr c15; subst c15; have H1 : (if a0 = 109 then (impl_RuneWide.j2 kj9 a0 t327 (a0 == 109)) else (impl_RuneWide.j2 kj9 a0 t327 (a0 == 119))) = some r := by rw [if_neg (show ¬ (false = true) by decide)] at H; exact H
       clear H; have H := H1; clear H1; have HC16 := az H; clear H; go_upto_if 28 with (fail)
       go_cut [28] (fun v28 wc => ∃ (kq : Nat) (x28_15 : Bool), v28 = .bool x28_15 ∧ Aside0 (impl_RuneWide.j2 kq a0 t327 x28_15 = some r) ∧ Aside0 (kq ≤ kj9) ∧ Aside0 (Below w.heap.size w wc))
       case first =>
        have H := HC16.out; clear HC16; by_cases c17 : a0 = 109
        ·
         rw [if_pos c17] at H; have c17b0 : (a0 == 109) = true := beq_iff_eq.mpr c17; have c17b1 : (a0 != 109) = false := bne_eq_false_iff_eq.mpr c17; clear c17; (first | rw [c17b0] | (simp only [i64_w, i32_w]; rw [c17b0]) | skip); have H' := az H; clear H; go_wp2; go_meet
         case rel => exact ⟨_, ((a0 == 109)), zB, H', ⟨zN HJ2.out HJ9.out⟩, ⟨zA HB.out⟩⟩
        ·
         rw [if_neg c17] at H; have c17b0 : (a0 == 109) = false := beq_eq_false_iff_ne.mpr c17; have c17b1 : (a0 != 109) = true := bne_iff_ne.mpr c17; (first | rw [c17b0] | (simp only [i64_w, i32_w]; rw [c17b0]) | skip); have H' := az H; clear H; go_wp2; go_meet
         case rel => exact ⟨_, ((a0 == 119)), zB, H', ⟨zN HJ2.out HJ9.out⟩, ⟨zA HB.out⟩⟩
       case rest =>
        clear HC16; (try clear c1); (try clear p2); (try clear c5); (try clear c5b0); (try clear c5b1); (try clear c6); (try clear c6b0); (try clear c6b1); (try clear c7); (try clear c7b0); (try clear c8); (try clear c8b0); (try clear c8b1); (try clear c9); (try clear c11); (try clear c11b0); (try clear c11b1); (try clear c12); (try clear c12b0); (try clear c12b1); (try clear c13); (try clear c13b0); (try clear c13b1); (try clear c14); (try clear c14b0); (try clear c14b1); (try clear c15); (try clear c17); (try clear c17b0); (try clear c17b1); (try clear p2); obtain ⟨kq, x28_15, rfl, HA, HJ15, HB⟩ := hcut
        cases kq with
        | zero => exact absurd HA.out (by simp [impl_RuneWide.j2])
        | succ kj15 =>
         have H := HA.out; clear HA; simp only [impl_RuneWide.j2] at H; by_cases c18 : x28_15 = true
         ·
          subst c18; have H1 : (some 16) = some r := by rw [if_pos rfl] at H; exact H
          clear H; have H := H1; clear H1; obtain rfl := Option.some.inj H; go_wp2; go_ret; exact ⟨zG, zA HB.out⟩
         ·
          replace c18 := Bool.eq_false_iff.mpr c18; subst c18; have H1 : (if a0 ≥ 19968 then (impl_RuneWide.j3 kj15 t327 (decide (a0 ≤ 40959))) else (impl_RuneWide.j3 kj15 t327 false)) = some r := by rw [if_neg (show ¬ (false = true) by decide)] at H; exact H
          clear H; have H := H1; clear H1; have HC19 := az H; clear H; go_upto_region 17 with (fail)
          go_cut [33] (fun v33 wc => ∃ (kq : Nat) (x33_18 : Bool), v33 = .bool x33_18 ∧ Aside0 (impl_RuneWide.j3 kq t327 x33_18 = some r) ∧ Aside0 (kq ≤ kj15) ∧ Aside0 (Below w.heap.size w wc))
          case first =>
           have H := HC19.out; clear HC19; by_cases c20 : a0 ≥ 19968
           ·
            rw [if_pos c20] at H; have c20b0 : decide (19968 ≤ a0) = true := decide_eq_true c20; clear c20; (first | rw [c20b0] | (simp only [i64_w, i32_w]; rw [c20b0]) | skip); have H' := az H; clear H; go_wp2; go_meet
            case rel => exact ⟨_, (decide (a0 ≤ 40959)), zB, H', ⟨zT HJ2.out HJ9.out HJ15.out⟩, ⟨zA HB.out⟩⟩
           ·
            rw [if_neg c20] at H; have c20b0 : decide (19968 ≤ a0) = false := decide_eq_false c20; clear c20; (first | rw [c20b0] | (simp only [i64_w, i32_w]; rw [c20b0]) | skip); have H' := az H; clear H; go_wp2; go_meet
            case rel => exact ⟨_, (false), zB, H', ⟨zT HJ2.out HJ9.out HJ15.out⟩, ⟨zA HB.out⟩⟩
          case rest =>
           clear HC19; (try clear c1); (try clear c2); (try clear p2); (try clear c5); (try clear c5b0); (try clear c5b1); (try clear c6); (try clear c6b0); (try clear c6b1); (try clear c7); (try clear c7b0); (try clear c8); (try clear c8b0); (try clear c8b1); (try clear c9); (try clear c11); (try clear c11b0); (try clear c11b1); (try clear c12); (try clear c12b0); (try clear c12b1); (try clear c13); (try clear c13b0); (try clear c13b1); (try clear c14); (try clear c14b0); (try clear c14b1); (try clear c15); (try clear c17); (try clear c17b0); (try clear c17b1); (try clear c18); (try clear c20); (try clear c20b0); (try clear p2); obtain ⟨kq, x33_18, rfl, HA, HJ18, HB⟩ := hcut
           cases kq with
           | zero => exact absurd HA.out (by simp [impl_RuneWide.j3])
           | succ kj18 =>
            have H := HA.out; clear HA; simp only [impl_RuneWide.j3] at H; by_cases c21 : x33_18 = true
            ·
             subst c21; have H1 : (some 20) = some r := by rw [if_pos rfl] at H; exact H
             clear H; have H := H1; clear H1; obtain rfl := Option.some.inj H; go_wp2; go_ret; exact ⟨zG, zA HB.out⟩
            ·
             replace c21 := Bool.eq_false_iff.mpr c21; subst c21; have H1 : (if t327 = 2 then (impl_RuneWide.j4 kj18 t327 (t327 == 2)) else (impl_RuneWide.j4 kj18 t327 (t327 == 3))) = some r := by rw [if_neg (show ¬ (false = true) by decide)] at H; exact H
             clear H; have H := H1; clear H1; have HC22 := az H; clear H; go_upto_if 40 with (fail)
             go_cut [40] (fun v40 wc => ∃ (kq : Nat) (x40_21 : Bool), v40 = .bool x40_21 ∧ Aside0 (impl_RuneWide.j4 kq t327 x40_21 = some r) ∧ Aside0 (kq ≤ kj18) ∧ Aside0 (Below w.heap.size w wc))
             case first =>
              have H := HC22.out; clear HC22; by_cases c23 : t327 = 2
              ·
               rw [if_pos c23] at H; have c23b0 : (t327 == 2) = true := beq_iff_eq.mpr c23; have c23b1 : (t327 != 2) = false := bne_eq_false_iff_eq.mpr c23; clear c23; (first | rw [c23b0] | (simp only [i64_w, i32_w]; rw [c23b0]) | skip); have H' := az H; clear H; go_wp2; go_meet
               case rel => exact ⟨_, ((t327 == 2)), zB, H', ⟨by have := HJ2.out; have := HJ9.out; have := HJ15.out; have := HJ18.out; first | omega | exact Nat.le_refl _⟩, ⟨zA HB.out⟩⟩
              ·
               rw [if_neg c23] at H; have c23b0 : (t327 == 2) = false := beq_eq_false_iff_ne.mpr c23; have c23b1 : (t327 != 2) = true := bne_iff_ne.mpr c23; (first | rw [c23b0] | (simp only [i64_w, i32_w]; rw [c23b0]) | skip); have H' := az H; clear H; go_wp2; go_meet
               case rel => exact ⟨_, ((t327 == 3)), zB, H', ⟨by have := HJ2.out; have := HJ9.out; have := HJ15.out; have := HJ18.out; first | omega | exact Nat.le_refl _⟩, ⟨zA HB.out⟩⟩
             case rest =>
              clear HC22; (try clear c1); (try clear c2); (try clear p2); (try clear c5); (try clear c5b0); (try clear c5b1); (try clear c6); (try clear c6b0); (try clear c6b1); (try clear c7); (try clear c7b0); (try clear c8); (try clear c8b0); (try clear c8b1); (try clear c9); (try clear c11); (try clear c11b0); (try clear c11b1); (try clear c12); (try clear c12b0); (try clear c12b1); (try clear c13); (try clear c13b0); (try clear c13b1); (try clear c14); (try clear c14b0); (try clear c14b1); (try clear c15); (try clear c17); (try clear c17b0); (try clear c17b1); (try clear c18); (try clear c20); (try clear c20b0); (try clear c21); (try clear c23); (try clear c23b0); (try clear c23b1); (try clear p2); obtain ⟨kq, x40_21, rfl, HA, HJ21, HB⟩ := hcut
              cases kq with
              | zero => exact absurd HA.out (by simp [impl_RuneWide.j4])
              | succ kj21 =>
               have H := HA.out; clear HA; simp only [impl_RuneWide.j4] at H; by_cases c24 : x40_21 = true
               ·
                subst c24; have H1 : (some 12) = some r := by rw [if_pos rfl] at H; exact H
                clear H; have H := H1; clear H1; obtain rfl := Option.some.inj H; go_wp2; go_ret; exact ⟨zG, zA HB.out⟩
               ·
                replace c24 := Bool.eq_false_iff.mpr c24; subst c24; have H1 : (if t327 = 11 then (some 40) else (if t327 = 12 then (some 6) else (if t327 = 8 then (some 6) else (some 10)))) = some r := by rw [if_neg (show ¬ (false = true) by decide)] at H; exact H
                clear H; have H := H1; clear H1; by_cases c25 : t327 = 11
                ·
                 rw [if_pos c25] at H; have c25b0 : (t327 == 11) = true := beq_iff_eq.mpr c25; have c25b1 : (t327 != 11) = false := bne_eq_false_iff_eq.mpr c25; clear c25; obtain rfl := Option.some.inj H; go_wp2; go_ret; exact ⟨zG, zA HB.out⟩
                ·
                 rw [if_neg c25] at H; have c25b0 : (t327 == 11) = false := beq_eq_false_iff_ne.mpr c25; have c25b1 : (t327 != 11) = true := bne_iff_ne.mpr c25; by_cases c26 : t327 = 12
                 ·
                  rw [if_pos c26] at H; have c26b0 : (t327 == 12) = true := beq_iff_eq.mpr c26; have c26b1 : (t327 != 12) = false := bne_eq_false_iff_eq.mpr c26; clear c26; obtain rfl := Option.some.inj H; go_wp2; go_ret; exact ⟨zG, zA HB.out⟩
                 ·
                  rw [if_neg c26] at H; have c26b0 : (t327 == 12) = false := beq_eq_false_iff_ne.mpr c26; have c26b1 : (t327 != 12) = true := bne_iff_ne.mpr c26; by_cases c27 : t327 = 8
                  ·
                   rw [if_pos c27] at H; have c27b0 : (t327 == 8) = true := beq_iff_eq.mpr c27; have c27b1 : (t327 != 8) = false := bne_eq_false_iff_eq.mpr c27; clear c27; obtain rfl := Option.some.inj H; go_wp2; go_ret; exact ⟨zG, zA HB.out⟩
                  ·
                   rw [if_neg c27] at H; have c27b0 : (t327 == 8) = false := beq_eq_false_iff_ne.mpr c27; have c27b1 : (t327 != 8) = true := bne_iff_ne.mpr c27; obtain rfl := Option.some.inj H; go_wp2; go_ret; exact ⟨zG, zA HB.out⟩
def impl_clusterWide.l0 : Nat → List Int → List Bool → Int → Int → Option (Int)
 | 0, _, _, _, _ => none
 | k + 1, x0, x5, x6, x7 => if x7 < (x0.length : Int) then (if 0 ≤ x7 then (if x7 < (x5.length : Int) then (if rdOf false x5 x7 = true then ((impl_RuneWide.f k (rd x0 x7)).bind fun t335 => (impl_clusterWide.l0 k x0 x5 (mx x6 t335) (wrap64 (x7 + 1)))) else (some x6)) else (none)) else (none)) else (some x6)
def impl_clusterWide.f (k : Nat) (l0 : List Int) (a1 : Int) : Option (Int) := (impl_joined.f k l0).bind fun t328 => (if 0 ≤ a1 then (if a1 < (l0.length : Int) then ((impl_RuneWide.f k (rd l0 a1)).bind fun t332 => (impl_clusterWide.l0 k l0 t328 t332 (wrap64 (a1 + 1)))) else (none)) else (none))
theorem impl_clusterWide.mono_l : ∀ k, (∀ y0 y1 y2 y3, LeO (impl_clusterWide.l0 k y0 y1 y2 y3) (impl_clusterWide.l0 (k + 1) y0 y1 y2 y3))
 | 0 => fun _ _ _ _ r h => by simp [impl_clusterWide.l0] at h
 | k + 1 => by
  have ih0 := impl_clusterWide.mono_l k
  ·
   intro y0 y1 y2 y3; unfold impl_clusterWide.l0
   repeat' first
   | (with_reducible exact ih0 _ _ _ _)
   | (with_reducible exact impl_RuneWide.mono _ _)
   | (with_reducible exact impl_joined.mono _ _)
   | (with_reducible exact LeO.refl _)
   | (with_reducible exact LeO.none _)
   | (with_reducible refine LeO.ite ?_ ?_)
   | (with_reducible refine LeO.bind ?_ (fun _ => ?_))
   | exact ih0 _ _ _ _
   | exact impl_RuneWide.mono _ _
   | exact impl_joined.mono _ _
   | exact LeO.none _
   | refine LeO.ite ?_ ?_
   | refine LeO.bind ?_ (fun _ => ?_)
theorem impl_clusterWide.mono : ∀ a0 a1 k, LeO (impl_clusterWide.f k a0 a1) (impl_clusterWide.f (k + 1) a0 a1) := by
 intro a0 a1 k; have ih0 := impl_clusterWide.mono_l k; unfold impl_clusterWide.f
 repeat' first
   | (with_reducible exact ih0 _ _ _ _)
   | (with_reducible exact impl_RuneWide.mono _ _)
   | (with_reducible exact impl_joined.mono _ _)
   | (with_reducible exact LeO.refl _)
   | (with_reducible exact LeO.none _)
   | (with_reducible refine LeO.ite ?_ ?_)
   | (with_reducible refine LeO.bind ?_ (fun _ => ?_))
   | exact ih0 _ _ _ _
   | exact impl_RuneWide.mono _ _
   | exact impl_joined.mono _ _
   | exact LeO.none _
   | refine LeO.ite ?_ ?_
   | refine LeO.bind ?_ (fun _ => ?_)
theorem impl_clusterWide.calls (k : Nat) (A0 : Option Addr) (c0 : Nat) (l0 : List Int) (a1 : Int) (r : Int) (w : World) (hr0 : Kd.C (Kd.int .i64) w A0 l0.length l0) (hc0 : l0.length ≤ c0) (h : impl_clusterWide.f k l0 a1 = some r) :
  Calls Tryz.prog 86 #[.slice A0 l0.length c0, .int .i64 a1] w fun e w' => e = .returned (.int .i64 r) ∧ Below w.heap.size w w' := by
 have HR0 := az hr0; have HC0 := az hc0; clear hr0 hc0; have HB := az (Below.refl w.heap.size w); have H : ((impl_joined.f k l0).bind fun t328 => (if 0 ≤ a1 then (if a1 < (l0.length : Int) then ((impl_RuneWide.f k (rd l0 a1)).bind fun t332 => (impl_clusterWide.l0 k l0 t328 t332 (wrap64 (a1 + 1)))) else (none)) else (none))) = some r := h; clear h; replace H := Option.bind_eq_some_iff.mp H; obtain ⟨t328, A30, H⟩ := H; replace H : (if 0 ≤ a1 then (if a1 < (l0.length : Int) then ((impl_RuneWide.f k (rd l0 a1)).bind fun t332 => (impl_clusterWide.l0 k l0 t328 t332 (wrap64 (a1 + 1)))) else (none)) else (none)) = some r := H; have A3 := az A30; clear A30; by_cases c4 : 0 ≤ a1
 ·
  rw [if_pos c4] at H; have c4b0 : decide (0 ≤ a1) = true := decide_eq_true c4; clear c4; by_cases c5 : a1 < (l0.length : Int)
  ·
   rw [if_pos c5] at H; have c5b0 : decide (a1 < (l0.length : Int)) = true := decide_eq_true c5; clear c5; replace H := Option.bind_eq_some_iff.mp H; obtain ⟨t332, A60, H⟩ := H; replace H : (impl_clusterWide.l0 k l0 t328 t332 (wrap64 (a1 + 1))) = some r := H; have A6 := az A60; clear A60; have H' := az H; clear H; go_enter Tryz.func86, Tryz.ntmps86; go_wp2_with (first | ((with_reducible refine gate_callee (f := 79) rfl ?_); refine goesL_ (some 9) rfl rfl Tryz.func79 (by kernel_rfl) rfl #[.slice A0 l0.length c0] rfl zC ?_; (with_reducible refine (impl_joined.calls k _ _ l0 t328 _ ?side1 ?side2 A3.out).mono ?_); (case side1 => exact (zO HR0.out)); (case side2 => exact HC0.out); rintro e w7 ⟨v329, rfl, ho0, hb⟩; refine ⟨_, rfl, ?_⟩; have n0_ := az (Kd.R_lower ho0 (below_size (zA HB.out))); have n1_ := az (below_step (zA HB.out) hb); clear HB; have HO330 := n0_; have HB := n1_; clear n0_ n1_; (try clear hb); (try clear hb2); (try clear hk); (try clear hi); (try clear ho0); have p331 : 0 ≤ (a1 : Int) := of_decide_eq_true (by assumption); have q331 : a1 < (l0.length : Int) := of_decide_eq_true (by assumption); obtain ⟨ad331, e331, hx331_0⟩ := Kd.at_int HR0.out a1 p331 q331; cases e331; replace hx331_0 := (HB.out.cell (World.block_lt_of_cell? w _ hx331_0)).trans hx331_0; replace p331 := eq_true p331; replace q331 := eq_true q331) | ((with_reducible refine gate_callee (f := 118) rfl ?_); refine goesL_ (some 14) rfl rfl Tryz.func118 (by kernel_rfl) rfl #[.int .i64 (rd l0 a1)] rfl zC ?_; (with_reducible refine (impl_RuneWide.calls k (rd l0 a1) t332 _ A6.out).mono ?_); rintro e w8 ⟨rfl, hb⟩; refine ⟨_, rfl, ?_⟩; have n0_ := az (Kd.R_below (zF HO330.out) hb); have n1_ := az (below_step (zA HB.out) hb); clear HO330; clear HB; have HO330 := n0_; have HB := n1_; clear n0_ n1_; (try clear hb); (try clear hb2); (try clear hk); (try clear hi))); go_loopg [6, 7] k (fun kq v6 v7 w' => ∃ (x6_1 : Int) (x7_1 : Int), v6 = .int .i64 x6_1 ∧ v7 = .int .i64 x7_1 ∧ Aside0 (impl_clusterWide.l0 kq l0 t328 x6_1 x7_1 = some r) ∧ Aside0 (kq ≤ k) ∧ Aside0 (Kd.R Kd.bool 4 w' w.heap.size (fun _ => True) v329 t328) ∧ Aside0 (Below w.heap.size w w'))
   case atStart => exact ⟨(t332), (wrap64 (a1 + 1)), zB, zB, H', ⟨Nat.le_refl _⟩, ⟨zF HO330.out⟩, ⟨zA HB.out⟩⟩
   case round =>
    clear H'; (try clear c1); (try clear p2); (try clear p3); (try clear q3); (try clear hx3); (try clear c4); (try clear c4b0); (try clear c5); (try clear c5b0); (try clear p6); (try clear c7); (try clear c8); (try clear hx331_0); (try clear p331); (try clear q331); obtain ⟨x6_1, x7_1, rfl, rfl, HA, HK1, HO_5, HB⟩ := hrel
    cases gk with
    | zero => exact absurd HA.out (by simp [impl_clusterWide.l0])
    | succ k1 =>
     have H := HA.out; clear HA; simp only [impl_clusterWide.l0] at H; by_cases c9 : x7_1 < (l0.length : Int)
     ·
      rw [if_pos c9] at H; have c9b0 : decide (x7_1 < (l0.length : Int)) = true := decide_eq_true c9; clear c9; by_cases c10 : 0 ≤ x7_1
      ·
       rw [if_pos c10] at H; have c10b0 : decide (0 ≤ x7_1) = true := decide_eq_true c10; clear c10; by_cases c11 : x7_1 < (t328.length : Int)
       ·
        rw [if_pos c11] at H; have c11b0 : decide (x7_1 < (t328.length : Int)) = true := decide_eq_true c11; clear c11; obtain ⟨bq12, hbq12⟩ : ∃ b_ : Bool, b_ = (rdOf false t328 x7_1) := ⟨_, rfl⟩; replace H : (if bq12 = true then ((impl_RuneWide.f k1 (rd l0 x7_1)).bind fun t335 => (impl_clusterWide.l0 k1 l0 t328 (mx x6_1 t335) (wrap64 (x7_1 + 1)))) else (some x6_1)) = some r := by rw [← hbq12] at H; exact H
        have Nbq12 := az hbq12; clear hbq12; by_cases c13 : bq12 = true
        ·
         subst c13; have H1 : ((impl_RuneWide.f k1 (rd l0 x7_1)).bind fun t335 => (impl_clusterWide.l0 k1 l0 t328 (mx x6_1 t335) (wrap64 (x7_1 + 1)))) = some r := by rw [if_pos rfl] at H; exact H
         clear H; have H := H1; clear H1; replace H := Option.bind_eq_some_iff.mp H; obtain ⟨t335, A140, H⟩ := H; replace H : (impl_clusterWide.l0 k1 l0 t328 (mx x6_1 t335) (wrap64 (x7_1 + 1))) = some r := H; have A14 := az A140; clear A140; obtain ⟨ji15, hji15⟩ : ∃ j_ : Int, (mx x6_1 t335) = j_ := ⟨_, rfl⟩; replace H : (impl_clusterWide.l0 k1 l0 t328 ji15 (wrap64 (x7_1 + 1))) = some r := by first | (rw [hji15] at H; exact H) | (simp only [hji15] at H ⊢; exact H)
         (try rw [hji15] at A14); have hji15_ : (if x6_1 < t335 then t335 else x6_1) = ji15 := hji15; have H' := az H; clear H; obtain ⟨Ao16, co16, eo16⟩ := Kd.R_slice HO_5.out; subst eo16; have p333 : 0 ≤ (x7_1 : Int) := of_decide_eq_true (by assumption); have q333 : x7_1 < (t328.length : Int) := of_decide_eq_true (by assumption); obtain ⟨ad333, e333, hx333_0⟩ := Kd.at_bool (Kd.R_reads' HO_5.out).2.2 x7_1 p333 q333; (try rw [← Nbq12.out] at hx333_0)
         cases e333
         replace p333 := eq_true p333; replace q333 := eq_true q333; have p334 : 0 ≤ (x7_1 : Int) := of_decide_eq_true (by assumption); have q334 : x7_1 < (l0.length : Int) := of_decide_eq_true (by assumption); obtain ⟨ad334, e334, hx334_0⟩ := Kd.at_int HR0.out x7_1 p334 q334; obtain rfl : ad331 = ad334 := (by injection e334); replace hx334_0 := (HB.out.cell (World.block_lt_of_cell? w _ hx334_0)).trans hx334_0; replace p334 := eq_true p334; replace q334 := eq_true q334; go_wp2_with (first | ((with_reducible refine gate_callee (f := 118) rfl ?_); refine goesL_ (some 34) rfl rfl Tryz.func118 (by kernel_rfl) rfl #[.int .i64 (rd l0 x7_1)] rfl zC ?_; (with_reducible refine (impl_RuneWide.calls k1 (rd l0 x7_1) t335 _ A14.out).mono ?_); rintro e w17 ⟨rfl, hb⟩; refine ⟨_, rfl, ?_⟩; have n0_ := az (Kd.R_below (zF HO_5.out) hb); have n1_ := az (below_step (zA HB.out) hb); clear HO_5; clear HB; have HO_5 := n0_; have HB := n1_; clear n0_ n1_; (try clear hb); (try clear hb2); (try clear hk); (try clear hi))); go_roundg k1
         case measure => have := HK1.out; omega
         case rel => exact ⟨(ji15), (wrap64 (x7_1 + 1)), (by first | rfl | (simp; done) | (simp only [← hji15] <;> (first | rfl | simp)) | (simp [*]; done)), zB, H', ⟨zE HK1.out⟩, ⟨zF HO_5.out⟩, ⟨zA HB.out⟩⟩
        ·
         replace c13 := Bool.eq_false_iff.mpr c13; subst c13; have H1 : (some x6_1) = some r := by rw [if_neg (show ¬ (false = true) by decide)] at H; exact H
         clear H; have H := H1; clear H1; obtain rfl := Option.some.inj H; obtain ⟨Ao18, co18, eo18⟩ := Kd.R_slice HO_5.out; subst eo18; have p333 : 0 ≤ (x7_1 : Int) := of_decide_eq_true (by assumption); have q333 : x7_1 < (t328.length : Int) := of_decide_eq_true (by assumption); obtain ⟨ad333, e333, hx333_0⟩ := Kd.at_bool (Kd.R_reads' HO_5.out).2.2 x7_1 p333 q333; (try rw [← Nbq12.out] at hx333_0)
         cases e333
         replace p333 := eq_true p333; replace q333 := eq_true q333; go_wp2; go_ret; exact ⟨zG, zA HB.out⟩
       ·
        rw [if_neg c11] at H; exact absurd H (by simp)
      ·
       rw [if_neg c10] at H; exact absurd H (by simp)
     ·
      rw [if_neg c9] at H; have c9b0 : decide (x7_1 < (l0.length : Int)) = false := decide_eq_false c9; clear c9; obtain rfl := Option.some.inj H; go_wp2; go_ret; exact ⟨zG, zA HB.out⟩
  ·
   rw [if_neg c5] at H; exact absurd H (by simp)
 ·
  rw [if_neg c4] at H; exact absurd H (by simp)
def impl_plainLook.f  : Option (Int × Int) := some (10, 0)
theorem impl_plainLook.calls  (r1 : Int) (r2 : Int) (w : World) (h : impl_plainLook.f  = some (r1, r2)) :
  Calls Tryz.prog 119 #[] w fun e w' => e = .returned (.agg #[.int .i64 r1, .int .i64 r2]) ∧ Below w.heap.size w w' := by
 have hu99 := Tryz.underlying99
 have HB := az (Below.refl w.heap.size w)
 have H : (some (10, 0)) = some (r1, r2) := h
 clear h
 simp only [Option.some.injEq, Prod.mk.injEq] at H
 obtain ⟨rfl, rfl⟩ := H
 go_enter Tryz.func119, Tryz.ntmps119
 go_wp2_with (first | ((with_reducible refine gate_dst (N := 0) rfl ?_); refine box_event ?hg (N := 0) ?hd (cs := #[.int .i64 0, .int .i64 0]) (t := 99) ?hr ?_; (case hd => rfl); (case hg => rfl); (case hr => first | (go_simp; done) | (go_simp; rfl)); intro gb336 hg w1 hbox hb; have n0_ := az (below_step (zA HB.out) hb); have n1_ := az (hbox); have n2_ := az ((by rw [hg]; exact (below_size (zA HB.out)) : w.heap.size ≤ gb336)); have n3_ := az ((by rw [hg]; exact (below_size (zA HB.out)) : w.heap.size ≤ gb336)); clear HB; have HB := n0_; have BK336 := n1_; have GW336 := n2_; have GE336 := n3_; clear n0_ n1_ n2_ n3_; clear hb hbox hg; have hcz2_0 : w1.cell? ⟨gb336, 0, none⟩ = some (.int .i64 0) := (blk_cell BK336.out 0).trans rfl; have hcz2_1 : w1.cell? ⟨gb336, 1, none⟩ = some (.int .i64 0) := (blk_cell BK336.out 1).trans rfl; have hfz2_0 := blk_frozen BK336.out 0; have hfz2_1 := blk_frozen BK336.out 1))
 refine bodyPost_ret (results_cell_row rfl _ _ gb336 99 #[.int .i64 10, .int .i64 0] (0, 0) _ rfl (by (with_reducible repeat (first | refine blk_drewN ?_ _ | refine blk_drew ?_ | refine blk_alloc ?_ _)); refine blk_put (cs := #[.int .i64 10, .int .i64 0]) ?_ 1 _ rfl; (with_reducible repeat (first | refine blk_drewN ?_ _ | refine blk_drew ?_ | refine blk_alloc ?_ _)); refine blk_put (cs := #[.int .i64 0, .int .i64 0]) ?_ 0 _ rfl; (with_reducible repeat (first | refine blk_drewN ?_ _ | refine blk_drew ?_ | refine blk_alloc ?_ _)); exact BK336.out) Tryz.underlying99 rfl (by kernel_rfl)) rfl ?_
 exact ⟨zG, zK HB.out GE336.out⟩
def impl_lookAt.l0 : Nat → Int → List (S50) → Int → Int → Option (Int × Int)
 | 0, _, _, _, _ => none
 | k + 1, x1, x7, x8, x9 => if x9 < x8 then (if 0 ≤ x9 then (if x9 < (x7.length : Int) then (if x1 ≥ ((rd_T50 x7 x9).f0) then (if x1 < ((rd_T50 x7 x9).f1) then (some ((rd_T50 x7 x9).f2, (rd_T50 x7 x9).f3)) else (impl_lookAt.l0 k x1 x7 x8 (wrap64 (x9 + 1)))) else (impl_lookAt.l0 k x1 x7 x8 (wrap64 (x9 + 1)))) else (none)) else (none)) else ((impl_plainLook.f).bind fun bt340 => (some (bt340.1, bt340.2)))
def impl_lookAt.f (k : Nat) (l0 : List (S50)) (a1 : Int) : Option (Int × Int) := impl_lookAt.l0 k a1 l0 (l0.length : Int) 0
theorem impl_lookAt.mono_l : ∀ k, (∀ y0 y1 y2 y3, LeO (impl_lookAt.l0 k y0 y1 y2 y3) (impl_lookAt.l0 (k + 1) y0 y1 y2 y3))
 | 0 => fun _ _ _ _ r h => by simp [impl_lookAt.l0] at h
 | k + 1 => by
  have ih0 := impl_lookAt.mono_l k
  ·
   intro y0 y1 y2 y3; unfold impl_lookAt.l0
   repeat' first
   | (with_reducible exact ih0 _ _ _ _)
   | (with_reducible exact LeO.refl _)
   | (with_reducible exact LeO.none _)
   | (with_reducible refine LeO.ite ?_ ?_)
   | (with_reducible refine LeO.bind ?_ (fun _ => ?_))
   | exact ih0 _ _ _ _
   | exact LeO.none _
   | refine LeO.ite ?_ ?_
   | refine LeO.bind ?_ (fun _ => ?_)
theorem impl_lookAt.mono : ∀ a0 a1 k, LeO (impl_lookAt.f k a0 a1) (impl_lookAt.f (k + 1) a0 a1) := by
 intro a0 a1 k; have ih0 := impl_lookAt.mono_l k; unfold impl_lookAt.f
 repeat' first
   | (with_reducible exact ih0 _ _ _ _)
   | (with_reducible exact LeO.refl _)
   | (with_reducible exact LeO.none _)
   | (with_reducible refine LeO.ite ?_ ?_)
   | (with_reducible refine LeO.bind ?_ (fun _ => ?_))
   | exact ih0 _ _ _ _
   | exact LeO.none _
   | refine LeO.ite ?_ ?_
   | refine LeO.bind ?_ (fun _ => ?_)
theorem impl_lookAt.calls (k : Nat) (A0 : Option Addr) (c0 : Nat) (l0 : List (S50)) (a1 : Int) (r1 : Int) (r2 : Int) (w : World) (hr0 : Kd.C k50 w A0 l0.length l0) (hc0 : l0.length ≤ c0) (h : impl_lookAt.f k l0 a1 = some (r1, r2)) :
  Calls Tryz.prog 87 #[.slice A0 l0.length c0, .int .i64 a1] w fun e w' => e = .returned (.agg #[.int .i64 r1, .int .i64 r2]) ∧ Below w.heap.size w w' := by
 have hu99 := Tryz.underlying99; have hu50 := Tryz.underlying50; have HR0 := az hr0; have HC0 := az hc0; clear hr0 hc0; have HB := az (Below.refl w.heap.size w); have H : (impl_lookAt.l0 k a1 l0 (l0.length : Int) 0) = some (r1, r2) := h; clear h; have H' := az H; clear H; go_enter Tryz.func87, Tryz.ntmps87; go_wp2_with (first | ((with_reducible refine gate_dst (N := 4) rfl ?_); refine box_event ?hg (N := 4) ?hd (cs := #[.int .i64 0, .int .i64 0]) (t := 99) ?hr ?_; (case hd => rfl); (case hg => rfl); (case hr => first | (go_simp; done) | (go_simp; rfl)); intro gb337 hg w3 hbox hb; have n0_ := az (below_step (zA HB.out) hb); have n1_ := az (hbox); have n2_ := az ((by rw [hg]; exact (below_size (zA HB.out)) : w.heap.size ≤ gb337)); have n3_ := az ((by rw [hg]; exact (below_size (zA HB.out)) : w.heap.size ≤ gb337)); clear HB; have HB := n0_; have BK337 := n1_; have GW337 := n2_; have GE337 := n3_; clear n0_ n1_ n2_ n3_; clear hb hbox hg)); go_loopg [9] k (fun kq v9 w' => ∃ (x9_1 : Int) (x338000_1 : Int) (x338001_1 : Int), v9 = .int .i64 x9_1 ∧ Aside0 (impl_lookAt.l0 kq a1 l0 (l0.length : Int) x9_1 = some (r1, r2)) ∧ Aside0 (kq ≤ k) ∧ Aside0 (w'.heap[gb337]? = some (.cells #[.int .i64 x338000_1, .int .i64 x338001_1] 99 (0, 0))) ∧ Aside0 (Below w.heap.size w w'))
 case atStart => exact ⟨(0), (0), (0), zB, H', ⟨Nat.le_refl _⟩, ⟨zP BK337.out⟩, ⟨zK HB.out GE337.out⟩⟩
 case round =>
  clear H'; (try clear p2); obtain ⟨x9_1, x338000_1, x338001_1, rfl, HA, HK1, BK337, HB⟩ := hrel
  cases gk with
  | zero => exact absurd HA.out (by simp [impl_lookAt.l0])
  | succ k1 =>
   have H := HA.out; clear HA; simp only [impl_lookAt.l0] at H; by_cases c4 : x9_1 < (l0.length : Int)
   ·
    rw [if_pos c4] at H; have c4b0 : decide (x9_1 < (l0.length : Int)) = true := decide_eq_true c4; clear c4; by_cases c5 : 0 ≤ x9_1
    ·
     rw [if_pos c5] at H; have c5b0 : decide (0 ≤ x9_1) = true := decide_eq_true c5; clear c5; by_cases c6 : x9_1 < (l0.length : Int)
     ·
      rw [if_pos c6] at H; have c6b0 : decide (x9_1 < (l0.length : Int)) = true := decide_eq_true c6; clear c6; by_cases c7 : a1 ≥ ((rd_T50 l0 x9_1).f0)
      ·
       rw [if_pos c7] at H; have c7b0 : decide (((rd_T50 l0 x9_1).f0) ≤ a1) = true := decide_eq_true c7; clear c7; by_cases c8 : a1 < ((rd_T50 l0 x9_1).f1)
       ·
        rw [if_pos c8] at H; have c8b0 : decide (a1 < ((rd_T50 l0 x9_1).f1)) = true := decide_eq_true c8; clear c8; simp only [Option.some.injEq, Prod.mk.injEq] at H; obtain ⟨rfl, rfl⟩ := H; have p338 : 0 ≤ (x9_1 : Int) := of_decide_eq_true (by assumption); have q338 : x9_1 < (l0.length : Int) := of_decide_eq_true (by assumption); obtain ⟨ad338, e338, hx338_0, hx338_1, hx338_2, hx338_3⟩ := at_T50 HR0.out x9_1 p338 q338
        cases e338
        replace hx338_0 := (HB.out.cell (World.block_lt_of_cell? w _ hx338_0)).trans hx338_0; replace hx338_1 := (HB.out.cell (World.block_lt_of_cell? w _ hx338_1)).trans hx338_1; replace hx338_2 := (HB.out.cell (World.block_lt_of_cell? w _ hx338_2)).trans hx338_2; replace hx338_3 := (HB.out.cell (World.block_lt_of_cell? w _ hx338_3)).trans hx338_3; replace p338 := eq_true p338; replace q338 := eq_true q338; go_wp2_with (first | ((with_reducible refine gate_dst (N := 6) rfl ?_); refine box_event ?hg (N := 6) ?hd (cs := #[.int .i64 0, .int .i64 0, .int .i64 0, .int .i64 0]) (t := 50) ?hr ?_; (case hd => rfl); (case hg => rfl); (case hr => first | (go_simp; done) | (go_simp; rfl)); intro gb339 hg w9 hbox hb; have n0_ := az (blk_below (g := gb337) (o := .cells #[.int .i64 x338000_1, .int .i64 x338001_1] 99 (0, 0)) (zP BK337.out) hb); have n1_ := az (below_step (zK HB.out GE337.out) hb); have n2_ := az (hbox); have n3_ := az ((by rw [hg]; exact (below_size (zK HB.out GE337.out)) : w.heap.size ≤ gb339)); have n4_ := az ((by rw [hg]; exact (below_size (zK HB.out GE337.out)) : w.heap.size ≤ gb339)); have n5_ := az ((by rw [hg]; exact Nat.ne_of_lt (blk_lt (g := gb337) (o := .cells #[.int .i64 x338000_1, .int .i64 x338001_1] 99 (0, 0)) (zP BK337.out)) : gb337 ≠ gb339)); have n6_ := az ((by rw [hg]; exact Nat.ne_of_gt (blk_lt (g := gb337) (o := .cells #[.int .i64 x338000_1, .int .i64 x338001_1] 99 (0, 0)) (zP BK337.out)) : gb339 ≠ gb337)); clear BK337; clear HB; have BK337 := n0_; have HB := n1_; have BK339 := n2_; have GW339 := n3_; have GE339 := n4_; have NB337_339 := n5_; have NB339_337 := n6_; clear n0_ n1_ n2_ n3_ n4_ n5_ n6_; clear hb hbox hg; have hnb10 := NB339_337.out; have hnc10 := NB337_339.out; have hcz11_0 : w9.cell? ⟨gb339, 0, none⟩ = some (.int .i64 0) := (blk_cell BK339.out 0).trans rfl; have hcz11_1 : w9.cell? ⟨gb339, 1, none⟩ = some (.int .i64 0) := (blk_cell BK339.out 1).trans rfl; have hcz11_2 : w9.cell? ⟨gb339, 2, none⟩ = some (.int .i64 0) := (blk_cell BK339.out 2).trans rfl; have hcz11_3 : w9.cell? ⟨gb339, 3, none⟩ = some (.int .i64 0) := (blk_cell BK339.out 3).trans rfl; have hfz11_0 := blk_frozen BK339.out 0; have hfz11_1 := blk_frozen BK339.out 1; have hfz11_2 := blk_frozen BK339.out 2; have hfz11_3 := blk_frozen BK339.out 3; have hcz12_0 : w9.cell? ⟨gb337, 0, none⟩ = some (.int .i64 x338000_1) := (blk_cell BK337.out 0).trans rfl; have hcz12_1 : w9.cell? ⟨gb337, 1, none⟩ = some (.int .i64 x338001_1) := (blk_cell BK337.out 1).trans rfl; have hfz12_0 := blk_frozen BK337.out 0; have hfz12_1 := blk_frozen BK337.out 1)); refine bodyPost_ret (results_cell_row rfl _ _ gb337 99 #[.int .i64 ((rd_T50 l0 x9_1).f2), .int .i64 ((rd_T50 l0 x9_1).f3)] (0, 0) _ rfl (by (with_reducible repeat (first | refine blk_drewN ?_ _ | refine blk_drew ?_ | refine blk_alloc ?_ _)); refine blk_put (cs := #[.int .i64 ((rd_T50 l0 x9_1).f2), .int .i64 x338001_1]) ?_ 1 _ rfl; (with_reducible repeat (first | refine blk_drewN ?_ _ | refine blk_drew ?_ | refine blk_alloc ?_ _)); refine blk_put (cs := #[.int .i64 x338000_1, .int .i64 x338001_1]) ?_ 0 _ rfl; (with_reducible repeat (first | refine blk_drewN ?_ _ | refine blk_drew ?_ | refine blk_alloc ?_ _)); refine blk_far ?_ NB337_339.out _; (with_reducible repeat (first | refine blk_drewN ?_ _ | refine blk_drew ?_ | refine blk_alloc ?_ _)); refine blk_far ?_ NB337_339.out _; (with_reducible repeat (first | refine blk_drewN ?_ _ | refine blk_drew ?_ | refine blk_alloc ?_ _)); refine blk_far ?_ NB337_339.out _; (with_reducible repeat (first | refine blk_drewN ?_ _ | refine blk_drew ?_ | refine blk_alloc ?_ _)); refine blk_far ?_ NB337_339.out _; (with_reducible repeat (first | refine blk_drewN ?_ _ | refine blk_drew ?_ | refine blk_alloc ?_ _)); exact BK337.out) Tryz.underlying99 rfl (by kernel_rfl)) rfl ?_
        exact ⟨zG, zY HB.out GE337.out GE339.out⟩
       ·
        rw [if_neg c8] at H; have c8b0 : decide (a1 < ((rd_T50 l0 x9_1).f1)) = false := decide_eq_false c8; clear c8; have H' := az H; clear H; have p338 : 0 ≤ (x9_1 : Int) := of_decide_eq_true (by assumption); have q338 : x9_1 < (l0.length : Int) := of_decide_eq_true (by assumption); obtain ⟨ad338, e338, hx338_0, hx338_1, hx338_2, hx338_3⟩ := at_T50 HR0.out x9_1 p338 q338
        cases e338
        replace hx338_0 := (HB.out.cell (World.block_lt_of_cell? w _ hx338_0)).trans hx338_0; replace hx338_1 := (HB.out.cell (World.block_lt_of_cell? w _ hx338_1)).trans hx338_1; replace hx338_2 := (HB.out.cell (World.block_lt_of_cell? w _ hx338_2)).trans hx338_2; replace hx338_3 := (HB.out.cell (World.block_lt_of_cell? w _ hx338_3)).trans hx338_3; replace p338 := eq_true p338; replace q338 := eq_true q338; go_wp2_with (first | ((with_reducible refine gate_dst (N := 6) rfl ?_); refine box_event ?hg (N := 6) ?hd (cs := #[.int .i64 0, .int .i64 0, .int .i64 0, .int .i64 0]) (t := 50) ?hr ?_; (case hd => rfl); (case hg => rfl); (case hr => first | (go_simp; done) | (go_simp; rfl)); intro gb339 hg w13 hbox hb; have n0_ := az (blk_below (g := gb337) (o := .cells #[.int .i64 x338000_1, .int .i64 x338001_1] 99 (0, 0)) (zP BK337.out) hb); have n1_ := az (below_step (zK HB.out GE337.out) hb); have n2_ := az (hbox); have n3_ := az ((by rw [hg]; exact (below_size (zK HB.out GE337.out)) : w.heap.size ≤ gb339)); have n4_ := az ((by rw [hg]; exact (below_size (zK HB.out GE337.out)) : w.heap.size ≤ gb339)); have n5_ := az ((by rw [hg]; exact Nat.ne_of_lt (blk_lt (g := gb337) (o := .cells #[.int .i64 x338000_1, .int .i64 x338001_1] 99 (0, 0)) (zP BK337.out)) : gb337 ≠ gb339)); have n6_ := az ((by rw [hg]; exact Nat.ne_of_gt (blk_lt (g := gb337) (o := .cells #[.int .i64 x338000_1, .int .i64 x338001_1] 99 (0, 0)) (zP BK337.out)) : gb339 ≠ gb337)); clear BK337; clear HB; have BK337 := n0_; have HB := n1_; have BK339 := n2_; have GW339 := n3_; have GE339 := n4_; have NB337_339 := n5_; have NB339_337 := n6_; clear n0_ n1_ n2_ n3_ n4_ n5_ n6_; clear hb hbox hg; have hnb14 := NB339_337.out; have hnc14 := NB337_339.out; have hcz15_0 : w13.cell? ⟨gb339, 0, none⟩ = some (.int .i64 0) := (blk_cell BK339.out 0).trans rfl; have hcz15_1 : w13.cell? ⟨gb339, 1, none⟩ = some (.int .i64 0) := (blk_cell BK339.out 1).trans rfl; have hcz15_2 : w13.cell? ⟨gb339, 2, none⟩ = some (.int .i64 0) := (blk_cell BK339.out 2).trans rfl; have hcz15_3 : w13.cell? ⟨gb339, 3, none⟩ = some (.int .i64 0) := (blk_cell BK339.out 3).trans rfl; have hfz15_0 := blk_frozen BK339.out 0; have hfz15_1 := blk_frozen BK339.out 1; have hfz15_2 := blk_frozen BK339.out 2; have hfz15_3 := blk_frozen BK339.out 3)); go_roundg k1
        case measure => have := HK1.out; omega
        case rel => exact ⟨(wrap64 (x9_1 + 1)), (x338000_1), (x338001_1), zB, H', ⟨zE HK1.out⟩, ⟨by (with_reducible repeat (first | refine blk_drewN ?_ _ | refine blk_drew ?_ | refine blk_alloc ?_ _)); refine blk_far ?_ NB337_339.out _; (with_reducible repeat (first | refine blk_drewN ?_ _ | refine blk_drew ?_ | refine blk_alloc ?_ _)); refine blk_far ?_ NB337_339.out _; (with_reducible repeat (first | refine blk_drewN ?_ _ | refine blk_drew ?_ | refine blk_alloc ?_ _)); refine blk_far ?_ NB337_339.out _; (with_reducible repeat (first | refine blk_drewN ?_ _ | refine blk_drew ?_ | refine blk_alloc ?_ _)); refine blk_far ?_ NB337_339.out _; (with_reducible repeat (first | refine blk_drewN ?_ _ | refine blk_drew ?_ | refine blk_alloc ?_ _)); exact BK337.out⟩, ⟨zY HB.out GE337.out GE339.out⟩⟩
      ·
       rw [if_neg c7] at H; have c7b0 : decide (((rd_T50 l0 x9_1).f0) ≤ a1) = false := decide_eq_false c7; clear c7; have H' := az H; clear H; have p338 : 0 ≤ (x9_1 : Int) := of_decide_eq_true (by assumption); have q338 : x9_1 < (l0.length : Int) := of_decide_eq_true (by assumption); obtain ⟨ad338, e338, hx338_0, hx338_1, hx338_2, hx338_3⟩ := at_T50 HR0.out x9_1 p338 q338
       cases e338
       replace hx338_0 := (HB.out.cell (World.block_lt_of_cell? w _ hx338_0)).trans hx338_0; replace hx338_1 := (HB.out.cell (World.block_lt_of_cell? w _ hx338_1)).trans hx338_1; replace hx338_2 := (HB.out.cell (World.block_lt_of_cell? w _ hx338_2)).trans hx338_2; replace hx338_3 := (HB.out.cell (World.block_lt_of_cell? w _ hx338_3)).trans hx338_3; replace p338 := eq_true p338; replace q338 := eq_true q338; go_wp2_with (first | ((with_reducible refine gate_dst (N := 6) rfl ?_); refine box_event ?hg (N := 6) ?hd (cs := #[.int .i64 0, .int .i64 0, .int .i64 0, .int .i64 0]) (t := 50) ?hr ?_; (case hd => rfl); (case hg => rfl); (case hr => first | (go_simp; done) | (go_simp; rfl)); intro gb339 hg w16 hbox hb; have n0_ := az (blk_below (g := gb337) (o := .cells #[.int .i64 x338000_1, .int .i64 x338001_1] 99 (0, 0)) (zP BK337.out) hb); have n1_ := az (below_step (zK HB.out GE337.out) hb); have n2_ := az (hbox); have n3_ := az ((by rw [hg]; exact (below_size (zK HB.out GE337.out)) : w.heap.size ≤ gb339)); have n4_ := az ((by rw [hg]; exact (below_size (zK HB.out GE337.out)) : w.heap.size ≤ gb339)); have n5_ := az ((by rw [hg]; exact Nat.ne_of_lt (blk_lt (g := gb337) (o := .cells #[.int .i64 x338000_1, .int .i64 x338001_1] 99 (0, 0)) (zP BK337.out)) : gb337 ≠ gb339)); have n6_ := az ((by rw [hg]; exact Nat.ne_of_gt (blk_lt (g := gb337) (o := .cells #[.int .i64 x338000_1, .int .i64 x338001_1] 99 (0, 0)) (zP BK337.out)) : gb339 ≠ gb337)); clear BK337; clear HB; have BK337 := n0_; have HB := n1_; have BK339 := n2_; have GW339 := n3_; have GE339 := n4_; have NB337_339 := n5_; have NB339_337 := n6_; clear n0_ n1_ n2_ n3_ n4_ n5_ n6_; clear hb hbox hg; have hnb17 := NB339_337.out; have hnc17 := NB337_339.out; have hcz18_0 : w16.cell? ⟨gb339, 0, none⟩ = some (.int .i64 0) := (blk_cell BK339.out 0).trans rfl; have hcz18_1 : w16.cell? ⟨gb339, 1, none⟩ = some (.int .i64 0) := (blk_cell BK339.out 1).trans rfl; have hcz18_2 : w16.cell? ⟨gb339, 2, none⟩ = some (.int .i64 0) := (blk_cell BK339.out 2).trans rfl; have hcz18_3 : w16.cell? ⟨gb339, 3, none⟩ = some (.int .i64 0) := (blk_cell BK339.out 3).trans rfl; have hfz18_0 := blk_frozen BK339.out 0; have hfz18_1 := blk_frozen BK339.out 1; have hfz18_2 := blk_frozen BK339.out 2; have hfz18_3 := blk_frozen BK339.out 3)); go_roundg k1
       case measure => have := HK1.out; omega
       case rel => exact ⟨(wrap64 (x9_1 + 1)), (x338000_1), (x338001_1), zB, H', ⟨zE HK1.out⟩, ⟨by (with_reducible repeat (first | refine blk_drewN ?_ _ | refine blk_drew ?_ | refine blk_alloc ?_ _)); refine blk_far ?_ NB337_339.out _; (with_reducible repeat (first | refine blk_drewN ?_ _ | refine blk_drew ?_ | refine blk_alloc ?_ _)); refine blk_far ?_ NB337_339.out _; (with_reducible repeat (first | refine blk_drewN ?_ _ | refine blk_drew ?_ | refine blk_alloc ?_ _)); refine blk_far ?_ NB337_339.out _; (with_reducible repeat (first | refine blk_drewN ?_ _ | refine blk_drew ?_ | refine blk_alloc ?_ _)); refine blk_far ?_ NB337_339.out _; (with_reducible repeat (first | refine blk_drewN ?_ _ | refine blk_drew ?_ | refine blk_alloc ?_ _)); exact BK337.out⟩, ⟨zY HB.out GE337.out GE339.out⟩⟩
     ·
      rw [if_neg c6] at H; exact absurd H (by simp)
    ·
     rw [if_neg c5] at H; exact absurd H (by simp)
   ·
    rw [if_neg c4] at H; have c4b0 : decide (x9_1 < (l0.length : Int)) = false := decide_eq_false c4; clear c4; replace H := Option.bind_eq_some_iff.mp H; obtain ⟨⟨t340, t341⟩, A190, H⟩ := H; replace H : (some (t340, t341)) = some (r1, r2) := H; have A19 := az A190; clear A190; simp only [Option.some.injEq, Prod.mk.injEq] at H; obtain ⟨rfl, rfl⟩ := H; go_wp2_with (first | ((with_reducible refine gate_callee (f := 119) rfl ?_); refine goesL_ (some 29) rfl rfl Tryz.func119 (by kernel_rfl) rfl #[] rfl zC ?_; (with_reducible refine (impl_plainLook.calls  t340 t341 _ A19.out).mono ?_); rintro e w20 ⟨rfl, hb⟩; refine ⟨_, rfl, ?_⟩; have n0_ := az (blk_below (g := gb337) (o := .cells #[.int .i64 x338000_1, .int .i64 x338001_1] 99 (0, 0)) (zP BK337.out) hb); have n1_ := az (below_step (zK HB.out GE337.out) hb); clear BK337; clear HB; have BK337 := n0_; have HB := n1_; clear n0_ n1_; (try clear hb); (try clear hb2); (try clear hk); (try clear hi); have hcz21_0 : w20.cell? ⟨gb337, 0, none⟩ = some (.int .i64 x338000_1) := (blk_cell BK337.out 0).trans rfl; have hcz21_1 : w20.cell? ⟨gb337, 1, none⟩ = some (.int .i64 x338001_1) := (blk_cell BK337.out 1).trans rfl; have hfz21_0 := blk_frozen BK337.out 0; have hfz21_1 := blk_frozen BK337.out 1)); refine bodyPost_ret (results_cell_row rfl _ _ gb337 99 #[.int .i64 t340, .int .i64 t341] (0, 0) _ rfl (by (with_reducible repeat (first | refine blk_drewN ?_ _ | refine blk_drew ?_ | refine blk_alloc ?_ _)); refine blk_put (cs := #[.int .i64 t340, .int .i64 x338001_1]) ?_ 1 _ rfl; (with_reducible repeat (first | refine blk_drewN ?_ _ | refine blk_drew ?_ | refine blk_alloc ?_ _)); refine blk_put (cs := #[.int .i64 x338000_1, .int .i64 x338001_1]) ?_ 0 _ rfl; (with_reducible repeat (first | refine blk_drewN ?_ _ | refine blk_drew ?_ | refine blk_alloc ?_ _)); exact BK337.out) Tryz.underlying99 rfl (by kernel_rfl)) rfl ?_; exact ⟨zG, zK HB.out GE337.out⟩
def impl_widesOf.l0 : Nat → List Int → List (S50) → List Int → List Int → Int → Int → Option (List Int)
 | 0, _, _, _, _, _, _ => none
 | k + 1, x0, x1, x5, x12, x13, x14 => if x14 < x13 then (if 0 ≤ x14 then (if x14 < (x12.length : Int) then ((impl_clusterWide.f k x0 (rd x12 x14)).bind fun t349 => ((impl_lookAt.f k x1 (rd x12 x14)).bind fun bt350 => (if 0 ≤ (rd x12 x14) then (if (rd x12 x14) < (x5.length : Int) then (impl_widesOf.l0 k x0 x1 (x5.set ((rd x12 x14) : Int).toNat (wrap64 (t349 * bt350.1))) x12 x13 (wrap64 (x14 + 1))) else (none)) else (none)))) else (none)) else (none)) else (some x5)
def impl_widesOf.f (k : Nat) (l0 : List Int) (l1 : List (S50)) : Option (List Int) := if 0 ≤ (l0.length : Int) then (if ((l0.length : Int) : Int).toNat ≤ 35184372088832 then ((impl_starts.f k l0).bind fun t345 => (impl_widesOf.l0 k l0 l1 (List.replicate ((l0.length : Int) : Int).toNat 0) t345 (t345.length : Int) 0)) else (none)) else (none)
theorem impl_widesOf.mono_l : ∀ k, (∀ y0 y1 y2 y3 y4 y5, LeO (impl_widesOf.l0 k y0 y1 y2 y3 y4 y5) (impl_widesOf.l0 (k + 1) y0 y1 y2 y3 y4 y5))
 | 0 => fun _ _ _ _ _ _ r h => by simp [impl_widesOf.l0] at h
 | k + 1 => by
  have ih0 := impl_widesOf.mono_l k
  ·
   intro y0 y1 y2 y3 y4 y5; unfold impl_widesOf.l0
   repeat' first
   | (with_reducible exact ih0 _ _ _ _ _ _)
   | (with_reducible exact impl_clusterWide.mono _ _ _)
   | (with_reducible exact impl_lookAt.mono _ _ _)
   | (with_reducible exact impl_starts.mono _ _)
   | (with_reducible exact LeO.refl _)
   | (with_reducible exact LeO.none _)
   | (with_reducible refine LeO.ite ?_ ?_)
   | (with_reducible refine LeO.bind ?_ (fun _ => ?_))
   | exact ih0 _ _ _ _ _ _
   | exact impl_clusterWide.mono _ _ _
   | exact impl_lookAt.mono _ _ _
   | exact impl_starts.mono _ _
   | exact LeO.none _
   | refine LeO.ite ?_ ?_
   | refine LeO.bind ?_ (fun _ => ?_)
theorem impl_widesOf.mono : ∀ a0 a1 k, LeO (impl_widesOf.f k a0 a1) (impl_widesOf.f (k + 1) a0 a1) := by
 intro a0 a1 k; have ih0 := impl_widesOf.mono_l k; unfold impl_widesOf.f
 repeat' first
   | (with_reducible exact ih0 _ _ _ _ _ _)
   | (with_reducible exact impl_clusterWide.mono _ _ _)
   | (with_reducible exact impl_lookAt.mono _ _ _)
   | (with_reducible exact impl_starts.mono _ _)
   | (with_reducible exact LeO.refl _)
   | (with_reducible exact LeO.none _)
   | (with_reducible refine LeO.ite ?_ ?_)
   | (with_reducible refine LeO.bind ?_ (fun _ => ?_))
   | exact ih0 _ _ _ _ _ _
   | exact impl_clusterWide.mono _ _ _
   | exact impl_lookAt.mono _ _ _
   | exact impl_starts.mono _ _
   | exact LeO.none _
   | refine LeO.ite ?_ ?_
   | refine LeO.bind ?_ (fun _ => ?_)
theorem fldLook (a b : Int) (w : World) : (Instr.field 99 (.agg #[.int .i64 a, .int .i64 b]) 0).run Tryz.prog w = .ok (.int .i64 a) w := by kernel_rfl
attribute [local go_sem] fldLook
theorem impl_widesOf.calls (k : Nat) (A0 : Option Addr) (c0 : Nat) (l0 : List Int) (A1 : Option Addr) (c1 : Nat) (l1 : List (S50)) (r : List Int) (w : World) (hr0 : Kd.C (Kd.int .i64) w A0 l0.length l0) (hc0 : l0.length ≤ c0) (hr1 : Kd.C k50 w A1 l1.length l1) (hc1 : l1.length ≤ c1) (h : impl_widesOf.f k l0 l1 = some r) :
  Calls Tryz.prog 55 #[.slice A0 l0.length c0, .slice A1 l1.length c1] w fun e w' => ∃ v0_ : Value, e = .returned (v0_) ∧ Kd.R (Kd.int .i64) 3 w' w.heap.size (fun _ => True) v0_ r ∧ Below w.heap.size w w' := by
 have HR0 := az hr0; have HC0 := az hc0; clear hr0 hc0; have HR1 := az hr1; have HC1 := az hc1; clear hr1 hc1; have HB := az (Below.refl w.heap.size w); have H : (if 0 ≤ (l0.length : Int) then (if ((l0.length : Int) : Int).toNat ≤ 35184372088832 then ((impl_starts.f k l0).bind fun t345 => (impl_widesOf.l0 k l0 l1 (List.replicate ((l0.length : Int) : Int).toNat 0) t345 (t345.length : Int) 0)) else (none)) else (none)) = some r := h; clear h; by_cases c3 : 0 ≤ (l0.length : Int)
 ·
  rw [if_pos c3] at H; have c3b0 := eq_true c3; have c3b1 : decide (0 ≤ (l0.length : Int)) = true := decide_eq_true c3; clear c3; by_cases c4 : ((l0.length : Int) : Int).toNat ≤ 35184372088832
  ·
   rw [if_pos c4] at H; have c4b0 := eq_true c4; have c4b1 : decide (((l0.length : Int) : Int).toNat ≤ 35184372088832) = true := decide_eq_true c4; clear c4; obtain ⟨y342, hy342⟩ : ∃ y_ : List Int, y_ = (List.replicate ((l0.length : Int) : Int).toNat 0) := ⟨_, rfl⟩; replace H : ((impl_starts.f k l0).bind fun t345 => (impl_widesOf.l0 k l0 l1 y342 t345 (t345.length : Int) 0)) = some r := by first | (rw [hy342]; with_reducible exact H) | (have H2_ := (Option.bind_some _ _).symm.trans H; rw [hy342]; with_reducible exact H2_) | (have H2_ := (Option.bind_some _ _).symm.trans H; with_reducible exact H2_) | with_reducible exact H | (rw [hy342]; exact H) | exact H
   have Ny342 := az hy342; clear hy342; replace H := Option.bind_eq_some_iff.mp H; obtain ⟨t345, A50, H⟩ := H; replace H : (impl_widesOf.l0 k l0 l1 y342 t345 (t345.length : Int) 0) = some r := H; have A5 := az A50; clear A50; have H' := az H; clear H; go_enter Tryz.func55, Tryz.ntmps55; go_wp2_with (first | ((with_reducible refine gate_dst (N := 10) rfl ?_); refine Kd.R_make (Kd.int .i64) _ 3 rfl (N := 10) rfl 22 _ _ rfl (l0.length : Int) rfl rfl Tryz.underlying22 (.int .i64 0) 8 info3 rfl (by decide) (by omega) 0 (ok := fun _ => True) (okp := fun _ => True) rfl (fun _ hk => hk) trivial (of_decide_eq_true (by assumption)) (Nat.le_trans (Nat.mul_le_mul_right _ (of_decide_eq_true (by assumption) : (l0.length : Int).toNat ≤ 35184372088832)) (by omega)) (Below.refl _ _) (Nat.le_refl _) ?_; intro v343 w6 ho7 hb hg_ hnew_; clear hg_ hnew_; (first | rw [← Ny342.out] at ho7 | (simp only [Int.reduceToNat] at ho7; rw [← Ny342.out] at ho7)); have n0_ := az (Kd.R_lower ho7 (below_size (zA HB.out))); have n1_ := az (below_step (zA HB.out) hb); clear HB; have HO344 := n0_; have HB := n1_; clear n0_ n1_; clear hb ho7) | ((with_reducible refine gate_callee (f := 85) rfl ?_); refine goesL_ (some 12) rfl rfl Tryz.func85 (by kernel_rfl) rfl #[.slice A0 l0.length c0] rfl zC ?_; (with_reducible refine (impl_starts.calls k _ _ l0 t345 _ ?side1 ?side2 A5.out).mono ?_); (case side1 => exact (zM HR0.out HB.out)); (case side2 => exact HC0.out); rintro e w8 ⟨v346, rfl, ho0, hb⟩; refine ⟨_, rfl, ?_⟩; have n0_ := az (Kd.R_elder' (zF HO344.out) (Kd.R_base ho0) hb); have n1_ := az (Kd.R_lower (Kd.R_new' ho0 (Kd.R_lt (zF HO344.out))) (below_size (zA HB.out))); have n2_ := az (below_step (zA HB.out) hb); clear HO344; clear HB; have HO344 := n0_; have HO347 := n1_; have HB := n2_; clear n0_ n1_ n2_; (try clear hb); (try clear hb2); (try clear hk); (try clear hi); (try clear ho0); obtain ⟨Ao9, co9, eo9⟩ := Kd.R_slice HO347.out; subst eo9)); go_loopg [14] k (fun kq v14 w' => ∃ (x5_1 : List Int) (x14_1 : Int), v14 = .int .i64 x14_1 ∧ Aside0 (impl_widesOf.l0 kq l0 l1 x5_1 t345 (t345.length : Int) x14_1 = some r) ∧ Aside0 (kq ≤ k) ∧ Aside0 (Kd.R (Kd.int .i64) 3 w' w.heap.size (fun k_ => some k_ ≠ ((.slice Ao9 t345.length co9) : Value).ownBlock) v343 x5_1) ∧ Aside0 (Kd.R (Kd.int .i64) 3 w' w.heap.size (fun k_ => some k_ ≠ (v343 : Value).ownBlock) (.slice Ao9 t345.length co9) t345) ∧ Aside0 (Below w.heap.size w w'))
   case atStart => exact ⟨(y342), (0), zB, H', ⟨Nat.le_refl _⟩, ⟨zQ HO344.out⟩, ⟨zQ HO347.out⟩, ⟨zA HB.out⟩⟩
   case round =>
    clear H'; (try clear c1); (try clear p2); (try clear c3); (try clear c3b0); (try clear c3b1); (try clear c4); (try clear c4b0); (try clear c4b1); (try clear c5); (try clear c8); obtain ⟨x5_1, x14_1, rfl, HA, HK1, HO_5, HO_12, HB⟩ := hrel
    cases gk with
    | zero => exact absurd HA.out (by simp [impl_widesOf.l0])
    | succ k1 =>
     have H := HA.out; clear HA; simp only [impl_widesOf.l0] at H; by_cases c10 : x14_1 < (t345.length : Int)
     ·
      rw [if_pos c10] at H; have c10b0 : decide (x14_1 < (t345.length : Int)) = true := decide_eq_true c10; clear c10; by_cases c11 : 0 ≤ x14_1
      ·
       rw [if_pos c11] at H; have c11b0 : decide (0 ≤ x14_1) = true := decide_eq_true c11; clear c11; by_cases c12 : x14_1 < (t345.length : Int)
       ·
        rw [if_pos c12] at H; have c12b0 : decide (x14_1 < (t345.length : Int)) = true := decide_eq_true c12; clear c12; replace H := Option.bind_eq_some_iff.mp H; obtain ⟨t349, A130, H⟩ := H; replace H : ((impl_lookAt.f k1 l1 (rd t345 x14_1)).bind fun bt350 => (if 0 ≤ (rd t345 x14_1) then (if (rd t345 x14_1) < (x5_1.length : Int) then (impl_widesOf.l0 k1 l0 l1 (x5_1.set ((rd t345 x14_1) : Int).toNat (wrap64 (t349 * bt350.1))) t345 (t345.length : Int) (wrap64 (x14_1 + 1))) else (none)) else (none))) = some r := H; have A13 := az A130; clear A130; replace H := Option.bind_eq_some_iff.mp H; obtain ⟨⟨t350, t351⟩, A140, H⟩ := H; replace H : (if 0 ≤ (rd t345 x14_1) then (if (rd t345 x14_1) < (x5_1.length : Int) then (impl_widesOf.l0 k1 l0 l1 (x5_1.set ((rd t345 x14_1) : Int).toNat (wrap64 (t349 * t350))) t345 (t345.length : Int) (wrap64 (x14_1 + 1))) else (none)) else (none)) = some r := H; have A14 := az A140; clear A140; by_cases c15 : 0 ≤ (rd t345 x14_1)
        ·
         rw [if_pos c15] at H; have c15b0 : decide (0 ≤ (rd t345 x14_1)) = true := decide_eq_true c15; clear c15; by_cases c16 : (rd t345 x14_1) < (x5_1.length : Int)
         ·
          rw [if_pos c16] at H; have c16b0 : decide ((rd t345 x14_1) < (x5_1.length : Int)) = true := decide_eq_true c16; clear c16; obtain ⟨y352, hy352⟩ : ∃ y_ : List Int, y_ = (x5_1.set ((rd t345 x14_1) : Int).toNat (wrap64 (t349 * t350))) := ⟨_, rfl⟩; replace H : (impl_widesOf.l0 k1 l0 l1 y352 t345 (t345.length : Int) (wrap64 (x14_1 + 1))) = some r := by first | (rw [hy352]; with_reducible exact H) | (have H2_ := (Option.bind_some _ _).symm.trans H; rw [hy352]; with_reducible exact H2_) | (have H2_ := (Option.bind_some _ _).symm.trans H; with_reducible exact H2_) | with_reducible exact H | (rw [hy352]; exact H) | exact H
          have Ny352 := az hy352; clear hy352; have H' := az H; clear H; have p348 : 0 ≤ (x14_1 : Int) := of_decide_eq_true (by assumption); have q348 : x14_1 < (t345.length : Int) := of_decide_eq_true (by assumption); obtain ⟨ad348, e348, hx348_0⟩ := Kd.at_int (Kd.R_reads' HO_12.out).2.2 x14_1 p348 q348
          cases e348
          replace p348 := eq_true p348; replace q348 := eq_true q348; go_wp2_with (first | ((with_reducible refine gate_callee (f := 86) rfl ?_); refine goesL_ (some 22) rfl rfl Tryz.func86 (by kernel_rfl) rfl #[.slice A0 l0.length c0, .int .i64 (rd t345 x14_1)] rfl zC ?_; (with_reducible refine (impl_clusterWide.calls k1 _ _ l0 (rd t345 x14_1) t349 _ ?side1 ?side2 A13.out).mono ?_); (case side1 => exact (zM HR0.out HB.out)); (case side2 => exact HC0.out); rintro e w18 ⟨rfl, hb⟩; refine ⟨_, rfl, ?_⟩; have n0_ := az (Kd.R_below (zF HO_5.out) hb); have n1_ := az (Kd.R_below (zF HO_12.out) hb); have n2_ := az (below_step (zA HB.out) hb); clear HO_5; clear HO_12; clear HB; have HO_5 := n0_; have HO_12 := n1_; have HB := n2_; clear n0_ n1_ n2_; (try clear hb); (try clear hb2); (try clear hk); (try clear hi)) | ((with_reducible refine gate_callee (f := 87) rfl ?_); refine goesL_ (some 25) rfl rfl Tryz.func87 (by kernel_rfl) rfl #[.slice A1 l1.length c1, .int .i64 (rd t345 x14_1)] rfl zC ?_; (with_reducible refine (impl_lookAt.calls k1 _ _ l1 (rd t345 x14_1) t350 t351 _ ?side1 ?side2 A14.out).mono ?_); (case side1 => exact (zM HR1.out HB.out)); (case side2 => exact HC1.out); rintro e w19 ⟨rfl, hb⟩; refine ⟨_, rfl, ?_⟩; have n0_ := az (Kd.R_below (zF HO_5.out) hb); have n1_ := az (Kd.R_below (zF HO_12.out) hb); have n2_ := az (below_step (zA HB.out) hb); clear HO_5; clear HO_12; clear HB; have HO_5 := n0_; have HO_12 := n1_; have HB := n2_; clear n0_ n1_ n2_; (try clear hb); (try clear hb2); (try clear hk); (try clear hi); have p17 : 0 ≤ ((rd t345 x14_1) : Int) := of_decide_eq_true (by assumption); have q17 : ((rd t345 x14_1) : Int) < ((x5_1.length : Int) : Int) := of_decide_eq_true (by assumption); obtain ⟨go17, co17, eo17, gb17, gl17, cl17, HG17⟩ := Kd.R_form HO_5.out (by omega); (first | cases eo17 | (injection eo17 with ea_ en_ ec_; (first | subst ea_ | (injection ea_ with ea_; subst ea_)); subst ec_; clear en_)); have GB17 := az gb17; have GG17 := az HG17; clear gb17 gl17 HG17; obtain ⟨hx17_0, hf17_0⟩ := Kd.R_celln 0 HO_5.out ((rd t345 x14_1) : Int) p17 q17; replace p17 := eq_true p17; replace q17 := eq_true q17; obtain ⟨hy20_, hz20_⟩ := Kd.R_celln 0 HO_5.out ((rd t345 x14_1) : Int) (of_decide_eq_true (by assumption)) (of_decide_eq_true (by assumption)); have HP20 := Kd.R_putg HO_5.out ((rd t345 x14_1) : Int) (wrap64 (t349 * t350))) | ((with_reducible refine gate_store (t := 3) (p := 28) rfl ?_); refine store_event (t := 3) (p := 28) (v := ?vo_w21) (w1 := (w19.setCell ⟨go17, ((rd t345 x14_1) : Int).toNat, none⟩ (.int .i64 (wrap64 (t349 * t350))))) ?hg ?ho ?hn ?hr ?_; (case ho => rfl); (case hg => rfl); (case hn => rfl); (case hr => first | (go_simp; done) | (go_simp; rfl)); intro w21 hw; have hg : w19.grownBy w21 (some go17) := (by rw [hw]; exact HP20.2); have hp_ : Kd.R (Kd.int .i64) 3 w21 w.heap.size (fun k_ => some k_ ≠ (.slice (some ad348) t345.length co9 : Value).ownBlock) (.slice (some ⟨go17, 0, none⟩) x5_1.length co17) y352 := (by rw [hw, Ny352.out]; exact HP20.1); clear HP20; have n0_ := az (hp_); have n1_ := az (Kd.R_after (v := (.slice (some ⟨go17, 0, none⟩) x5_1.length co17)) (v1 := (.slice (some ⟨go17, 0, none⟩) x5_1.length co17)) (ok := (fun _ => True)) (zV HO_12.out) hg (.inl rfl)); have n2_ := az ((by rw [hw]; exact below_set (HB.out) GB17.out : Below w.heap.size w w21)); clear HO_5; clear HO_12; clear HB; have HO_5 := n0_; have HO_12 := n1_; have HB := n2_; clear n0_ n1_ n2_; clear hg hw hp_))
          go_roundg k1
          case measure => have := HK1.out; omega
          case rel => exact ⟨(y352), (wrap64 (x14_1 + 1)), zB, H', ⟨zE HK1.out⟩, ⟨zF HO_5.out⟩, ⟨zQ HO_12.out⟩, ⟨zA HB.out⟩⟩
         ·
          rw [if_neg c16] at H; exact absurd H (by simp)
        ·
         rw [if_neg c15] at H; exact absurd H (by simp)
       ·
        rw [if_neg c12] at H; exact absurd H (by simp)
      ·
       rw [if_neg c11] at H; exact absurd H (by simp)
     ·
      rw [if_neg c10] at H; have c10b0 : decide (x14_1 < (t345.length : Int)) = false := decide_eq_false c10; clear c10; obtain rfl := Option.some.inj H; go_wp2; go_ret; exact ⟨_, zG, zX HO_5.out, zA HB.out⟩
  ·
   rw [if_neg c4] at H; exact absurd H (by simp)
 ·
  rw [if_neg c3] at H; exact absurd H (by simp)
def impl_WidesOf.f (k : Nat) (l0 : List Int) (l1 : List (S50)) : Option (List Int) := (impl_lettersOk.f l0).bind fun t435 => (if t435 = true then ((impl_SpansOk.f k l1 (l0.length : Int)).bind fun t436 => (if t436 = true then ((impl_widesOf.f k l0 l1).bind fun t437 => (some t437)) else (some ([] : List Int)))) else (some ([] : List Int)))
theorem impl_WidesOf.mono : ∀ a0 a1 k, LeO (impl_WidesOf.f k a0 a1) (impl_WidesOf.f (k + 1) a0 a1) := by
 intro a0 a1 k; unfold impl_WidesOf.f
 repeat' first
   | (with_reducible exact impl_SpansOk.mono _ _ _)
   | (with_reducible exact impl_widesOf.mono _ _ _)
   | (with_reducible exact LeO.refl _)
   | (with_reducible exact LeO.none _)
   | (with_reducible refine LeO.ite ?_ ?_)
   | (with_reducible refine LeO.bind ?_ (fun _ => ?_))
   | exact impl_SpansOk.mono _ _ _
   | exact impl_widesOf.mono _ _ _
   | exact LeO.none _
   | refine LeO.ite ?_ ?_
   | refine LeO.bind ?_ (fun _ => ?_)
theorem impl_WidesOf.calls (k : Nat) (A0 : Option Addr) (c0 : Nat) (l0 : List Int) (A1 : Option Addr) (c1 : Nat) (l1 : List (S50)) (r : List Int) (w : World) (hr0 : Kd.C (Kd.int .i64) w A0 l0.length l0) (hc0 : l0.length ≤ c0) (hr1 : Kd.C k50 w A1 l1.length l1) (hc1 : l1.length ≤ c1) (h : impl_WidesOf.f k l0 l1 = some r) :
  Calls Tryz.prog 27 #[.slice A0 l0.length c0, .slice A1 l1.length c1] w fun e w' => ∃ v0_ : Value, e = .returned (v0_) ∧ Kd.R (Kd.int .i64) 3 w' w.heap.size (fun _ => True) v0_ r ∧ Below w.heap.size w w' := by
 have HR0 := az hr0; have HC0 := az hc0; clear hr0 hc0; have HR1 := az hr1; have HC1 := az hc1; clear hr1 hc1; have HB := az (Below.refl w.heap.size w); have H : ((impl_lettersOk.f l0).bind fun t435 => (if t435 = true then ((impl_SpansOk.f k l1 (l0.length : Int)).bind fun t436 => (if t436 = true then ((impl_widesOf.f k l0 l1).bind fun t437 => (some t437)) else (some ([] : List Int)))) else (some ([] : List Int)))) = some r := h; clear h; replace H := Option.bind_eq_some_iff.mp H; obtain ⟨t435, A30, H⟩ := H; replace H : (if t435 = true then ((impl_SpansOk.f k l1 (l0.length : Int)).bind fun t436 => (if t436 = true then ((impl_widesOf.f k l0 l1).bind fun t437 => (some t437)) else (some ([] : List Int)))) else (some ([] : List Int))) = some r := H; have A3 := az A30; clear A30; by_cases c4 : t435 = true
 ·
  subst c4; have H1 : ((impl_SpansOk.f k l1 (l0.length : Int)).bind fun t436 => (if t436 = true then ((impl_widesOf.f k l0 l1).bind fun t437 => (some t437)) else (some ([] : List Int)))) = some r := by rw [if_pos rfl] at H; exact H
  clear H; have H := H1; clear H1; replace H := Option.bind_eq_some_iff.mp H; obtain ⟨t436, A50, H⟩ := H; replace H : (if t436 = true then ((impl_widesOf.f k l0 l1).bind fun t437 => (some t437)) else (some ([] : List Int))) = some r := H; have A5 := az A50; clear A50; by_cases c6 : t436 = true
  ·
   subst c6; have H1 : ((impl_widesOf.f k l0 l1).bind fun t437 => (some t437)) = some r := by rw [if_pos rfl] at H; exact H
   clear H; have H := H1; clear H1; replace H := Option.bind_eq_some_iff.mp H; obtain ⟨t437, A70, H⟩ := H; replace H : (some t437) = some r := H; have A7 := az A70; clear A70; obtain rfl := Option.some.inj H; go_enter Tryz.func27, Tryz.ntmps27; go_wp2_with (first | ((with_reducible refine gate_callee (f := 48) rfl ?_); refine goesL_ (some 6) rfl rfl Tryz.func48 (by kernel_rfl) rfl #[.slice A0 l0.length c0] rfl zC ?_; (with_reducible refine (impl_lettersOk.calls _ _ l0 true _ ?side1 ?side2 A3.out).mono ?_); (case side1 => exact (zO HR0.out)); (case side2 => exact HC0.out); rintro e w8 ⟨rfl, hb⟩; refine ⟨_, rfl, ?_⟩; have n0_ := az (below_step (zA HB.out) hb); clear HB; have HB := n0_; clear n0_; (try clear hb); (try clear hb2); (try clear hk); (try clear hi)) | (go_at_call 54; (with_reducible refine (impl_SpansOk.calls k _ _ l1 (l0.length : Int) true _ ?side1 ?side2 A5.out).mono ?_); (case side1 => exact (zM HR1.out HB.out)); (case side2 => exact HC1.out); rintro e w9 ⟨rfl, hb⟩; have n0_ := az (below_step (zA HB.out) hb); clear HB; have HB := n0_; clear n0_; (try clear hb); (try clear hb2); (try clear hk); (try clear hi)) | ((with_reducible refine gate_callee (f := 55) rfl ?_); refine goesL_ (some 17) rfl rfl Tryz.func55 (by kernel_rfl) rfl #[.slice A0 l0.length c0, .slice A1 l1.length c1] rfl zC ?_; (with_reducible refine (impl_widesOf.calls k _ _ l0 _ _ l1 t437 _ ?side1 ?side2 ?side3 ?side4 A7.out).mono ?_); (case side1 => exact (zM HR0.out HB.out)); (case side2 => exact HC0.out); (case side3 => exact (zM HR1.out HB.out)); (case side4 => exact HC1.out); rintro e w10 ⟨v438, rfl, ho0, hb⟩; refine ⟨_, rfl, ?_⟩; have n0_ := az (Kd.R_lower ho0 (below_size (zA HB.out))); have n1_ := az (below_step (zA HB.out) hb); clear HB; have HO439 := n0_; have HB := n1_; clear n0_ n1_; (try clear hb); (try clear hb2); (try clear hk); (try clear hi); (try clear ho0))); go_ret; exact ⟨_, zG, zF HO439.out, zA HB.out⟩
  ·
   replace c6 := Bool.eq_false_iff.mpr c6; subst c6; have H1 : (some ([] : List Int)) = some r := by rw [if_neg (show ¬ (false = true) by decide)] at H; exact H
   clear H; have H := H1; clear H1; obtain rfl := Option.some.inj H; go_enter Tryz.func27, Tryz.ntmps27; go_wp2_with (first | ((with_reducible refine gate_callee (f := 48) rfl ?_); refine goesL_ (some 6) rfl rfl Tryz.func48 (by kernel_rfl) rfl #[.slice A0 l0.length c0] rfl zC ?_; (with_reducible refine (impl_lettersOk.calls _ _ l0 true _ ?side1 ?side2 A3.out).mono ?_); (case side1 => exact (zO HR0.out)); (case side2 => exact HC0.out); rintro e w11 ⟨rfl, hb⟩; refine ⟨_, rfl, ?_⟩; have n0_ := az (below_step (zA HB.out) hb); clear HB; have HB := n0_; clear n0_; (try clear hb); (try clear hb2); (try clear hk); (try clear hi)) | (go_at_call 54; (with_reducible refine (impl_SpansOk.calls k _ _ l1 (l0.length : Int) false _ ?side1 ?side2 A5.out).mono ?_); (case side1 => exact (zM HR1.out HB.out)); (case side2 => exact HC1.out); rintro e w12 ⟨rfl, hb⟩; have n0_ := az (below_step (zA HB.out) hb); clear HB; have HB := n0_; clear n0_; (try clear hb); (try clear hb2); (try clear hk); (try clear hi))); go_ret; exact ⟨_, zG, zS, zA HB.out⟩
 ·
  replace c4 := Bool.eq_false_iff.mpr c4; subst c4; have H1 : (some ([] : List Int)) = some r := by rw [if_neg (show ¬ (false = true) by decide)] at H; exact H
  clear H; have H := H1; clear H1; obtain rfl := Option.some.inj H; go_enter Tryz.func27, Tryz.ntmps27; go_wp2_with (first | ((with_reducible refine gate_callee (f := 48) rfl ?_); refine goesL_ (some 6) rfl rfl Tryz.func48 (by kernel_rfl) rfl #[.slice A0 l0.length c0] rfl zC ?_; (with_reducible refine (impl_lettersOk.calls _ _ l0 false _ ?side1 ?side2 A3.out).mono ?_); (case side1 => exact (zO HR0.out)); (case side2 => exact HC0.out); rintro e w13 ⟨rfl, hb⟩; refine ⟨_, rfl, ?_⟩; have n0_ := az (below_step (zA HB.out) hb); clear HB; have HB := n0_; clear n0_; (try clear hb); (try clear hb2); (try clear hk); (try clear hi))); go_ret; exact ⟨_, zG, zS, zA HB.out⟩
def FlO (t : Nat) (gb : Nat) (A0 : Option Addr) (c0 : Nat) (rs : List Int) (A1 : Option Addr) (c1 : Nat) (ws : List Int) (A2 : Option Addr) (c2 : Nat) (bs : List Int) (wide : Int) (W : World) : Prop :=
 W.heap[gb]? = some (.cells #[.slice A0 rs.length c0, .slice A1 ws.length c1, .slice A2 bs.length c2, .int .i64 wide] t (0, 0)) ∧ Kd.C (Kd.int .i64) W A0 rs.length rs ∧ rs.length ≤ c0 ∧ Kd.C (Kd.int .i64) W A1 ws.length ws ∧ ws.length ≤ c1 ∧ Kd.C (Kd.int .i64) W A2 bs.length bs ∧ bs.length ≤ c2
theorem FlO.below {t gb : Nat} {A0 : Option Addr} {c0 : Nat} {rs : List Int} {A1 : Option Addr} {c1 : Nat} {ws : List Int} {A2 : Option Addr} {c2 : Nat} {bs : List Int} {wide : Int} {W W' : World} (h : FlO t gb A0 c0 rs A1 c1 ws A2 c2 bs wide W) (hb : Below W.heap.size W W') : FlO t gb A0 c0 rs A1 c1 ws A2 c2 bs wide W' :=
 ⟨blk_below h.1 hb, Kd.C_below h.2.1 hb, h.2.2.1, Kd.C_below h.2.2.2.1 hb, h.2.2.2.2.1, Kd.C_below h.2.2.2.2.2.1 hb, h.2.2.2.2.2.2⟩
abbrev FlI (t : Nat) (gb : Nat) (A0 : Option Addr) (c0 : Nat) (rs : List Int) (A1 : Option Addr) (c1 : Nat) (ws : List Int) (A2 : Option Addr) (c2 : Nat) (bs : List Int) (wide : Int) (w0 W : World) : Prop :=
 W.cell? ⟨gb, 0, none⟩ = some (.slice A0 rs.length c0) ∧ W.cell? ⟨gb, 1, none⟩ = some (.slice A1 ws.length c1) ∧ W.cell? ⟨gb, 2, none⟩ = some (.slice A2 bs.length c2) ∧ W.cell? ⟨gb, 3, none⟩ = some (.int .i64 wide) ∧ Aside0 (FlO t gb A0 c0 rs A1 c1 ws A2 c2 bs wide W ∧ Below w0.heap.size w0 W)
theorem FlI.of {t gb : Nat} {A0 : Option Addr} {c0 : Nat} {rs : List Int} {A1 : Option Addr} {c1 : Nat} {ws : List Int} {A2 : Option Addr} {c2 : Nat} {bs : List Int} {wide : Int} {w0 W : World} (h : FlO t gb A0 c0 rs A1 c1 ws A2 c2 bs wide W) (hb : Below w0.heap.size w0 W) : FlI t gb A0 c0 rs A1 c1 ws A2 c2 bs wide w0 W :=
 ⟨(blk_cell h.1 0).trans rfl, (blk_cell h.1 1).trans rfl, (blk_cell h.1 2).trans rfl, (blk_cell h.1 3).trans rfl, ⟨h, hb⟩⟩
theorem FlI.below {t gb : Nat} {A0 : Option Addr} {c0 : Nat} {rs : List Int} {A1 : Option Addr} {c1 : Nat} {ws : List Int} {A2 : Option Addr} {c2 : Nat} {bs : List Int} {wide : Int} {w0 W W' : World} (h : FlI t gb A0 c0 rs A1 c1 ws A2 c2 bs wide w0 W) (hb : Below W.heap.size W W') : FlI t gb A0 c0 rs A1 c1 ws A2 c2 bs wide w0 W' :=
 FlI.of (h.2.2.2.2.out.1.below hb) (below_then h.2.2.2.2.out.2 h.2.2.2.2.out.2.size hb)
theorem FlI.drew {t gb : Nat} {A0 : Option Addr} {c0 : Nat} {rs : List Int} {A1 : Option Addr} {c1 : Nat} {ws : List Int} {A2 : Option Addr} {c2 : Nat} {bs : List Int} {wide : Int} {w0 W : World} (h : FlI t gb A0 c0 rs A1 c1 ws A2 c2 bs wide w0 W) : FlI t gb A0 c0 rs A1 c1 ws A2 c2 bs wide w0 W.drew := h.below (below_drew (Below.refl _ _))
def mustN (bs : List Int) (n : Nat) : Nat → Nat → Nat
 | 0, _ => n
 | g + 1, i => if bs.getD i 0 = 2 then i + 1 else mustN bs n g (i + 1)
theorem mustN_le (bs : List Int) (n : Nat) : ∀ (g i : Nat), i + g ≤ n → mustN bs n g i ≤ n
 | 0, _, _ => Nat.le_refl _
 | g + 1, i, h => by
  rw [mustN]
  split
  · omega
  · exact mustN_le bs n g (i + 1) (by omega)
def mustV (bs : List Int) (n : Nat) (i : Nat) : Nat := mustN bs n (bs.length - i) i
def FlK (t : Nat) (gb : Nat) (A0 : Option Addr) (c0 : Nat) (rs : List Int) (A1 : Option Addr) (c1 : Nat) (ws : List Int) (A2 : Option Addr) (c2 : Nat) (bs : List Int) (wide : Int) (p : Addr) (e : Int) (q : Addr) (y : Int) (w0 W : World) : Prop := FlO t gb A0 c0 rs A1 c1 ws A2 c2 bs wide W ∧ Below w0.heap.size w0 W ∧ w0.cell? p = some (.int .i64 e) ∧ w0.cell? q = some (.int .i64 y)
abbrev FlJ (t : Nat) (gb : Nat) (A0 : Option Addr) (c0 : Nat) (rs : List Int) (A1 : Option Addr) (c1 : Nat) (ws : List Int) (A2 : Option Addr) (c2 : Nat) (bs : List Int) (wide : Int) (p : Addr) (e : Int) (q : Addr) (y : Int) (w0 W : World) : Prop :=
 W.cell? ⟨gb, 0, none⟩ = some (.slice A0 rs.length c0) ∧ W.cell? ⟨gb, 1, none⟩ = some (.slice A1 ws.length c1) ∧ W.cell? ⟨gb, 2, none⟩ = some (.slice A2 bs.length c2) ∧ W.cell? ⟨gb, 3, none⟩ = some (.int .i64 wide) ∧ W.cell? p = some (.int .i64 e) ∧ W.cell? q = some (.int .i64 y) ∧ Aside0 (FlK t gb A0 c0 rs A1 c1 ws A2 c2 bs wide p e q y w0 W)
theorem FlJ.of {t gb : Nat} {A0 : Option Addr} {c0 : Nat} {rs : List Int} {A1 : Option Addr} {c1 : Nat} {ws : List Int} {A2 : Option Addr} {c2 : Nat} {bs : List Int} {wide : Int} {p : Addr} {e : Int} {q : Addr} {y : Int} {w0 W : World} (h : FlK t gb A0 c0 rs A1 c1 ws A2 c2 bs wide p e q y w0 W) : FlJ t gb A0 c0 rs A1 c1 ws A2 c2 bs wide p e q y w0 W :=
 ⟨(blk_cell h.1.1 0).trans rfl, (blk_cell h.1.1 1).trans rfl, (blk_cell h.1.1 2).trans rfl, (blk_cell h.1.1 3).trans rfl, (h.2.1.cell (World.block_lt_of_cell? _ _ h.2.2.1)).trans h.2.2.1, (h.2.1.cell (World.block_lt_of_cell? _ _ h.2.2.2)).trans h.2.2.2, ⟨h⟩⟩
theorem FlJ.below {t gb : Nat} {A0 : Option Addr} {c0 : Nat} {rs : List Int} {A1 : Option Addr} {c1 : Nat} {ws : List Int} {A2 : Option Addr} {c2 : Nat} {bs : List Int} {wide : Int} {p : Addr} {e : Int} {q : Addr} {y : Int} {w0 W W' : World} (h : FlJ t gb A0 c0 rs A1 c1 ws A2 c2 bs wide p e q y w0 W) (hb : Below W.heap.size W W') : FlJ t gb A0 c0 rs A1 c1 ws A2 c2 bs wide p e q y w0 W' :=
 FlJ.of ⟨h.2.2.2.2.2.2.out.1.below hb, below_then h.2.2.2.2.2.2.out.2.1 h.2.2.2.2.2.2.out.2.1.size hb, h.2.2.2.2.2.2.out.2.2⟩
theorem FlJ.drew {t gb : Nat} {A0 : Option Addr} {c0 : Nat} {rs : List Int} {A1 : Option Addr} {c1 : Nat} {ws : List Int} {A2 : Option Addr} {c2 : Nat} {bs : List Int} {wide : Int} {p : Addr} {e : Int} {q : Addr} {y : Int} {w0 W : World} (h : FlJ t gb A0 c0 rs A1 c1 ws A2 c2 bs wide p e q y w0 W) : FlJ t gb A0 c0 rs A1 c1 ws A2 c2 bs wide p e q y w0 W.drew := h.below (below_drew (Below.refl _ _))
def impl_isWide.f (a0 : Int) : Option (Bool) := if a0 ≥ 0 then (some (decide (a0 ≤ 20000))) else (some false)
theorem impl_isWide.calls (a0 : Int) (r : Bool) (w : World) (h : impl_isWide.f a0 = some r) :
  Calls Tryz.prog 58 #[.int .i64 a0] w fun e w' => e = .returned (.bool r) ∧ Drawn0 w w' := by
 have H : (if a0 ≥ 0 then (some (decide (a0 ≤ 20000))) else (some false)) = some r := h
 clear h
 by_cases c2 : a0 ≥ 0
 ·
  rw [if_pos c2] at H
  have c2b0 : decide (0 ≤ a0) = true := decide_eq_true c2
  clear c2
  obtain rfl := Option.some.inj H
  go_enter Tryz.func58, Tryz.ntmps58
  go_wp2
  go_ret
  exact ⟨zB, zD⟩
 ·
  rw [if_neg c2] at H
  have c2b0 : decide (0 ≤ a0) = false := decide_eq_false c2
  clear c2
  obtain rfl := Option.some.inj H
  go_enter Tryz.func58, Tryz.ntmps58
  go_wp2
  go_ret
  exact ⟨zB, zD⟩
def impl_fillable.f (k : Nat) (l0 : List Int) (l1 : List (S50)) (a2 : Int) : Option (Bool) := (impl_lettersOk.f l0).bind fun t265 => (if t265 = true then ((impl_SpansOk.f k l1 (l0.length : Int)).bind fun t266 => (if t266 = true then ((impl_isWide.f a2).bind fun t267 => (some t267)) else (some false))) else (some false))
theorem impl_fillable.mono : ∀ a0 a1 a2 k, LeO (impl_fillable.f k a0 a1 a2) (impl_fillable.f (k + 1) a0 a1 a2) := by
 intro a0 a1 a2 k; unfold impl_fillable.f
 repeat' first
   | (with_reducible exact impl_SpansOk.mono _ _ _)
   | (with_reducible exact LeO.refl _)
   | (with_reducible exact LeO.none _)
   | (with_reducible refine LeO.ite ?_ ?_)
   | (with_reducible refine LeO.bind ?_ (fun _ => ?_))
   | exact impl_SpansOk.mono _ _ _
   | exact LeO.none _
   | refine LeO.ite ?_ ?_
   | refine LeO.bind ?_ (fun _ => ?_)
theorem impl_fillable.calls (k : Nat) (A0 : Option Addr) (c0 : Nat) (l0 : List Int) (A1 : Option Addr) (c1 : Nat) (l1 : List (S50)) (a2 : Int) (r : Bool) (w : World) (hr0 : Kd.C (Kd.int .i64) w A0 l0.length l0) (hc0 : l0.length ≤ c0) (hr1 : Kd.C k50 w A1 l1.length l1) (hc1 : l1.length ≤ c1) (h : impl_fillable.f k l0 l1 a2 = some r) :
  Calls Tryz.prog 39 #[.slice A0 l0.length c0, .slice A1 l1.length c1, .int .i64 a2] w fun e w' => e = .returned (.bool r) ∧ Below w.heap.size w w' := by
 have HR0 := az hr0; have HC0 := az hc0; clear hr0 hc0; have HR1 := az hr1; have HC1 := az hc1; clear hr1 hc1; have HB := az (Below.refl w.heap.size w); have H : ((impl_lettersOk.f l0).bind fun t265 => (if t265 = true then ((impl_SpansOk.f k l1 (l0.length : Int)).bind fun t266 => (if t266 = true then ((impl_isWide.f a2).bind fun t267 => (some t267)) else (some false))) else (some false))) = some r := h; clear h; replace H := Option.bind_eq_some_iff.mp H; obtain ⟨t265, A40, H⟩ := H; replace H : (if t265 = true then ((impl_SpansOk.f k l1 (l0.length : Int)).bind fun t266 => (if t266 = true then ((impl_isWide.f a2).bind fun t267 => (some t267)) else (some false))) else (some false)) = some r := H; have A4 := az A40; clear A40; by_cases c5 : t265 = true
 ·
  subst c5; have H1 : ((impl_SpansOk.f k l1 (l0.length : Int)).bind fun t266 => (if t266 = true then ((impl_isWide.f a2).bind fun t267 => (some t267)) else (some false))) = some r := by rw [if_pos rfl] at H; exact H
  clear H; have H := H1; clear H1; replace H := Option.bind_eq_some_iff.mp H; obtain ⟨t266, A60, H⟩ := H; replace H : (if t266 = true then ((impl_isWide.f a2).bind fun t267 => (some t267)) else (some false)) = some r := H; have A6 := az A60; clear A60; by_cases c7 : t266 = true
  ·
   subst c7; have H1 : ((impl_isWide.f a2).bind fun t267 => (some t267)) = some r := by rw [if_pos rfl] at H; exact H
   clear H; have H := H1; clear H1; replace H := Option.bind_eq_some_iff.mp H; obtain ⟨t267, A80, H⟩ := H; replace H : (some t267) = some r := H; have A8 := az A80; clear A80; obtain rfl := Option.some.inj H; go_enter Tryz.func39, Tryz.ntmps39; go_wp2_with (first | ((with_reducible refine gate_callee (f := 48) rfl ?_); refine goesL_ (some 8) rfl rfl Tryz.func48 (by kernel_rfl) rfl #[.slice A0 l0.length c0] rfl zC ?_; (with_reducible refine (impl_lettersOk.calls _ _ l0 true _ ?side1 ?side2 A4.out).mono ?_); (case side1 => exact (zO HR0.out)); (case side2 => exact HC0.out); rintro e w9 ⟨rfl, hb⟩; refine ⟨_, rfl, ?_⟩; have n0_ := az (below_step (zA HB.out) hb); clear HB; have HB := n0_; clear n0_; (try clear hb); (try clear hb2); (try clear hk); (try clear hi)) | (go_at_call 54; (with_reducible refine (impl_SpansOk.calls k _ _ l1 (l0.length : Int) true _ ?side1 ?side2 A6.out).mono ?_); (case side1 => exact (zM HR1.out HB.out)); (case side2 => exact HC1.out); rintro e w10 ⟨rfl, hb⟩; have n0_ := az (below_step (zA HB.out) hb); clear HB; have HB := n0_; clear n0_; (try clear hb); (try clear hb2); (try clear hk); (try clear hi)) | (go_at_call 58; (with_reducible refine (impl_isWide.calls a2 t267 _ A8.out).mono ?_); rintro e w' ⟨rfl, ⟨nd, rfl⟩⟩)); go_ret; exact ⟨zG, zA HB.out⟩
  ·
   replace c7 := Bool.eq_false_iff.mpr c7; subst c7; have H1 : (some false) = some r := by rw [if_neg (show ¬ (false = true) by decide)] at H; exact H
   clear H; have H := H1; clear H1; obtain rfl := Option.some.inj H; go_enter Tryz.func39, Tryz.ntmps39; go_wp2_with (first | ((with_reducible refine gate_callee (f := 48) rfl ?_); refine goesL_ (some 8) rfl rfl Tryz.func48 (by kernel_rfl) rfl #[.slice A0 l0.length c0] rfl zC ?_; (with_reducible refine (impl_lettersOk.calls _ _ l0 true _ ?side1 ?side2 A4.out).mono ?_); (case side1 => exact (zO HR0.out)); (case side2 => exact HC0.out); rintro e w11 ⟨rfl, hb⟩; refine ⟨_, rfl, ?_⟩; have n0_ := az (below_step (zA HB.out) hb); clear HB; have HB := n0_; clear n0_; (try clear hb); (try clear hb2); (try clear hk); (try clear hi)) | (go_at_call 54; (with_reducible refine (impl_SpansOk.calls k _ _ l1 (l0.length : Int) false _ ?side1 ?side2 A6.out).mono ?_); (case side1 => exact (zM HR1.out HB.out)); (case side2 => exact HC1.out); rintro e w12 ⟨rfl, hb⟩; have n0_ := az (below_step (zA HB.out) hb); clear HB; have HB := n0_; clear n0_; (try clear hb); (try clear hb2); (try clear hk); (try clear hi))); go_ret; exact ⟨zG, zA HB.out⟩
 ·
  replace c5 := Bool.eq_false_iff.mpr c5; subst c5; have H1 : (some false) = some r := by rw [if_neg (show ¬ (false = true) by decide)] at H; exact H
  clear H; have H := H1; clear H1; obtain rfl := Option.some.inj H; go_enter Tryz.func39, Tryz.ntmps39; go_wp2_with (first | ((with_reducible refine gate_callee (f := 48) rfl ?_); refine goesL_ (some 8) rfl rfl Tryz.func48 (by kernel_rfl) rfl #[.slice A0 l0.length c0] rfl zC ?_; (with_reducible refine (impl_lettersOk.calls _ _ l0 false _ ?side1 ?side2 A4.out).mono ?_); (case side1 => exact (zO HR0.out)); (case side2 => exact HC0.out); rintro e w13 ⟨rfl, hb⟩; refine ⟨_, rfl, ?_⟩; have n0_ := az (below_step (zA HB.out) hb); clear HB; have HB := n0_; clear n0_; (try clear hb); (try clear hb2); (try clear hk); (try clear hi))); go_ret; exact ⟨zG, zA HB.out⟩
def impl_body.l0 : Nat → List Int → Int → Int → Option (Int)
 | 0, _, _, _ => none
 | k + 1, x0, x1, x2 => if x2 > x1 then (if 0 ≤ (wrap64 (x2 - 1)) then (if (wrap64 (x2 - 1)) < (x0.length : Int) then (if (rd x0 (wrap64 (x2 - 1))) = 32 then (impl_body.l0 k x0 x1 (wrap64 (x2 - 1))) else (if (rd x0 (wrap64 (x2 - 1))) = 10 then (impl_body.l0 k x0 x1 (wrap64 (x2 - 1))) else ((impl_RuneWide.f k (rd x0 (wrap64 (x2 - 1)))).bind fun t356 => (if t356 = 0 then (impl_body.l0 k x0 x1 (wrap64 (x2 - 1))) else (some x2))))) else (none)) else (none)) else (some x2)
def impl_body.f (k : Nat) (l0 : List Int) (a1 : Int) (a2 : Int) : Option (Int) := impl_body.l0 k l0 a1 a2
theorem impl_body.mono_l : ∀ k, (∀ y0 y1 y2, LeO (impl_body.l0 k y0 y1 y2) (impl_body.l0 (k + 1) y0 y1 y2))
 | 0 => fun _ _ _ r h => by simp [impl_body.l0] at h
 | k + 1 => by
  have ih0 := impl_body.mono_l k
  ·
   intro y0 y1 y2; unfold impl_body.l0
   repeat' first
   | (with_reducible exact ih0 _ _ _)
   | (with_reducible exact impl_RuneWide.mono _ _)
   | (with_reducible exact LeO.refl _)
   | (with_reducible exact LeO.none _)
   | (with_reducible refine LeO.ite ?_ ?_)
   | (with_reducible refine LeO.bind ?_ (fun _ => ?_))
   | exact ih0 _ _ _
   | exact impl_RuneWide.mono _ _
   | exact LeO.none _
   | refine LeO.ite ?_ ?_
   | refine LeO.bind ?_ (fun _ => ?_)
theorem impl_body.mono : ∀ a0 a1 a2 k, LeO (impl_body.f k a0 a1 a2) (impl_body.f (k + 1) a0 a1 a2) := by
 intro a0 a1 a2 k; have ih0 := impl_body.mono_l k; unfold impl_body.f
 repeat' first
   | (with_reducible exact ih0 _ _ _)
   | (with_reducible exact impl_RuneWide.mono _ _)
   | (with_reducible exact LeO.refl _)
   | (with_reducible exact LeO.none _)
   | (with_reducible refine LeO.ite ?_ ?_)
   | (with_reducible refine LeO.bind ?_ (fun _ => ?_))
   | exact ih0 _ _ _
   | exact impl_RuneWide.mono _ _
   | exact LeO.none _
   | refine LeO.ite ?_ ?_
   | refine LeO.bind ?_ (fun _ => ?_)
theorem impl_body.calls (k : Nat) (A0 : Option Addr) (c0 : Nat) (l0 : List Int) (a1 : Int) (a2 : Int) (r : Int) (w : World) (hr0 : Kd.C (Kd.int .i64) w A0 l0.length l0) (hc0 : l0.length ≤ c0) (h : impl_body.f k l0 a1 a2 = some r) :
  Calls Tryz.prog 89 #[.slice A0 l0.length c0, .int .i64 a1, .int .i64 a2] w fun e w' => e = .returned (.int .i64 r) ∧ Below w.heap.size w w' := by
 have HR0 := az hr0; have HC0 := az hc0; clear hr0 hc0; have HB := az (Below.refl w.heap.size w); have H : (impl_body.l0 k l0 a1 a2) = some r := h; clear h; have H' := az H; clear H; go_enter Tryz.func89, Tryz.ntmps89; go_wp2; go_loopg [2] k (fun kq v2 w' => ∃ (x2_1 : Int), v2 = .int .i64 x2_1 ∧ Aside0 (impl_body.l0 kq l0 a1 x2_1 = some r) ∧ Aside0 (kq ≤ k) ∧ Aside0 (Below w.heap.size w w'))
 case atStart => exact ⟨(a2), zB, H', ⟨Nat.le_refl _⟩, ⟨zA HB.out⟩⟩
 case round =>
  clear H'; (try clear p2); obtain ⟨x2_1, rfl, HA, HK1, HB⟩ := hrel
  cases gk with
  | zero => exact absurd HA.out (by simp [impl_body.l0])
  | succ k1 =>
   have H := HA.out; clear HA; simp only [impl_body.l0] at H; by_cases c4 : x2_1 > a1
   ·
    rw [if_pos c4] at H; have c4b0 : decide (a1 < x2_1) = true := decide_eq_true c4; clear c4; obtain ⟨ji5, hji5⟩ : ∃ j_ : Int, (wrap64 (x2_1 - 1)) = j_ := ⟨_, rfl⟩; replace H : (if 0 ≤ (ji5) then (if (ji5) < (l0.length : Int) then (if (rd l0 (ji5)) = 32 then (impl_body.l0 k1 l0 a1 ji5) else (if (rd l0 (ji5)) = 10 then (impl_body.l0 k1 l0 a1 ji5) else ((impl_RuneWide.f k1 (rd l0 (ji5))).bind fun t356 => (if t356 = 0 then (impl_body.l0 k1 l0 a1 ji5) else (some x2_1))))) else (none)) else (none)) = some r := by first | (rw [hji5] at H; exact H) | (simp only [hji5] at H ⊢; exact H)
    have hji5w : (IntKind.i64.wrap (x2_1 - 1)) = ji5 := (i64_w _).trans hji5; by_cases c6 : 0 ≤ (ji5)
    ·
     rw [if_pos c6] at H; have c6b0 : decide (0 ≤ (ji5)) = true := decide_eq_true c6; clear c6; by_cases c7 : (ji5) < (l0.length : Int)
     ·
      rw [if_pos c7] at H; have c7b0 : decide ((ji5) < (l0.length : Int)) = true := decide_eq_true c7; clear c7; by_cases c8 : (rd l0 (ji5)) = 32
      ·
       rw [if_pos c8] at H; have c8b0 : ((rd l0 (ji5)) == 32) = true := beq_iff_eq.mpr c8; have c8b1 : ((rd l0 (ji5)) != 32) = false := bne_eq_false_iff_eq.mpr c8; clear c8; have H' := az H; clear H; have p353 : 0 ≤ ((ji5) : Int) := of_decide_eq_true (by assumption); have q353 : (ji5) < (l0.length : Int) := of_decide_eq_true (by assumption); obtain ⟨ad353, e353, hx353_0⟩ := Kd.at_int HR0.out (ji5) p353 q353
       cases e353
       replace hx353_0 := (HB.out.cell (World.block_lt_of_cell? w _ hx353_0)).trans hx353_0; replace p353 := eq_true p353; replace q353 := eq_true q353; go_wp2; go_roundg k1
       case measure => have := HK1.out; omega
       case rel => exact ⟨(ji5), (by first | rfl | (simp; done) | (simp only [← hji5] <;> (first | rfl | simp)) | (simp [*]; done)), H', ⟨zE HK1.out⟩, ⟨zA HB.out⟩⟩
      ·
       rw [if_neg c8] at H; have c8b0 : ((rd l0 (ji5)) == 32) = false := beq_eq_false_iff_ne.mpr c8; have c8b1 : ((rd l0 (ji5)) != 32) = true := bne_iff_ne.mpr c8; by_cases c9 : (rd l0 (ji5)) = 10
       ·
        rw [if_pos c9] at H; have c9b0 : ((rd l0 (ji5)) == 10) = true := beq_iff_eq.mpr c9; have c9b1 : ((rd l0 (ji5)) != 10) = false := bne_eq_false_iff_eq.mpr c9; clear c9; have H' := az H; clear H; have p353 : 0 ≤ ((ji5) : Int) := of_decide_eq_true (by assumption); have q353 : (ji5) < (l0.length : Int) := of_decide_eq_true (by assumption); obtain ⟨ad353, e353, hx353_0⟩ := Kd.at_int HR0.out (ji5) p353 q353
        cases e353
        replace hx353_0 := (HB.out.cell (World.block_lt_of_cell? w _ hx353_0)).trans hx353_0; replace p353 := eq_true p353; replace q353 := eq_true q353; have p354 : 0 ≤ ((ji5) : Int) := of_decide_eq_true (by assumption); have q354 : (ji5) < (l0.length : Int) := of_decide_eq_true (by assumption); obtain ⟨ad354, e354, hx354_0⟩ := Kd.at_int HR0.out (ji5) p354 q354; obtain rfl : ad353 = ad354 := (by injection e354); replace hx354_0 := (HB.out.cell (World.block_lt_of_cell? w _ hx354_0)).trans hx354_0; replace p354 := eq_true p354; replace q354 := eq_true q354; go_wp2; go_roundg k1
        case measure => have := HK1.out; omega
        case rel => exact ⟨(ji5), (by first | rfl | (simp; done) | (simp only [← hji5] <;> (first | rfl | simp)) | (simp [*]; done)), H', ⟨zE HK1.out⟩, ⟨zA HB.out⟩⟩
       ·
        rw [if_neg c9] at H; have c9b0 : ((rd l0 (ji5)) == 10) = false := beq_eq_false_iff_ne.mpr c9; have c9b1 : ((rd l0 (ji5)) != 10) = true := bne_iff_ne.mpr c9; replace H := Option.bind_eq_some_iff.mp H; obtain ⟨t356, A100, H⟩ := H; replace H : (if t356 = 0 then (impl_body.l0 k1 l0 a1 ji5) else (some x2_1)) = some r := H; have A10 := az A100; clear A100; by_cases c11 : t356 = 0
        ·
         rw [if_pos c11] at H; have c11b0 : (t356 == 0) = true := beq_iff_eq.mpr c11; have c11b1 : (t356 != 0) = false := bne_eq_false_iff_eq.mpr c11; clear c11; have H' := az H; clear H; have p353 : 0 ≤ ((ji5) : Int) := of_decide_eq_true (by assumption); have q353 : (ji5) < (l0.length : Int) := of_decide_eq_true (by assumption); obtain ⟨ad353, e353, hx353_0⟩ := Kd.at_int HR0.out (ji5) p353 q353
         cases e353
         replace hx353_0 := (HB.out.cell (World.block_lt_of_cell? w _ hx353_0)).trans hx353_0; replace p353 := eq_true p353; replace q353 := eq_true q353; have p354 : 0 ≤ ((ji5) : Int) := of_decide_eq_true (by assumption); have q354 : (ji5) < (l0.length : Int) := of_decide_eq_true (by assumption); obtain ⟨ad354, e354, hx354_0⟩ := Kd.at_int HR0.out (ji5) p354 q354; obtain rfl : ad353 = ad354 := (by injection e354); replace hx354_0 := (HB.out.cell (World.block_lt_of_cell? w _ hx354_0)).trans hx354_0; replace p354 := eq_true p354; replace q354 := eq_true q354; have p355 : 0 ≤ ((ji5) : Int) := of_decide_eq_true (by assumption); have q355 : (ji5) < (l0.length : Int) := of_decide_eq_true (by assumption); obtain ⟨ad355, e355, hx355_0⟩ := Kd.at_int HR0.out (ji5) p355 q355; obtain rfl : ad353 = ad355 := (by injection e355); replace hx355_0 := (HB.out.cell (World.block_lt_of_cell? w _ hx355_0)).trans hx355_0; replace p355 := eq_true p355; replace q355 := eq_true q355; go_wp2_with (first | (go_at_call 118; (with_reducible refine (impl_RuneWide.calls k1 (rd l0 (ji5)) t356 _ A10.out).mono ?_); rintro e w12 ⟨rfl, hb⟩; have n0_ := az (below_step (zA HB.out) hb); clear HB; have HB := n0_; clear n0_; (try clear hb); (try clear hb2); (try clear hk); (try clear hi))); go_roundg k1
         case measure => have := HK1.out; omega
         case rel => exact ⟨(ji5), (by first | rfl | (simp; done) | (simp only [← hji5] <;> (first | rfl | simp)) | (simp [*]; done)), H', ⟨zE HK1.out⟩, ⟨zA HB.out⟩⟩
        ·
         rw [if_neg c11] at H; have c11b0 : (t356 == 0) = false := beq_eq_false_iff_ne.mpr c11; have c11b1 : (t356 != 0) = true := bne_iff_ne.mpr c11; obtain rfl := Option.some.inj H; have p353 : 0 ≤ ((ji5) : Int) := of_decide_eq_true (by assumption); have q353 : (ji5) < (l0.length : Int) := of_decide_eq_true (by assumption); obtain ⟨ad353, e353, hx353_0⟩ := Kd.at_int HR0.out (ji5) p353 q353
         cases e353
         replace hx353_0 := (HB.out.cell (World.block_lt_of_cell? w _ hx353_0)).trans hx353_0; replace p353 := eq_true p353; replace q353 := eq_true q353; have p354 : 0 ≤ ((ji5) : Int) := of_decide_eq_true (by assumption); have q354 : (ji5) < (l0.length : Int) := of_decide_eq_true (by assumption); obtain ⟨ad354, e354, hx354_0⟩ := Kd.at_int HR0.out (ji5) p354 q354; obtain rfl : ad353 = ad354 := (by injection e354); replace hx354_0 := (HB.out.cell (World.block_lt_of_cell? w _ hx354_0)).trans hx354_0; replace p354 := eq_true p354; replace q354 := eq_true q354; have p355 : 0 ≤ ((ji5) : Int) := of_decide_eq_true (by assumption); have q355 : (ji5) < (l0.length : Int) := of_decide_eq_true (by assumption); obtain ⟨ad355, e355, hx355_0⟩ := Kd.at_int HR0.out (ji5) p355 q355; obtain rfl : ad353 = ad355 := (by injection e355); replace hx355_0 := (HB.out.cell (World.block_lt_of_cell? w _ hx355_0)).trans hx355_0; replace p355 := eq_true p355; replace q355 := eq_true q355; go_wp2_with (first | (go_at_call 118; (with_reducible refine (impl_RuneWide.calls k1 (rd l0 (ji5)) t356 _ A10.out).mono ?_); rintro e w13 ⟨rfl, hb⟩; have n0_ := az (below_step (zA HB.out) hb); clear HB; have HB := n0_; clear n0_; (try clear hb); (try clear hb2); (try clear hk); (try clear hi))); go_ret; exact ⟨by first | rfl | (simp [errW_none, errW_some] <;> rfl) | (simp only [← hji5]; first | rfl | (simp [errW_none, errW_some] <;> rfl)) | (simp [*, errW_none, errW_some] <;> rfl), zA HB.out⟩
     ·
      rw [if_neg c7] at H; exact absurd H (by simp)
    ·
     rw [if_neg c6] at H; exact absurd H (by simp)
   ·
    rw [if_neg c4] at H; have c4b0 : decide (a1 < x2_1) = false := decide_eq_false c4; clear c4; obtain rfl := Option.some.inj H; go_wp2; go_ret; exact ⟨zG, zA HB.out⟩
def sumW : List Int → Int → Int
 | [], a => a
 | x :: r, a => sumW r (wrap64 (a + x))
def impl_lineWide.f (k : Nat) (l0 l1 : List Int) (a2 a3 : Int) : Option Int := (impl_body.f k l0 a2 a3).bind fun b => if 0 ≤ a2 ∧ a2 ≤ b ∧ b ≤ (l1.length : Int) then some (sumW ((l1.take b.toNat).drop a2.toNat) 0) else none
theorem impl_lineWide.mono : ∀ a0 a1 a2 a3 k, LeO (impl_lineWide.f k a0 a1 a2 a3) (impl_lineWide.f (k + 1) a0 a1 a2 a3) := by
 intro a0 a1 a2 a3 k
 unfold impl_lineWide.f
 exact LeO.bind (impl_body.mono _ _ _ _) (fun b => LeO.refl _)
theorem cut_get {xs : List Int} {a b j : Nat} (h : a + j < b) (hb : b ≤ xs.length) : ((xs.take b).drop a).getD j 0 = xs.getD (a + j) 0 := by
 simp only [List.getD_eq_getElem?_getD, List.getElem?_drop]
 rw [List.getElem?_take_of_lt h]
theorem impl_lineWide.calls (k : Nat) (A0 : Option Addr) (c0 : Nat) (l0 : List Int) (A1 : Option Addr) (c1 : Nat) (l1 : List Int) (a2 a3 : Int) (r : Int) (w : World) (hr0 : Kd.C (Kd.int .i64) w A0 l0.length l0) (hc0 : l0.length ≤ c0) (hr1 : Kd.C (Kd.int .i64) w A1 l1.length l1) (hc1 : l1.length ≤ c1) (h : impl_lineWide.f k l0 l1 a2 a3 = some r) :
  Calls Tryz.prog 60 #[.slice A0 l0.length c0, .slice A1 l1.length c1, .int .i64 a2, .int .i64 a3] w fun e w' => e = .returned (.int .i64 r) ∧ Below w.heap.size w w' := by
 have HR := az hr0
 have HC := az hc0
 have HR1 := az hr1
 have hmx := hr1.2.1
 have HMX := az hmx
 unfold impl_lineWide.f at h
 replace h := Option.bind_eq_some_iff.mp h
 obtain ⟨b, hb, h⟩ := h
 by_cases hab : 0 ≤ a2 ∧ a2 ≤ b ∧ b ≤ (l1.length : Int)
 case neg => rw [if_neg hab] at h; cases h
 case pos =>
 rw [if_pos hab] at h
 have HF := az (Option.some.inj h)
 have HBD := az hb
 obtain ⟨h1, h2, h3⟩ := hab
 obtain ⟨n, hn⟩ : ∃ n : Nat, b.toNat - a2.toNat = n := ⟨_, rfl⟩
 obtain ⟨na, rfl⟩ : ∃ na : Nat, a2 = na := ⟨a2.toNat, by omega⟩
 obtain ⟨nb, rfl⟩ : ∃ nb : Nat, b = nb := ⟨b.toNat, by omega⟩
 simp only [Int.toNat_natCast] at hn HF
 have hlen : ((l1.take nb).drop na).length = n := by simp; omega
 have hbc : (nb : Int) ≤ (c1 : Int) := by omega
 have hab2 : (na : Int) ≤ (nb : Int) := h2
 have hna0 : (0 : Int) ≤ (na : Int) := h1
 have HLEN := az hlen
 have HN := az hn
 have H3 := az h3
 clear hr0 hc0 hr1 h hb h1 h2 hlen hn hmx
 by_cases hz : na = nb
 ·
  subst hz
  have hr0 : r = 0 := by
   have := HF.out
   rw [List.drop_eq_nil_of_le (by simp; omega), sumW] at this
   exact this.symm
  subst hr0
  clear HF
  go_enter Tryz.func60, Tryz.ntmps60
  go_wp2_with (first
   | (go_at_call 89; go_must (refine (impl_body.calls k A0 c0 l0 (na : Int) a3 (na : Int) _ HR.out HC.out HBD.out).mono ?_); rintro e w1 ⟨rfl, hb1⟩; have HB1 := az hb1; clear hb1))
  all_goals
   go_loopg [9, 20] 0 (fun gg s9 s20 wr => s9 = .int .i64 0 ∧ s20 = .int .i64 0 ∧ Aside0 (Below w.heap.size w wr))
   case atStart => exact ⟨rfl, rfl, HB1⟩
   case round =>
    obtain ⟨rfl, rfl, HB⟩ := hrel
    go_wp2
    go_ret
    exact ⟨rfl, HB.out⟩
 ·
  have hlt0 : na < nb := by omega
  have hb9 : nb ≤ 9223372036854775807 := by have := H3.out; have := HMX.out; omega
  have hcn : ¬ c1 = na := by omega
  obtain ⟨ad1, hA1, _⟩ := Kd.at_int HR1.out 0 (by omega) (zE H3.out)
  subst hA1
  go_enter Tryz.func60, Tryz.ntmps60
  go_wp2_with (first
   | (go_at_call 89; go_must (refine (impl_body.calls k A0 c0 l0 (na : Int) a3 (nb : Int) _ HR.out HC.out HBD.out).mono ?_); rintro e w1 ⟨rfl, hb1⟩; have HB1 := az hb1; clear hb1))
  go_loopg [9, 20] (nb - na) (fun gg s9 s20 wr => ∃ (i : Nat) (s : Int), s20 = .int .i64 i ∧ s9 = .int .i64 s ∧ i ≤ nb - na ∧ nb - na - i ≤ gg ∧ Aside0 (sumW (((l1.take nb).drop na).drop i) s = r) ∧ Aside0 (Below w.heap.size w wr))
  case atStart => exact ⟨0, 0, rfl, rfl, Nat.zero_le _, by omega, HF, HB1⟩
  case round =>
   clear HF
   obtain ⟨i, s, rfl, rfl, hi, hg, HF, HB⟩ := hrel
   by_cases hlt : i < nb - na
   ·
    have HLT := az hlt
    have hltz : (i : Int) < ((nb - na : Nat) : Int) := by omega
    obtain ⟨ad, hA, hx⟩ := Kd.at_int (Kd.C_below HR1.out HB.out) ((na + i : Nat) : Int) (by omega) (zE H3.out)
    obtain rfl : ad1 = ad := by injection hA
    rw [Int.toNat_natCast, ← add_add] at hx
    have hx1 : rd l1 ((na + i : Nat) : Int) = l1.getD (na + i) 0 := by unfold rd; rw [Int.toNat_natCast]
    rw [hx1] at hx
    have hq := HF.out
    have hl1 : i < ((l1.take nb).drop na).length := by rw [HLEN.out, ← HN.out]; exact hlt
    rw [List.drop_eq_getElem_cons hl1, sumW] at hq
    have hx2 : ((l1.take nb).drop na)[i] = l1.getD (na + i) 0 := by
     rw [← cut_get (a := na) (b := nb) (j := i) (xs := l1) (by omega) (zE H3.out), List.getD_eq_getElem?_getD, List.getElem?_eq_getElem hl1, Option.getD_some]
    rw [hx2] at hq
    obtain ⟨x, hxx⟩ : ∃ x, l1.getD (na + i) 0 = x := ⟨_, rfl⟩
    rw [hxx] at hx hq
    have HQ := az hq
    clear hx1 hx2 hxx hq hl1 hA HF
    go_wp2
    go_roundg (nb - na - (i + 1))
    case measure => have := HLT.out; omega
    case rel => exact ⟨i + 1, _, by go_num, by first | rfl | (rw [i64_w]), HLT.out, Nat.le_refl _, HQ, HB⟩
   ·
    have hltz : ¬ (i : Int) < ((nb - na : Nat) : Int) := by omega
    obtain rfl : i = nb - na := by omega
    have hq := HF.out
    rw [List.drop_eq_nil_of_le (by rw [HLEN.out, ← HN.out]; exact Nat.le_refl _), sumW] at hq
    subst hq
    clear HF
    go_wp2
    go_ret
    exact ⟨rfl, HB.out⟩
def slices_Index_int_int.l0 : Nat → List Int → Int → Int → Int → Option (Int)
 | 0, _, _, _, _ => none
 | k + 1, x0, x1, x7, x8 => if x8 < x7 then (if 0 ≤ x8 then (if x8 < (x0.length : Int) then (if x1 = (rd x0 x8) then (some x8) else (slices_Index_int_int.l0 k x0 x1 x7 (wrap64 (x8 + 1)))) else (none)) else (none)) else (some (-1))
def slices_Index_int_int.f (k : Nat) (l0 : List Int) (a1 : Int) : Option (Int) := slices_Index_int_int.l0 k l0 a1 (l0.length : Int) 0
theorem slices_Index_int_int.mono_l : ∀ k, (∀ y0 y1 y2 y3, LeO (slices_Index_int_int.l0 k y0 y1 y2 y3) (slices_Index_int_int.l0 (k + 1) y0 y1 y2 y3))
 | 0 => fun _ _ _ _ r h => by simp [slices_Index_int_int.l0] at h
 | k + 1 => by
  have ih0 := slices_Index_int_int.mono_l k
  ·
   intro y0 y1 y2 y3; unfold slices_Index_int_int.l0
   repeat' first
   | (with_reducible exact ih0 _ _ _ _)
   | (with_reducible exact LeO.refl _)
   | (with_reducible exact LeO.none _)
   | (with_reducible refine LeO.ite ?_ ?_)
   | (with_reducible refine LeO.bind ?_ (fun _ => ?_))
   | exact ih0 _ _ _ _
   | exact LeO.none _
   | refine LeO.ite ?_ ?_
   | refine LeO.bind ?_ (fun _ => ?_)
theorem slices_Index_int_int.mono : ∀ a0 a1 k, LeO (slices_Index_int_int.f k a0 a1) (slices_Index_int_int.f (k + 1) a0 a1) := by
 intro a0 a1 k; have ih0 := slices_Index_int_int.mono_l k; unfold slices_Index_int_int.f
 repeat' first
   | (with_reducible exact ih0 _ _ _ _)
   | (with_reducible exact LeO.refl _)
   | (with_reducible exact LeO.none _)
   | (with_reducible refine LeO.ite ?_ ?_)
   | (with_reducible refine LeO.bind ?_ (fun _ => ?_))
   | exact ih0 _ _ _ _
   | exact LeO.none _
   | refine LeO.ite ?_ ?_
   | refine LeO.bind ?_ (fun _ => ?_)
theorem slices_Index_int_int.calls (k : Nat) (A0 : Option Addr) (c0 : Nat) (l0 : List Int) (a1 : Int) (r : Int) (w : World) (hr0 : Kd.C (Kd.int .i64) w A0 l0.length l0) (hc0 : l0.length ≤ c0) (h : slices_Index_int_int.f k l0 a1 = some r) :
  Calls Tryz.prog 83 #[.slice A0 l0.length c0, .int .i64 a1] w fun e w' => e = .returned (.int .i64 r) ∧ Drawn0 w w' := by
 have HR0 := az hr0; have HC0 := az hc0; clear hr0 hc0; have H : (slices_Index_int_int.l0 k l0 a1 (l0.length : Int) 0) = some r := h; clear h; have H' := az H; clear H; go_enter Tryz.func83, Tryz.ntmps83; go_wp2; go_loopg [8] k (fun kq v8 w' => ∃ (x8_1 : Int), v8 = .int .i64 x8_1 ∧ Aside0 (slices_Index_int_int.l0 kq l0 a1 (l0.length : Int) x8_1 = some r) ∧ Aside0 (kq ≤ k) ∧ Drawn0 w w')
 case atStart => exact ⟨(0), zB, H', ⟨Nat.le_refl _⟩, zD⟩
 case round =>
  clear H'; (try clear p2); obtain ⟨x8_1, rfl, HA, HK1, ⟨m1, rfl⟩⟩ := hrel
  cases gk with
  | zero => exact absurd HA.out (by simp [slices_Index_int_int.l0])
  | succ k1 =>
   have H := HA.out; clear HA; simp only [slices_Index_int_int.l0] at H; by_cases c3 : x8_1 < (l0.length : Int)
   ·
    rw [if_pos c3] at H; have c3b0 : decide (x8_1 < (l0.length : Int)) = true := decide_eq_true c3; clear c3; by_cases c4 : 0 ≤ x8_1
    ·
     rw [if_pos c4] at H; have c4b0 : decide (0 ≤ x8_1) = true := decide_eq_true c4; clear c4; by_cases c5 : x8_1 < (l0.length : Int)
     ·
      rw [if_pos c5] at H; have c5b0 : decide (x8_1 < (l0.length : Int)) = true := decide_eq_true c5; clear c5; by_cases c6 : a1 = (rd l0 x8_1)
      ·
       rw [if_pos c6] at H; have c6b0 : (a1 == (rd l0 x8_1)) = true := beq_iff_eq.mpr c6; have c6b1 : (a1 != (rd l0 x8_1)) = false := bne_eq_false_iff_eq.mpr c6; clear c6; obtain rfl := Option.some.inj H; have p357 : 0 ≤ (x8_1 : Int) := of_decide_eq_true (by assumption); have q357 : x8_1 < (l0.length : Int) := of_decide_eq_true (by assumption); obtain ⟨ad357, e357, hx357_0⟩ := Kd.at_int HR0.out x8_1 p357 q357
       cases e357
       replace p357 := eq_true p357; replace q357 := eq_true q357; go_wp2; go_ret; exact ⟨zB, zD⟩
      ·
       rw [if_neg c6] at H; have c6b0 : (a1 == (rd l0 x8_1)) = false := beq_eq_false_iff_ne.mpr c6; have c6b1 : (a1 != (rd l0 x8_1)) = true := bne_iff_ne.mpr c6; have H' := az H; clear H; have p357 : 0 ≤ (x8_1 : Int) := of_decide_eq_true (by assumption); have q357 : x8_1 < (l0.length : Int) := of_decide_eq_true (by assumption); obtain ⟨ad357, e357, hx357_0⟩ := Kd.at_int HR0.out x8_1 p357 q357
       cases e357
       replace p357 := eq_true p357; replace q357 := eq_true q357; go_wp2; go_roundg k1
       case measure => have := HK1.out; omega
       case rel => exact ⟨(wrap64 (x8_1 + 1)), zB, H', ⟨zE HK1.out⟩, zD⟩
     ·
      rw [if_neg c5] at H; exact absurd H (by simp)
    ·
     rw [if_neg c4] at H; exact absurd H (by simp)
   ·
    rw [if_neg c3] at H; have c3b0 : decide (x8_1 < (l0.length : Int)) = false := decide_eq_false c3; clear c3; obtain rfl := Option.some.inj H; go_wp2; go_ret; exact ⟨zB, zD⟩
theorem newFiller_calls (k : Nat) (A0 : Option Addr) (c0 : Nat) (rs : List Int) (A1 : Option Addr) (c1 : Nat) (sp : List S50) (wide : Int) (ws bs : List Int) (w : World) (hr0 : Kd.C (Kd.int .i64) w A0 rs.length rs) (hc0 : rs.length ≤ c0) (hr1 : Kd.C k50 w A1 sp.length sp) (hc1 : sp.length ≤ c1) (hw : impl_widesOf.f k rs sp = some ws) (hb : impl_breaks.f k rs = some bs) :
  Calls Tryz.prog 40 #[.slice A0 rs.length c0, .slice A1 sp.length c1, .int .i64 wide] w fun e w' => ∃ (gb : Nat) (A2 : Option Addr) (c2 : Nat) (A3 : Option Addr) (c3 : Nat), e = .returned (.pointer (some ⟨gb, 0, none⟩)) ∧ FlO 69 gb A0 c0 rs A2 c2 ws A3 c3 bs wide w' ∧ Below w.heap.size w w' := by
 have HR := az hr0
 have HC := az hc0
 have HR1 := az hr1
 have HC1 := az hc1
 have HW := az hw
 have HB := az hb
 clear hr0 hc0 hr1 hc1 hw hb
 go_enter Tryz.func40, Tryz.ntmps40
 go_wp2_with (first
  | (go_at_call 55; go_must (refine (impl_widesOf.calls k A0 c0 rs A1 c1 sp ws _ HR.out HC.out HR1.out HC1.out HW.out).mono ?_); rintro e w1 ⟨v1, rfl, ho1, hb1⟩; obtain ⟨A2, c2, e2⟩ := Kd.R_slice ho1; subst e2; have HO1 := az ho1; have HB1 := az hb1; clear ho1 hb1)
  | (go_at_call 49; go_must (refine (impl_breaks.calls k A0 c0 rs bs _ (Kd.C_below HR.out HB1.out) HC.out HB.out).mono ?_); rintro e w2 ⟨v2, rfl, ho2, hb2⟩; obtain ⟨A3, c3, e3⟩ := Kd.R_slice ho2; subst e3; have HO2 := az ho2; have HW2 := az (Kd.C_below (Kd.R_reads' HO1.out).2.2 hb2); have HB2 := az (below_then HB1.out HB1.out.size hb2); clear ho2 hb2))
 go_ret
 have hn := blk_new w2 (.cells #[.slice A0 rs.length c0, .slice A2 ws.length c2, .slice A3 bs.length c3, .int .i64 wide] 69)
 have ha : Below w2.heap.size w2 (w2.alloc (.cells #[.slice A0 rs.length c0, .slice A2 ws.length c2, .slice A3 bs.length c3, .int .i64 wide] 69)) := below_alloc (Below.refl _ _) _
 exact ⟨w2.heap.size, A2, c2, A3, c3, rfl, ⟨hn, Kd.C_below (Kd.C_below HR.out HB2.out) ha, HC.out, Kd.C_below HW2.out ha, (Kd.R_reads' HO1.out).2.1, Kd.C_below (Kd.R_reads' HO2.out).2.2 ha, (Kd.R_reads' HO2.out).2.1⟩, below_alloc HB2.out _⟩
theorem fitsI_calls (k : Nat) (gb : Nat) (A0 : Option Addr) (c0 : Nat) (rs : List Int) (A1 : Option Addr) (c1 : Nat) (ws : List Int) (A2 : Option Addr) (c2 : Nat) (bs : List Int) (wide from_ to_ x : Int) (w : World) (hf : FlO 69 gb A0 c0 rs A1 c1 ws A2 c2 bs wide w) (hx : impl_lineWide.f k rs ws from_ to_ = some x) :
  Calls Tryz.prog 53 #[.pointer (some ⟨gb, 0, none⟩), .int .i64 from_, .int .i64 to_] w fun e w' => e = .returned (.bool (decide (x ≤ wide))) ∧ Below w.heap.size w w' := by
 have hS := FlI.of (w0 := w) hf (Below.refl _ _)
 have HX := az hx
 unfold FlI at hS
 clear hf hx
 go_enter Tryz.func53, Tryz.ntmps53
 go_upto_region 1 with fail
 go_region_held3 (fun W => W.cell? ⟨gb, 0, none⟩ = some (.slice A0 rs.length c0) ∧ W.cell? ⟨gb, 1, none⟩ = some (.slice A1 ws.length c1) ∧ W.cell? ⟨gb, 2, none⟩ = some (.slice A2 bs.length c2) ∧ W.cell? ⟨gb, 3, none⟩ = some (.int .i64 wide) ∧ Aside0 (FlO 69 gb A0 c0 rs A1 c1 ws A2 c2 bs wide W ∧ Below w.heap.size w W)) (first | (with_reducible assumption) | (with_reducible refine FlI.below ?_ zH; with_reducible assumption) | (with_reducible exact FlI.drew zH)) (first
  | (go_at_call 60; refine (impl_lineWide.calls k A0 c0 rs A1 c1 ws from_ to_ x _ ?s1 ?s2 ?s3 ?s4 HX.out).mono ?_; (case s1 => exact (show FlI 69 gb A0 c0 rs A1 c1 ws A2 c2 bs wide w _ from zH).2.2.2.2.out.1.2.1); (case s2 => exact (show FlI 69 gb A0 c0 rs A1 c1 ws A2 c2 bs wide w _ from zH).2.2.2.2.out.1.2.2.1); (case s3 => exact (show FlI 69 gb A0 c0 rs A1 c1 ws A2 c2 bs wide w _ from zH).2.2.2.2.out.1.2.2.2.1); (case s4 => exact (show FlI 69 gb A0 c0 rs A1 c1 ws A2 c2 bs wide w _ from zH).2.2.2.2.out.1.2.2.2.2.1); rintro e w3 ⟨rfl, p⟩))
 all_goals
  go_wp2
  go_ret
  exact ⟨rfl, (show FlI 69 gb A0 c0 rs A1 c1 ws A2 c2 bs wide w _ from zH).2.2.2.2.out.2⟩
theorem mustI_calls (k : Nat) (gb : Nat) (A0 : Option Addr) (c0 : Nat) (rs : List Int) (A1 : Option Addr) (c1 : Nat) (ws : List Int) (A2 : Option Addr) (c2 : Nat) (bs : List Int) (wide : Int) (m : Nat) (x : Int) (w : World) (hf : FlO 69 gb A0 c0 rs A1 c1 ws A2 c2 bs wide w) (hm : m ≤ bs.length) (hn : bs.length ≤ 1000) (hx : slices_Index_int_int.f k (bs.drop m) 2 = some x) (hx0 : -1 ≤ x) (hx1 : x ≤ 1000) :
  Calls Tryz.prog 52 #[.pointer (some ⟨gb, 0, none⟩), .int .i64 m] w fun e w' => e = .returned (.int .i64 (m + x + 1)) ∧ Drawn0 w w' := by
 have q2 := (blk_cell hf.1 2).trans (show _ = some (Value.slice A2 bs.length c2) from rfl)
 have hC := hf.2.2.2.2.2.1
 have hcc := hf.2.2.2.2.2.2
 have HD := az (Kd.C_drop (m := m) (c := c2) hC hm hcc)
 have HX := az hx
 have hw1 : wrap64 ((m : Int) + x) = (m : Int) + x := by unfold wrap64; omega
 have hw2 : IntKind.i64.wrap ((m : Int) + x) = (m : Int) + x := by rw [i64_w]; exact hw1
 have hw3 : wrap64 ((m : Int) + x + 1) = (m : Int) + x + 1 := by unfold wrap64; omega
 have hw4 : IntKind.i64.wrap ((m : Int) + x + 1) = (m : Int) + x + 1 := by rw [i64_w]; exact hw3
 have hm0 : (0 : Int) ≤ (m : Int) := by omega
 have hm1 : (m : Int) ≤ (bs.length : Int) := by omega
 have hm2 : (bs.length : Int) ≤ (c2 : Int) := by omega
 clear hf hC hx
 by_cases hc : c2 = m
 ·
  subst hc
  rw [if_pos rfl] at HD
  have he : bs.drop c2 = [] := List.drop_eq_nil_of_le (by omega)
  rw [he] at HD HX
  clear he
  go_enter Tryz.func52, Tryz.ntmps52
  go_wp2_with (go_at_call 83; go_must (refine (slices_Index_int_int.calls k A2 0 [] 2 x _ HD.out (Nat.le_refl _) HX.out).mono ?_); rintro e w1 ⟨rfl, ⟨nd, rfl⟩⟩)
  go_ret
  exact ⟨rfl, ⟨⟨_, rfl⟩⟩⟩
 ·
  rw [if_neg hc, show (Kd.int .i64).sz = 1 from rfl, Nat.mul_one] at HD
  go_enter Tryz.func52, Tryz.ntmps52
  go_wp2_with (go_at_call 83; rw [show bs.length - m = (bs.drop m).length from (List.length_drop ..).symm]; go_must (refine (slices_Index_int_int.calls k _ _ (bs.drop m) 2 x _ HD.out (by simp; omega) HX.out).mono ?_); rintro e w1 ⟨rfl, ⟨nd, rfl⟩⟩)
  go_ret
  exact ⟨rfl, ⟨⟨_, rfl⟩⟩⟩
def impl_endsOk.l0 : Nat → Int → Int → List Int → Int → Int → Option (Bool)
 | 0, _, _, _, _, _ => none
 | k + 1, x1, x5, x8, x9, x10 => if x10 < x9 then (if 0 ≤ x10 then (if x10 < (x8.length : Int) then (if (rd x8 x10) ≤ x5 then (some false) else (impl_endsOk.l0 k x1 (rd x8 x10) x8 x9 (wrap64 (x10 + 1)))) else (none)) else (none)) else (some (x5 == x1))
def impl_endsOk.f (k : Nat) (l0 : List Int) (a1 : Int) : Option (Bool) := impl_endsOk.l0 k a1 0 l0 (l0.length : Int) 0
theorem impl_endsOk.mono_l : ∀ k, (∀ y0 y1 y2 y3 y4, LeO (impl_endsOk.l0 k y0 y1 y2 y3 y4) (impl_endsOk.l0 (k + 1) y0 y1 y2 y3 y4))
 | 0 => fun _ _ _ _ _ r h => by simp [impl_endsOk.l0] at h
 | k + 1 => by
  have ih0 := impl_endsOk.mono_l k
  ·
   intro y0 y1 y2 y3 y4; unfold impl_endsOk.l0
   repeat' first
   | (with_reducible exact ih0 _ _ _ _ _)
   | (with_reducible exact LeO.refl _)
   | (with_reducible exact LeO.none _)
   | (with_reducible refine LeO.ite ?_ ?_)
   | (with_reducible refine LeO.bind ?_ (fun _ => ?_))
   | exact ih0 _ _ _ _ _
   | exact LeO.none _
   | refine LeO.ite ?_ ?_
   | refine LeO.bind ?_ (fun _ => ?_)
theorem impl_endsOk.mono : ∀ a0 a1 k, LeO (impl_endsOk.f k a0 a1) (impl_endsOk.f (k + 1) a0 a1) := by
 intro a0 a1 k; have ih0 := impl_endsOk.mono_l k; unfold impl_endsOk.f
 repeat' first
   | (with_reducible exact ih0 _ _ _ _ _)
   | (with_reducible exact LeO.refl _)
   | (with_reducible exact LeO.none _)
   | (with_reducible refine LeO.ite ?_ ?_)
   | (with_reducible refine LeO.bind ?_ (fun _ => ?_))
   | exact ih0 _ _ _ _ _
   | exact LeO.none _
   | refine LeO.ite ?_ ?_
   | refine LeO.bind ?_ (fun _ => ?_)
theorem impl_endsOk.calls (k : Nat) (A0 : Option Addr) (c0 : Nat) (l0 : List Int) (a1 : Int) (r : Bool) (w : World) (hr0 : Kd.C (Kd.int .i64) w A0 l0.length l0) (hc0 : l0.length ≤ c0) (h : impl_endsOk.f k l0 a1 = some r) :
  Calls Tryz.prog 50 #[.slice A0 l0.length c0, .int .i64 a1] w fun e w' => e = .returned (.bool r) ∧ Drawn0 w w' := by
 have HR0 := az hr0; have HC0 := az hc0; clear hr0 hc0; have H : (impl_endsOk.l0 k a1 0 l0 (l0.length : Int) 0) = some r := h; clear h; have H' := az H; clear H; go_enter Tryz.func50, Tryz.ntmps50; go_wp2; go_loopg [5, 10] k (fun kq v5 v10 w' => ∃ (x5_1 : Int) (x10_1 : Int), v5 = .int .i64 x5_1 ∧ v10 = .int .i64 x10_1 ∧ Aside0 (impl_endsOk.l0 kq a1 x5_1 l0 (l0.length : Int) x10_1 = some r) ∧ Aside0 (kq ≤ k) ∧ Drawn0 w w')
 case atStart => exact ⟨(0), (0), zB, zB, H', ⟨Nat.le_refl _⟩, zD⟩
 case round =>
  clear H'; (try clear p2); obtain ⟨x5_1, x10_1, rfl, rfl, HA, HK1, ⟨m1, rfl⟩⟩ := hrel
  cases gk with
  | zero => exact absurd HA.out (by simp [impl_endsOk.l0])
  | succ k1 =>
   have H := HA.out; clear HA; simp only [impl_endsOk.l0] at H; by_cases c3 : x10_1 < (l0.length : Int)
   ·
    rw [if_pos c3] at H; have c3b0 : decide (x10_1 < (l0.length : Int)) = true := decide_eq_true c3; clear c3; by_cases c4 : 0 ≤ x10_1
    ·
     rw [if_pos c4] at H; have c4b0 : decide (0 ≤ x10_1) = true := decide_eq_true c4; clear c4; by_cases c5 : x10_1 < (l0.length : Int)
     ·
      rw [if_pos c5] at H; have c5b0 : decide (x10_1 < (l0.length : Int)) = true := decide_eq_true c5; clear c5; by_cases c6 : (rd l0 x10_1) ≤ x5_1
      ·
       rw [if_pos c6] at H; have c6b0 : decide ((rd l0 x10_1) ≤ x5_1) = true := decide_eq_true c6; clear c6; obtain rfl := Option.some.inj H; have p434 : 0 ≤ (x10_1 : Int) := of_decide_eq_true (by assumption); have q434 : x10_1 < (l0.length : Int) := of_decide_eq_true (by assumption); obtain ⟨ad434, e434, hx434_0⟩ := Kd.at_int HR0.out x10_1 p434 q434
       cases e434
       replace p434 := eq_true p434; replace q434 := eq_true q434; go_wp2; go_ret; exact ⟨zB, zD⟩
      ·
       rw [if_neg c6] at H; have c6b0 : decide ((rd l0 x10_1) ≤ x5_1) = false := decide_eq_false c6; clear c6; have H' := az H; clear H; have p434 : 0 ≤ (x10_1 : Int) := of_decide_eq_true (by assumption); have q434 : x10_1 < (l0.length : Int) := of_decide_eq_true (by assumption); obtain ⟨ad434, e434, hx434_0⟩ := Kd.at_int HR0.out x10_1 p434 q434
       cases e434
       replace p434 := eq_true p434; replace q434 := eq_true q434; go_wp2; go_roundg k1
       case measure => have := HK1.out; omega
       case rel => exact ⟨(rd l0 x10_1), (wrap64 (x10_1 + 1)), zB, zB, H', ⟨zE HK1.out⟩, zD⟩
     ·
      rw [if_neg c5] at H; exact absurd H (by simp)
    ·
     rw [if_neg c4] at H; exact absurd H (by simp)
   ·
    rw [if_neg c3] at H; have c3b0 : decide (x10_1 < (l0.length : Int)) = false := decide_eq_false c3; clear c3; obtain rfl := Option.some.inj H; go_wp2; go_ret; exact ⟨zB, zD⟩
def fitsIL (k : Nat) (rs ws bs : List Int) (wide : Int) : List Int → Int → Option Bool
 | [], _ => some true
 | e :: r, fr => if 1 ≤ e ∧ e ≤ (bs.length : Int) ∧ 0 ≤ fr ∧ fr ≤ (bs.length : Int) then (if bs.getD (e - 1).toNat 0 = 0 then some false else (slices_Index_int_int.f k (bs.drop fr.toNat) 2).bind fun x => if -1 ≤ x ∧ x ≤ 1000 then (if fr + x + 1 < e then some false else (impl_lineWide.f k rs ws fr e).bind fun y => if y ≤ wide then fitsIL k rs ws bs wide r e else some false) else none) else none
def impl_FillFits.f (k : Nat) (l0 : List Int) (l1 : List S50) (a2 : Int) (l3 : List Int) : Option Bool := (impl_fillable.f k l0 l1 a2).bind fun a => if a = true then (impl_endsOk.f k l3 (l0.length : Int)).bind fun b => if b = true then (impl_widesOf.f k l0 l1).bind fun ws => (impl_breaks.f k l0).bind fun bs => if bs.length ≤ 1000 then fitsIL k l0 ws bs a2 l3 0 else none else some false else some false
theorem fitsIL_mono (k : Nat) (rs ws bs : List Int) (wide : Int) : ∀ (es : List Int) (fr : Int), LeO (fitsIL k rs ws bs wide es fr) (fitsIL (k + 1) rs ws bs wide es fr)
 | [], _ => LeO.refl _
 | e :: r, fr => by
  simp only [fitsIL]
  exact LeO.ite (LeO.ite (LeO.refl _) (LeO.bind (slices_Index_int_int.mono _ _ _) (fun x => LeO.ite (LeO.ite (LeO.refl _) (LeO.bind (impl_lineWide.mono _ _ _ _ _) (fun y => LeO.ite (fitsIL_mono k rs ws bs wide r e) (LeO.refl _)))) (LeO.refl _)))) (LeO.refl _)
theorem impl_FillFits.mono : ∀ a0 a1 a2 a3 k, LeO (impl_FillFits.f k a0 a1 a2 a3) (impl_FillFits.f (k + 1) a0 a1 a2 a3) := by
 intro a0 a1 a2 a3 k
 unfold impl_FillFits.f
 exact LeO.bind (impl_fillable.mono _ _ _ _) (fun a => LeO.ite (LeO.bind (impl_endsOk.mono _ _ _) (fun b => LeO.ite (LeO.bind (impl_widesOf.mono _ _ _) (fun ws => LeO.bind (impl_breaks.mono _ _) (fun bs => LeO.ite (fitsIL_mono _ _ _ _ _ _ _) (LeO.refl _)))) (LeO.refl _))) (LeO.refl _))
theorem impl_FillFits.calls (k : Nat) (A0 : Option Addr) (c0 : Nat) (l0 : List Int) (A1 : Option Addr) (c1 : Nat) (l1 : List S50) (a2 : Int) (A3 : Option Addr) (c3 : Nat) (l3 : List Int) (r : Bool) (w : World) (hr0 : Kd.C (Kd.int .i64) w A0 l0.length l0) (hc0 : l0.length ≤ c0) (hr1 : Kd.C k50 w A1 l1.length l1) (hc1 : l1.length ≤ c1) (hr3 : Kd.C (Kd.int .i64) w A3 l3.length l3) (hc3 : l3.length ≤ c3) (h : impl_FillFits.f k l0 l1 a2 l3 = some r) :
  Calls Tryz.prog 26 #[.slice A0 l0.length c0, .slice A1 l1.length c1, .int .i64 a2, .slice A3 l3.length c3] w fun e w' => e = .returned (.bool r) ∧ Below w.heap.size w w' := by
 have HR := az hr0
 have HC := az hc0
 have HR1 := az hr1
 have HC1 := az hc1
 have HR3 := az hr3
 have HC3 := az hc3
 have hmx := hr3.2.1
 have HMX := az hmx
 clear hr0 hc0 hr1 hc1 hr3 hc3 hmx
 unfold impl_FillFits.f at h
 replace h := Option.bind_eq_some_iff.mp h
 obtain ⟨a, ha, h⟩ := h
 have HA := az ha
 clear ha
 cases a
 ·
  rw [if_neg (by decide)] at h
  obtain rfl := Option.some.inj h
  clear h
  go_enter Tryz.func26, Tryz.ntmps26
  go_wp2_with (go_at_call 39; go_must (refine (impl_fillable.calls k A0 c0 l0 A1 c1 l1 a2 false _ HR.out HC.out HR1.out HC1.out HA.out).mono ?_); rintro e w1 ⟨rfl, hb1⟩; have HB1 := az hb1; clear hb1)
  go_ret
  exact ⟨rfl, HB1.out⟩
 rw [if_pos rfl] at h
 replace h := Option.bind_eq_some_iff.mp h
 obtain ⟨b, hb, h⟩ := h
 have HE := az hb
 clear hb
 cases b
 ·
  rw [if_neg (by decide)] at h
  obtain rfl := Option.some.inj h
  clear h
  go_enter Tryz.func26, Tryz.ntmps26
  go_wp2_with (first
   | (go_at_call 39; go_must (refine (impl_fillable.calls k A0 c0 l0 A1 c1 l1 a2 true _ HR.out HC.out HR1.out HC1.out HA.out).mono ?_); rintro e w1 ⟨rfl, hb1⟩; have HB1 := az hb1; clear hb1)
   | (go_at_call 50; go_must (refine (impl_endsOk.calls k A3 c3 l3 (l0.length : Int) false _ (Kd.C_below HR3.out HB1.out) HC3.out HE.out).mono ?_); rintro e w2 ⟨rfl, ⟨nd, rfl⟩⟩))
  go_ret
  exact ⟨rfl, pw_below_drewN HB1.out _⟩
 rw [if_pos rfl] at h
 replace h := Option.bind_eq_some_iff.mp h
 obtain ⟨ws, hws, h⟩ := h
 replace h := Option.bind_eq_some_iff.mp h
 obtain ⟨bs, hbs, h⟩ := h
 by_cases hn : bs.length ≤ 1000
 case neg => rw [if_neg hn] at h; cases h
 case pos =>
 rw [if_pos hn] at h
 have HF0 := az h
 have HWS := az hws
 have HBS := az hbs
 clear h hws hbs
 go_enter Tryz.func26, Tryz.ntmps26
 go_wp2_with (first
  | (go_at_call 39; go_must (refine (impl_fillable.calls k A0 c0 l0 A1 c1 l1 a2 true _ HR.out HC.out HR1.out HC1.out HA.out).mono ?_); rintro e w1 ⟨rfl, hb1⟩; have HB1 := az hb1; clear hb1)
  | (go_at_call 50; go_must (refine (impl_endsOk.calls k A3 c3 l3 (l0.length : Int) true _ (Kd.C_below HR3.out HB1.out) HC3.out HE.out).mono ?_); rintro e w2 ⟨rfl, ⟨nd, rfl⟩⟩; have HB2 := az (pw_below_drewN HB1.out nd); clear HB1)
  | (go_at_call 40; go_must (refine (newFiller_calls k A0 c0 l0 A1 c1 l1 a2 ws bs _ (Kd.C_below HR.out HB2.out) HC.out (Kd.C_below HR1.out HB2.out) HC1.out HWS.out HBS.out).mono ?_); rintro e w3 ⟨gb, A4, c4, A5, c5, rfl, hfl, hb3⟩; have HFL := az hfl; have HB3 := az (below_then HB2.out HB2.out.size hb3); clear hfl hb3))
 go_loopg [10, 31] l3.length (fun gg s10 s31 wr => ∃ (i : Nat) (fr : Int), s31 = .int .i64 i ∧ s10 = .int .i64 fr ∧ i ≤ l3.length ∧ l3.length - i ≤ gg ∧ Aside0 (fitsIL k l0 ws bs a2 (l3.drop i) fr = some r) ∧ Aside0 (Below w3.heap.size w3 wr))
 case atStart => exact ⟨0, 0, rfl, rfl, Nat.zero_le _, by omega, HF0, ⟨Below.refl _ _⟩⟩
 case round =>
  clear HF0
  obtain ⟨i, fr, rfl, rfl, hi, hg, HF, HB⟩ := hrel
  by_cases hlt : i < l3.length
  ·
   have hltz : (i : Int) < (l3.length : Int) := by omega
   have hi0 : (0 : Int) ≤ (i : Int) := by omega
   have hl9 : l3.length ≤ 9223372036854775807 := HMX.out
   obtain ⟨ad, hA, hx⟩ := Kd.at_int (Kd.C_below HR3.out (below_then HB3.out HB3.out.size HB.out)) (i : Int) hi0 hltz
   subst hA
   have hxx : rd l3 (i : Int) = l3.getD i 0 := by simp [rd]
   rw [hxx, Int.toNat_natCast] at hx
   have hq := HF.out
   rw [List.drop_eq_getElem_cons hlt, fitsIL] at hq
   obtain ⟨e, he⟩ : ∃ e, l3[i] = e := ⟨_, rfl⟩
   have he2 : l3.getD i 0 = e := by rw [List.getD_eq_getElem?_getD, List.getElem?_eq_getElem hlt, Option.getD_some]; exact he
   rw [he2] at hx
   rw [he] at hq
   clear hxx he he2 HF
   by_cases hbd : 1 ≤ e ∧ e ≤ (bs.length : Int) ∧ 0 ≤ fr ∧ fr ≤ (bs.length : Int)
   case neg => rw [if_neg hbd] at hq; cases hq
   case pos =>
   rw [if_pos hbd] at hq
   obtain ⟨h1, h2, h3, h4⟩ := hbd
   obtain ⟨m, hm⟩ : ∃ m : Nat, e - 1 = (m : Int) := ⟨(e - 1).toNat, by omega⟩
   obtain ⟨f, rfl⟩ : ∃ f : Nat, fr = f := ⟨fr.toNat, by omega⟩
   rw [hm, Int.toNat_natCast, Int.toNat_natCast] at hq
   have hm0 : (0 : Int) ≤ (m : Int) := by omega
   have hmz : (m : Int) < (bs.length : Int) := by omega
   have HFR := az (HFL.out.below HB.out)
   obtain ⟨ad5, hA5, hx5⟩ := Kd.at_int HFR.out.2.2.2.2.2.1 (m : Int) hm0 hmz
   subst hA5
   have hxx : rd bs (m : Int) = bs.getD m 0 := by simp [rd]
   rw [hxx, Int.toNat_natCast] at hx5
   obtain ⟨y, hy⟩ : ∃ y, bs.getD m 0 = y := ⟨_, rfl⟩
   rw [hy] at hx5 hq
   clear hxx hy
   have hw1 : IntKind.i64.wrap (e - 1) = (m : Int) := by rw [i64_w]; unfold wrap64; omega
   have hw2 : wrap64 (e - 1) = (m : Int) := by unfold wrap64; omega
   have HFB := az (show f ≤ bs.length by omega)
   have HMB := az (show m < bs.length by omega)
   have HLT := az hlt
   obtain ⟨q0, q1, q2, q3, q4, q5, _⟩ := FlJ.of (p := ad.add i) (q := ad5.add m) ⟨HFR.out, Below.refl _ _, hx, hx5⟩
   clear hx hx5 h1 h2 h3 h4 hm
   by_cases hy0 : y = 0
   ·
    rw [if_pos hy0] at hq
    obtain rfl := Option.some.inj hq
    have b0 : (y == 0) = true := beq_iff_eq.mpr hy0
    clear hy0 hq
    go_wp2
    go_ret
    exact ⟨rfl, below_then HB3.out HB3.out.size HB.out⟩
   ·
    rw [if_neg hy0] at hq
    have b0 : (y == 0) = false := beq_eq_false_iff_ne.mpr hy0
    replace hq := Option.bind_eq_some_iff.mp hq
    obtain ⟨x, hix, hq⟩ := hq
    have HIX := az hix
    clear hix hy0
    by_cases hxb : -1 ≤ x ∧ x ≤ 1000
    case neg => rw [if_neg hxb] at hq; cases hq
    case pos =>
    rw [if_pos hxb] at hq
    have HXB := az hxb
    clear hxb
    by_cases hmm : (f : Int) + x + 1 < e
    ·
     rw [if_pos hmm] at hq
     obtain rfl := Option.some.inj hq
     have dM : decide ((f : Int) + x + 1 < e) = true := decide_eq_true hmm
     clear hmm hq
     go_wp2_with (first | (go_at_call 52; go_must (refine (mustI_calls k gb A0 c0 l0 A4 c4 ws (some ad5) c5 bs a2 f x _ (HFR.out.below (by repeat (first | exact Below.refl _ _ | apply pw_below_drewN | apply below_drew1))) HFB.out hn HIX.out HXB.out.1 HXB.out.2).mono ?_); rintro e6 w6 ⟨rfl, ⟨nd6, rfl⟩⟩))
     go_ret
     exact ⟨rfl, below_then HB3.out HB3.out.size (by repeat (first | exact HB.out | apply pw_below_drewN | apply below_drew1))⟩
    ·
     rw [if_neg hmm] at hq
     have dM : decide ((f : Int) + x + 1 < e) = false := decide_eq_false hmm
     replace hq := Option.bind_eq_some_iff.mp hq
     obtain ⟨y1, hy1, hq⟩ := hq
     have HLW := az hy1
     clear hy1 hmm
     by_cases hxw : y1 ≤ a2
     ·
      rw [if_pos hxw] at hq
      have dX : decide (y1 ≤ a2) = true := decide_eq_true hxw
      have HQ := az hq
      clear hxw hq
      go_wp2_with (first | (go_at_call 52; go_must (refine (mustI_calls k gb A0 c0 l0 A4 c4 ws (some ad5) c5 bs a2 f x _ (HFR.out.below (by repeat (first | exact Below.refl _ _ | apply pw_below_drewN | apply below_drew1))) HFB.out hn HIX.out HXB.out.1 HXB.out.2).mono ?_); rintro e6 w6 ⟨rfl, ⟨nd6, rfl⟩⟩) | (go_at_call 53; go_must (refine (fitsI_calls k gb A0 c0 l0 A4 c4 ws (some ad5) c5 bs a2 (f : Int) e y1 _ (HFR.out.below (by repeat (first | exact Below.refl _ _ | apply pw_below_drewN | apply below_drew1))) HLW.out).mono ?_); rw [dX]; rintro e7 w7 ⟨rfl, hb7⟩; have HB7 := az (below_then (w := wr) (B := wr.heap.size) (by repeat (first | exact Below.refl _ _ | apply pw_below_drewN | apply below_drew1)) (by first | exact Nat.le_refl _ | simp) hb7); clear hb7))
      go_roundg (l3.length - (i + 1))
      case measure => have := HLT.out; omega
      case rel => exact ⟨i + 1, _, by go_num, rfl, HLT.out, Nat.le_refl _, HQ, ⟨below_then HB.out HB.out.size HB7.out⟩⟩
     ·
      rw [if_neg hxw] at hq
      obtain rfl := Option.some.inj hq
      have dX : decide (y1 ≤ a2) = false := decide_eq_false hxw
      clear hxw hq
      go_wp2_with (first | (go_at_call 52; go_must (refine (mustI_calls k gb A0 c0 l0 A4 c4 ws (some ad5) c5 bs a2 f x _ (HFR.out.below (by repeat (first | exact Below.refl _ _ | apply pw_below_drewN | apply below_drew1))) HFB.out hn HIX.out HXB.out.1 HXB.out.2).mono ?_); rintro e6 w6 ⟨rfl, ⟨nd6, rfl⟩⟩) | (go_at_call 53; go_must (refine (fitsI_calls k gb A0 c0 l0 A4 c4 ws (some ad5) c5 bs a2 (f : Int) e y1 _ (HFR.out.below (by repeat (first | exact Below.refl _ _ | apply pw_below_drewN | apply below_drew1))) HLW.out).mono ?_); rw [dX]; rintro e7 w7 ⟨rfl, hb7⟩; have HB7 := az (below_then (w := wr) (B := wr.heap.size) (by repeat (first | exact Below.refl _ _ | apply pw_below_drewN | apply below_drew1)) (by first | exact Nat.le_refl _ | simp) hb7); clear hb7))
      go_ret
      exact ⟨rfl, below_then HB3.out HB3.out.size (below_then HB.out HB.out.size HB7.out)⟩
  ·
   have hltz : ¬ (i : Int) < (l3.length : Int) := by omega
   obtain rfl : i = l3.length := by omega
   have hq := HF.out
   rw [List.drop_length, fitsIL] at hq
   obtain rfl := Option.some.inj hq
   clear hq HF
   go_wp2
   go_ret
   exact ⟨rfl, below_then HB3.out HB3.out.size HB.out⟩
def spec_l1Size.f (a0 : Int) : Option (Int) := (spec_l1In.f a0 0 127).bind fun t101 => (if t101 = true then (some 1) else ((spec_l1In.f a0 128 2047).bind fun t102 => (if t102 = true then (some 2) else ((spec_l1In.f a0 55296 57343).bind fun t103 => (if t103 = true then (some 0) else ((spec_l1In.f a0 2048 65535).bind fun t104 => (if t104 = true then (some 3) else ((spec_l1In.f a0 65536 1114111).bind fun t105 => (if t105 = true then (some 4) else (some 0))))))))))
theorem spec_l1Size.calls (a0 : Int) (r : Int) (w : World) (h : spec_l1Size.f a0 = some r) :
  Calls Tryz.prog 95 #[.int .i64 a0] w fun e w' => e = .returned (.int .i64 r) ∧ Drawn0 w w' := by
 have H : ((spec_l1In.f a0 0 127).bind fun t101 => (if t101 = true then (some 1) else ((spec_l1In.f a0 128 2047).bind fun t102 => (if t102 = true then (some 2) else ((spec_l1In.f a0 55296 57343).bind fun t103 => (if t103 = true then (some 0) else ((spec_l1In.f a0 2048 65535).bind fun t104 => (if t104 = true then (some 3) else ((spec_l1In.f a0 65536 1114111).bind fun t105 => (if t105 = true then (some 4) else (some 0))))))))))) = some r := h; clear h; replace H := Option.bind_eq_some_iff.mp H; obtain ⟨t101, A20, H⟩ := H; replace H : (if t101 = true then (some 1) else ((spec_l1In.f a0 128 2047).bind fun t102 => (if t102 = true then (some 2) else ((spec_l1In.f a0 55296 57343).bind fun t103 => (if t103 = true then (some 0) else ((spec_l1In.f a0 2048 65535).bind fun t104 => (if t104 = true then (some 3) else ((spec_l1In.f a0 65536 1114111).bind fun t105 => (if t105 = true then (some 4) else (some 0)))))))))) = some r := H; have A2 := az A20; clear A20; by_cases c3 : t101 = true
 ·
  subst c3; have H1 : (some 1) = some r := by rw [if_pos rfl] at H; exact H
  clear H; have H := H1; clear H1; obtain rfl := Option.some.inj H; go_enter Tryz.func95, Tryz.ntmps95; go_wp2_with (first | ((with_reducible refine gate_callee (f := 36) rfl ?_); refine goesL_ (some 5) rfl rfl Tryz.func36 (by kernel_rfl) rfl #[.int .i64 a0, .int .i64 0, .int .i64 127] rfl zC ?_; (with_reducible refine (spec_l1In.calls a0 0 127 true _ A2.out).mono ?_); rintro e w' ⟨rfl, ⟨nd, rfl⟩⟩; refine ⟨_, rfl, ?_⟩)); go_ret; exact ⟨zB, zD⟩
 ·
  replace c3 := Bool.eq_false_iff.mpr c3; subst c3; have H1 : ((spec_l1In.f a0 128 2047).bind fun t102 => (if t102 = true then (some 2) else ((spec_l1In.f a0 55296 57343).bind fun t103 => (if t103 = true then (some 0) else ((spec_l1In.f a0 2048 65535).bind fun t104 => (if t104 = true then (some 3) else ((spec_l1In.f a0 65536 1114111).bind fun t105 => (if t105 = true then (some 4) else (some 0))))))))) = some r := by rw [if_neg (show ¬ (false = true) by decide)] at H; exact H
  clear H; have H := H1; clear H1; replace H := Option.bind_eq_some_iff.mp H; obtain ⟨t102, A40, H⟩ := H; replace H : (if t102 = true then (some 2) else ((spec_l1In.f a0 55296 57343).bind fun t103 => (if t103 = true then (some 0) else ((spec_l1In.f a0 2048 65535).bind fun t104 => (if t104 = true then (some 3) else ((spec_l1In.f a0 65536 1114111).bind fun t105 => (if t105 = true then (some 4) else (some 0)))))))) = some r := H; have A4 := az A40; clear A40; by_cases c5 : t102 = true
  ·
   subst c5; have H1 : (some 2) = some r := by rw [if_pos rfl] at H; exact H
   clear H; have H := H1; clear H1; obtain rfl := Option.some.inj H; go_enter Tryz.func95, Tryz.ntmps95; go_wp2_with (first | ((with_reducible refine gate_callee (f := 36) rfl ?_); refine goesL_ (some 5) rfl rfl Tryz.func36 (by kernel_rfl) rfl #[.int .i64 a0, .int .i64 0, .int .i64 127] rfl zC ?_; (with_reducible refine (spec_l1In.calls a0 0 127 false _ A2.out).mono ?_); rintro e w' ⟨rfl, ⟨nd, rfl⟩⟩; refine ⟨_, rfl, ?_⟩) | ((with_reducible refine gate_callee (f := 36) rfl ?_); refine goesL_ (some 8) rfl rfl Tryz.func36 (by kernel_rfl) rfl #[.int .i64 a0, .int .i64 128, .int .i64 2047] rfl zC ?_; (with_reducible refine (spec_l1In.calls a0 128 2047 true _ A4.out).mono ?_); rintro e w' ⟨rfl, ⟨nd, rfl⟩⟩; refine ⟨_, rfl, ?_⟩)); go_ret; exact ⟨zB, zD⟩
  ·
   replace c5 := Bool.eq_false_iff.mpr c5; subst c5; have H1 : ((spec_l1In.f a0 55296 57343).bind fun t103 => (if t103 = true then (some 0) else ((spec_l1In.f a0 2048 65535).bind fun t104 => (if t104 = true then (some 3) else ((spec_l1In.f a0 65536 1114111).bind fun t105 => (if t105 = true then (some 4) else (some 0))))))) = some r := by rw [if_neg (show ¬ (false = true) by decide)] at H; exact H
   clear H; have H := H1; clear H1; replace H := Option.bind_eq_some_iff.mp H; obtain ⟨t103, A60, H⟩ := H; replace H : (if t103 = true then (some 0) else ((spec_l1In.f a0 2048 65535).bind fun t104 => (if t104 = true then (some 3) else ((spec_l1In.f a0 65536 1114111).bind fun t105 => (if t105 = true then (some 4) else (some 0)))))) = some r := H; have A6 := az A60; clear A60; by_cases c7 : t103 = true
   ·
    subst c7; have H1 : (some 0) = some r := by rw [if_pos rfl] at H; exact H
    clear H; have H := H1; clear H1; obtain rfl := Option.some.inj H; go_enter Tryz.func95, Tryz.ntmps95; go_wp2_with (first | ((with_reducible refine gate_callee (f := 36) rfl ?_); refine goesL_ (some 5) rfl rfl Tryz.func36 (by kernel_rfl) rfl #[.int .i64 a0, .int .i64 0, .int .i64 127] rfl zC ?_; (with_reducible refine (spec_l1In.calls a0 0 127 false _ A2.out).mono ?_); rintro e w' ⟨rfl, ⟨nd, rfl⟩⟩; refine ⟨_, rfl, ?_⟩) | ((with_reducible refine gate_callee (f := 36) rfl ?_); refine goesL_ (some 8) rfl rfl Tryz.func36 (by kernel_rfl) rfl #[.int .i64 a0, .int .i64 128, .int .i64 2047] rfl zC ?_; (with_reducible refine (spec_l1In.calls a0 128 2047 false _ A4.out).mono ?_); rintro e w' ⟨rfl, ⟨nd, rfl⟩⟩; refine ⟨_, rfl, ?_⟩) | ((with_reducible refine gate_callee (f := 36) rfl ?_); refine goesL_ (some 11) rfl rfl Tryz.func36 (by kernel_rfl) rfl #[.int .i64 a0, .int .i64 55296, .int .i64 57343] rfl zC ?_; (with_reducible refine (spec_l1In.calls a0 55296 57343 true _ A6.out).mono ?_); rintro e w' ⟨rfl, ⟨nd, rfl⟩⟩; refine ⟨_, rfl, ?_⟩)); go_ret; exact ⟨zB, zD⟩
   ·
    replace c7 := Bool.eq_false_iff.mpr c7; subst c7; have H1 : ((spec_l1In.f a0 2048 65535).bind fun t104 => (if t104 = true then (some 3) else ((spec_l1In.f a0 65536 1114111).bind fun t105 => (if t105 = true then (some 4) else (some 0))))) = some r := by rw [if_neg (show ¬ (false = true) by decide)] at H; exact H
    clear H; have H := H1; clear H1; replace H := Option.bind_eq_some_iff.mp H; obtain ⟨t104, A80, H⟩ := H; replace H : (if t104 = true then (some 3) else ((spec_l1In.f a0 65536 1114111).bind fun t105 => (if t105 = true then (some 4) else (some 0)))) = some r := H; have A8 := az A80; clear A80; by_cases c9 : t104 = true
    ·
     subst c9; have H1 : (some 3) = some r := by rw [if_pos rfl] at H; exact H
     clear H; have H := H1; clear H1; obtain rfl := Option.some.inj H; go_enter Tryz.func95, Tryz.ntmps95; go_wp2_with (first | ((with_reducible refine gate_callee (f := 36) rfl ?_); refine goesL_ (some 5) rfl rfl Tryz.func36 (by kernel_rfl) rfl #[.int .i64 a0, .int .i64 0, .int .i64 127] rfl zC ?_; (with_reducible refine (spec_l1In.calls a0 0 127 false _ A2.out).mono ?_); rintro e w' ⟨rfl, ⟨nd, rfl⟩⟩; refine ⟨_, rfl, ?_⟩) | ((with_reducible refine gate_callee (f := 36) rfl ?_); refine goesL_ (some 8) rfl rfl Tryz.func36 (by kernel_rfl) rfl #[.int .i64 a0, .int .i64 128, .int .i64 2047] rfl zC ?_; (with_reducible refine (spec_l1In.calls a0 128 2047 false _ A4.out).mono ?_); rintro e w' ⟨rfl, ⟨nd, rfl⟩⟩; refine ⟨_, rfl, ?_⟩) | ((with_reducible refine gate_callee (f := 36) rfl ?_); refine goesL_ (some 11) rfl rfl Tryz.func36 (by kernel_rfl) rfl #[.int .i64 a0, .int .i64 55296, .int .i64 57343] rfl zC ?_; (with_reducible refine (spec_l1In.calls a0 55296 57343 false _ A6.out).mono ?_); rintro e w' ⟨rfl, ⟨nd, rfl⟩⟩; refine ⟨_, rfl, ?_⟩) | ((with_reducible refine gate_callee (f := 36) rfl ?_); refine goesL_ (some 14) rfl rfl Tryz.func36 (by kernel_rfl) rfl #[.int .i64 a0, .int .i64 2048, .int .i64 65535] rfl zC ?_; (with_reducible refine (spec_l1In.calls a0 2048 65535 true _ A8.out).mono ?_); rintro e w' ⟨rfl, ⟨nd, rfl⟩⟩; refine ⟨_, rfl, ?_⟩)); go_ret; exact ⟨zB, zD⟩
    ·
     replace c9 := Bool.eq_false_iff.mpr c9; subst c9; have H1 : ((spec_l1In.f a0 65536 1114111).bind fun t105 => (if t105 = true then (some 4) else (some 0))) = some r := by rw [if_neg (show ¬ (false = true) by decide)] at H; exact H
     clear H; have H := H1; clear H1; replace H := Option.bind_eq_some_iff.mp H; obtain ⟨t105, A100, H⟩ := H; replace H : (if t105 = true then (some 4) else (some 0)) = some r := H; have A10 := az A100; clear A100; by_cases c11 : t105 = true
     ·
      subst c11; have H1 : (some 4) = some r := by rw [if_pos rfl] at H; exact H
      clear H; have H := H1; clear H1; obtain rfl := Option.some.inj H; go_enter Tryz.func95, Tryz.ntmps95; go_wp2_with (first | ((with_reducible refine gate_callee (f := 36) rfl ?_); refine goesL_ (some 5) rfl rfl Tryz.func36 (by kernel_rfl) rfl #[.int .i64 a0, .int .i64 0, .int .i64 127] rfl zC ?_; (with_reducible refine (spec_l1In.calls a0 0 127 false _ A2.out).mono ?_); rintro e w' ⟨rfl, ⟨nd, rfl⟩⟩; refine ⟨_, rfl, ?_⟩) | ((with_reducible refine gate_callee (f := 36) rfl ?_); refine goesL_ (some 8) rfl rfl Tryz.func36 (by kernel_rfl) rfl #[.int .i64 a0, .int .i64 128, .int .i64 2047] rfl zC ?_; (with_reducible refine (spec_l1In.calls a0 128 2047 false _ A4.out).mono ?_); rintro e w' ⟨rfl, ⟨nd, rfl⟩⟩; refine ⟨_, rfl, ?_⟩) | ((with_reducible refine gate_callee (f := 36) rfl ?_); refine goesL_ (some 11) rfl rfl Tryz.func36 (by kernel_rfl) rfl #[.int .i64 a0, .int .i64 55296, .int .i64 57343] rfl zC ?_; (with_reducible refine (spec_l1In.calls a0 55296 57343 false _ A6.out).mono ?_); rintro e w' ⟨rfl, ⟨nd, rfl⟩⟩; refine ⟨_, rfl, ?_⟩) | ((with_reducible refine gate_callee (f := 36) rfl ?_); refine goesL_ (some 14) rfl rfl Tryz.func36 (by kernel_rfl) rfl #[.int .i64 a0, .int .i64 2048, .int .i64 65535] rfl zC ?_; (with_reducible refine (spec_l1In.calls a0 2048 65535 false _ A8.out).mono ?_); rintro e w' ⟨rfl, ⟨nd, rfl⟩⟩; refine ⟨_, rfl, ?_⟩) | ((with_reducible refine gate_callee (f := 36) rfl ?_); refine goesL_ (some 17) rfl rfl Tryz.func36 (by kernel_rfl) rfl #[.int .i64 a0, .int .i64 65536, .int .i64 1114111] rfl zC ?_; (with_reducible refine (spec_l1In.calls a0 65536 1114111 true _ A10.out).mono ?_); rintro e w' ⟨rfl, ⟨nd, rfl⟩⟩; refine ⟨_, rfl, ?_⟩)); go_ret; exact ⟨zB, zD⟩
     ·
      replace c11 := Bool.eq_false_iff.mpr c11; subst c11; have H1 : (some 0) = some r := by rw [if_neg (show ¬ (false = true) by decide)] at H; exact H
      clear H; have H := H1; clear H1; obtain rfl := Option.some.inj H; go_enter Tryz.func95, Tryz.ntmps95; go_wp2_with (first | ((with_reducible refine gate_callee (f := 36) rfl ?_); refine goesL_ (some 5) rfl rfl Tryz.func36 (by kernel_rfl) rfl #[.int .i64 a0, .int .i64 0, .int .i64 127] rfl zC ?_; (with_reducible refine (spec_l1In.calls a0 0 127 false _ A2.out).mono ?_); rintro e w' ⟨rfl, ⟨nd, rfl⟩⟩; refine ⟨_, rfl, ?_⟩) | ((with_reducible refine gate_callee (f := 36) rfl ?_); refine goesL_ (some 8) rfl rfl Tryz.func36 (by kernel_rfl) rfl #[.int .i64 a0, .int .i64 128, .int .i64 2047] rfl zC ?_; (with_reducible refine (spec_l1In.calls a0 128 2047 false _ A4.out).mono ?_); rintro e w' ⟨rfl, ⟨nd, rfl⟩⟩; refine ⟨_, rfl, ?_⟩) | ((with_reducible refine gate_callee (f := 36) rfl ?_); refine goesL_ (some 11) rfl rfl Tryz.func36 (by kernel_rfl) rfl #[.int .i64 a0, .int .i64 55296, .int .i64 57343] rfl zC ?_; (with_reducible refine (spec_l1In.calls a0 55296 57343 false _ A6.out).mono ?_); rintro e w' ⟨rfl, ⟨nd, rfl⟩⟩; refine ⟨_, rfl, ?_⟩) | ((with_reducible refine gate_callee (f := 36) rfl ?_); refine goesL_ (some 14) rfl rfl Tryz.func36 (by kernel_rfl) rfl #[.int .i64 a0, .int .i64 2048, .int .i64 65535] rfl zC ?_; (with_reducible refine (spec_l1In.calls a0 2048 65535 false _ A8.out).mono ?_); rintro e w' ⟨rfl, ⟨nd, rfl⟩⟩; refine ⟨_, rfl, ?_⟩) | ((with_reducible refine gate_callee (f := 36) rfl ?_); refine goesL_ (some 17) rfl rfl Tryz.func36 (by kernel_rfl) rfl #[.int .i64 a0, .int .i64 65536, .int .i64 1114111] rfl zC ?_; (with_reducible refine (spec_l1In.calls a0 65536 1114111 false _ A10.out).mono ?_); rintro e w' ⟨rfl, ⟨nd, rfl⟩⟩; refine ⟨_, rfl, ?_⟩)); go_ret; exact ⟨zB, zD⟩
def spec_l1Ok.l0 : Nat → List Int → Int → Option (Bool)
 | 0, _, _ => none
 | k + 1, x0, x3 => if x3 < (x0.length : Int) then (if 0 ≤ x3 then ((spec_l1Size.f (rd x0 x3)).bind fun t107 => (if t107 = 0 then (some false) else (spec_l1Ok.l0 k x0 (wrap64 (x3 + 1))))) else (none)) else (some (decide ((x0.length : Int) ≤ 80)))
def spec_l1Ok.f (k : Nat) (l0 : List Int) : Option (Bool) := spec_l1Ok.l0 k l0 0
theorem spec_l1Ok.mono_l : ∀ k, (∀ y0 y1, LeO (spec_l1Ok.l0 k y0 y1) (spec_l1Ok.l0 (k + 1) y0 y1))
 | 0 => fun _ _ r h => by simp [spec_l1Ok.l0] at h
 | k + 1 => by
  have ih0 := spec_l1Ok.mono_l k
  ·
   intro y0 y1; unfold spec_l1Ok.l0
   repeat' first
   | (with_reducible exact ih0 _ _)
   | (with_reducible exact LeO.refl _)
   | (with_reducible exact LeO.none _)
   | (with_reducible refine LeO.ite ?_ ?_)
   | (with_reducible refine LeO.bind ?_ (fun _ => ?_))
   | exact ih0 _ _
   | exact LeO.none _
   | refine LeO.ite ?_ ?_
   | refine LeO.bind ?_ (fun _ => ?_)
theorem spec_l1Ok.mono : ∀ a0 k, LeO (spec_l1Ok.f k a0) (spec_l1Ok.f (k + 1) a0) := by
 intro a0 k; have ih0 := spec_l1Ok.mono_l k; unfold spec_l1Ok.f
 repeat' first
   | (with_reducible exact ih0 _ _)
   | (with_reducible exact LeO.refl _)
   | (with_reducible exact LeO.none _)
   | (with_reducible refine LeO.ite ?_ ?_)
   | (with_reducible refine LeO.bind ?_ (fun _ => ?_))
   | exact ih0 _ _
   | exact LeO.none _
   | refine LeO.ite ?_ ?_
   | refine LeO.bind ?_ (fun _ => ?_)
theorem spec_l1Ok.calls (k : Nat) (A0 : Option Addr) (c0 : Nat) (l0 : List Int) (r : Bool) (w : World) (hr0 : Kd.C (Kd.int .i64) w A0 l0.length l0) (hc0 : l0.length ≤ c0) (h : spec_l1Ok.f k l0 = some r) :
  Calls Tryz.prog 68 #[.slice A0 l0.length c0] w fun e w' => e = .returned (.bool r) ∧ Drawn0 w w' := by
 have HR0 := az hr0; have HC0 := az hc0; clear hr0 hc0; have H : (spec_l1Ok.l0 k l0 0) = some r := h; clear h; have H' := az H; clear H; go_enter Tryz.func68, Tryz.ntmps68; go_wp2; go_loopg [3] k (fun kq v3 w' => ∃ (x3_1 : Int), v3 = .int .i64 x3_1 ∧ Aside0 (spec_l1Ok.l0 kq l0 x3_1 = some r) ∧ Aside0 (kq ≤ k) ∧ Drawn0 w w')
 case atStart => exact ⟨(0), zB, H', ⟨Nat.le_refl _⟩, zD⟩
 case round =>
  clear H'; obtain ⟨x3_1, rfl, HA, HK1, ⟨m1, rfl⟩⟩ := hrel
  cases gk with
  | zero => exact absurd HA.out (by simp [spec_l1Ok.l0])
  | succ k1 =>
   have H := HA.out; clear HA; simp only [spec_l1Ok.l0] at H; by_cases c2 : x3_1 < (l0.length : Int)
   ·
    rw [if_pos c2] at H; have c2b0 : decide (x3_1 < (l0.length : Int)) = true := decide_eq_true c2; clear c2; by_cases c3 : 0 ≤ x3_1
    ·
     rw [if_pos c3] at H; have c3b0 : decide (0 ≤ x3_1) = true := decide_eq_true c3; clear c3; replace H := Option.bind_eq_some_iff.mp H; obtain ⟨t107, A40, H⟩ := H; replace H : (if t107 = 0 then (some false) else (spec_l1Ok.l0 k1 l0 (wrap64 (x3_1 + 1)))) = some r := H; have A4 := az A40; clear A40; by_cases c5 : t107 = 0
     ·
      rw [if_pos c5] at H; have c5b0 : (t107 == 0) = true := beq_iff_eq.mpr c5; have c5b1 : (t107 != 0) = false := bne_eq_false_iff_eq.mpr c5; clear c5; obtain rfl := Option.some.inj H; have p106 : 0 ≤ (x3_1 : Int) := of_decide_eq_true (by assumption); have q106 : x3_1 < (l0.length : Int) := of_decide_eq_true (by assumption); obtain ⟨ad106, e106, hx106_0⟩ := Kd.at_int HR0.out x3_1 p106 q106
      cases e106
      replace p106 := eq_true p106; replace q106 := eq_true q106; go_wp2_with (first | ((with_reducible refine gate_callee (f := 95) rfl ?_); refine goesL_ (some 14) rfl rfl Tryz.func95 (by kernel_rfl) rfl #[.int .i64 (rd l0 x3_1)] rfl zC ?_; (with_reducible refine (spec_l1Size.calls (rd l0 x3_1) t107 _ A4.out).mono ?_); rintro e w' ⟨rfl, ⟨nd, rfl⟩⟩; refine ⟨_, rfl, ?_⟩)); go_ret; exact ⟨zB, zD⟩
     ·
      rw [if_neg c5] at H; have c5b0 : (t107 == 0) = false := beq_eq_false_iff_ne.mpr c5; have c5b1 : (t107 != 0) = true := bne_iff_ne.mpr c5; have H' := az H; clear H; have p106 : 0 ≤ (x3_1 : Int) := of_decide_eq_true (by assumption); have q106 : x3_1 < (l0.length : Int) := of_decide_eq_true (by assumption); obtain ⟨ad106, e106, hx106_0⟩ := Kd.at_int HR0.out x3_1 p106 q106
      cases e106
      replace p106 := eq_true p106; replace q106 := eq_true q106; go_wp2_with (first | ((with_reducible refine gate_callee (f := 95) rfl ?_); refine goesL_ (some 14) rfl rfl Tryz.func95 (by kernel_rfl) rfl #[.int .i64 (rd l0 x3_1)] rfl zC ?_; (with_reducible refine (spec_l1Size.calls (rd l0 x3_1) t107 _ A4.out).mono ?_); rintro e w' ⟨rfl, ⟨nd, rfl⟩⟩; refine ⟨_, rfl, ?_⟩)); go_roundg k1
      case measure => have := HK1.out; omega
      case rel => exact ⟨(wrap64 (x3_1 + 1)), zB, H', ⟨zE HK1.out⟩, zD⟩
    ·
     rw [if_neg c3] at H; exact absurd H (by simp)
   ·
    rw [if_neg c2] at H; have c2b0 : decide (x3_1 < (l0.length : Int)) = false := decide_eq_false c2; clear c2; obtain rfl := Option.some.inj H; go_wp2; go_ret; exact ⟨zB, zD⟩
def spec_l7All.f (k : Nat) (l0 : List Int) (l1 : List (S50)) (a2 : Int) : Option (Bool) := (spec_l1Ok.f k l0).bind fun t113 => (if t113 = true then ((spec_SpansOk.f k l1 (l0.length : Int)).bind fun t114 => (if t114 = true then ((spec_l1In.f a2 0 20000).bind fun t115 => (some t115)) else (some false))) else (some false))
theorem spec_l7All.mono : ∀ a0 a1 a2 k, LeO (spec_l7All.f k a0 a1 a2) (spec_l7All.f (k + 1) a0 a1 a2) := by
 intro a0 a1 a2 k; unfold spec_l7All.f
 repeat' first
   | (with_reducible exact spec_SpansOk.mono _ _ _)
   | (with_reducible exact spec_l1Ok.mono _ _)
   | (with_reducible exact LeO.refl _)
   | (with_reducible exact LeO.none _)
   | (with_reducible refine LeO.ite ?_ ?_)
   | (with_reducible refine LeO.bind ?_ (fun _ => ?_))
   | exact spec_SpansOk.mono _ _ _
   | exact spec_l1Ok.mono _ _
   | exact LeO.none _
   | refine LeO.ite ?_ ?_
   | refine LeO.bind ?_ (fun _ => ?_)
theorem spec_l7All.calls (k : Nat) (A0 : Option Addr) (c0 : Nat) (l0 : List Int) (A1 : Option Addr) (c1 : Nat) (l1 : List (S50)) (a2 : Int) (r : Bool) (w : World) (hr0 : Kd.C (Kd.int .i64) w A0 l0.length l0) (hc0 : l0.length ≤ c0) (hr1 : Kd.C k50 w A1 l1.length l1) (hc1 : l1.length ≤ c1) (h : spec_l7All.f k l0 l1 a2 = some r) :
  Calls Tryz.prog 35 #[.slice A0 l0.length c0, .slice A1 l1.length c1, .int .i64 a2] w fun e w' => e = .returned (.bool r) ∧ Below w.heap.size w w' := by
 have HR0 := az hr0; have HC0 := az hc0; clear hr0 hc0; have HR1 := az hr1; have HC1 := az hc1; clear hr1 hc1; have HB := az (Below.refl w.heap.size w); have H : ((spec_l1Ok.f k l0).bind fun t113 => (if t113 = true then ((spec_SpansOk.f k l1 (l0.length : Int)).bind fun t114 => (if t114 = true then ((spec_l1In.f a2 0 20000).bind fun t115 => (some t115)) else (some false))) else (some false))) = some r := h; clear h; replace H := Option.bind_eq_some_iff.mp H; obtain ⟨t113, A40, H⟩ := H; replace H : (if t113 = true then ((spec_SpansOk.f k l1 (l0.length : Int)).bind fun t114 => (if t114 = true then ((spec_l1In.f a2 0 20000).bind fun t115 => (some t115)) else (some false))) else (some false)) = some r := H; have A4 := az A40; clear A40; by_cases c5 : t113 = true
 ·
  subst c5; have H1 : ((spec_SpansOk.f k l1 (l0.length : Int)).bind fun t114 => (if t114 = true then ((spec_l1In.f a2 0 20000).bind fun t115 => (some t115)) else (some false))) = some r := by rw [if_pos rfl] at H; exact H
  clear H; have H := H1; clear H1; replace H := Option.bind_eq_some_iff.mp H; obtain ⟨t114, A60, H⟩ := H; replace H : (if t114 = true then ((spec_l1In.f a2 0 20000).bind fun t115 => (some t115)) else (some false)) = some r := H; have A6 := az A60; clear A60; by_cases c7 : t114 = true
  ·
   subst c7; have H1 : ((spec_l1In.f a2 0 20000).bind fun t115 => (some t115)) = some r := by rw [if_pos rfl] at H; exact H
   clear H; have H := H1; clear H1; replace H := Option.bind_eq_some_iff.mp H; obtain ⟨t115, A80, H⟩ := H; replace H : (some t115) = some r := H; have A8 := az A80; clear A80; obtain rfl := Option.some.inj H; go_enter Tryz.func35, Tryz.ntmps35; go_wp2_with (first | ((with_reducible refine gate_callee (f := 68) rfl ?_); refine goesL_ (some 8) rfl rfl Tryz.func68 (by kernel_rfl) rfl #[.slice A0 l0.length c0] rfl zC ?_; (with_reducible refine (spec_l1Ok.calls k _ _ l0 true _ ?side1 ?side2 A4.out).mono ?_); (case side1 => exact (zO HR0.out)); (case side2 => exact HC0.out); rintro e w' ⟨rfl, ⟨nd, rfl⟩⟩; refine ⟨_, rfl, ?_⟩) | (go_at_call 69; (with_reducible refine (spec_SpansOk.calls k _ _ l1 (l0.length : Int) true _ ?side1 ?side2 A6.out).mono ?_); (case side1 => exact (zO HR1.out)); (case side2 => exact HC1.out); rintro e w9 ⟨rfl, hb⟩; have n0_ := az (below_step (zA HB.out) hb); clear HB; have HB := n0_; clear n0_; (try clear hb); (try clear hb2); (try clear hk); (try clear hi)) | (go_at_call 36; (with_reducible refine (spec_l1In.calls a2 0 20000 t115 _ A8.out).mono ?_); rintro e w' ⟨rfl, ⟨nd, rfl⟩⟩)); go_ret; exact ⟨zG, zA HB.out⟩
  ·
   replace c7 := Bool.eq_false_iff.mpr c7; subst c7; have H1 : (some false) = some r := by rw [if_neg (show ¬ (false = true) by decide)] at H; exact H
   clear H; have H := H1; clear H1; obtain rfl := Option.some.inj H; go_enter Tryz.func35, Tryz.ntmps35; go_wp2_with (first | ((with_reducible refine gate_callee (f := 68) rfl ?_); refine goesL_ (some 8) rfl rfl Tryz.func68 (by kernel_rfl) rfl #[.slice A0 l0.length c0] rfl zC ?_; (with_reducible refine (spec_l1Ok.calls k _ _ l0 true _ ?side1 ?side2 A4.out).mono ?_); (case side1 => exact (zO HR0.out)); (case side2 => exact HC0.out); rintro e w' ⟨rfl, ⟨nd, rfl⟩⟩; refine ⟨_, rfl, ?_⟩) | (go_at_call 69; (with_reducible refine (spec_SpansOk.calls k _ _ l1 (l0.length : Int) false _ ?side1 ?side2 A6.out).mono ?_); (case side1 => exact (zO HR1.out)); (case side2 => exact HC1.out); rintro e w10 ⟨rfl, hb⟩; have n0_ := az (below_step (zA HB.out) hb); clear HB; have HB := n0_; clear n0_; (try clear hb); (try clear hb2); (try clear hk); (try clear hi))); go_ret; exact ⟨zG, zA HB.out⟩
 ·
  replace c5 := Bool.eq_false_iff.mpr c5; subst c5; have H1 : (some false) = some r := by rw [if_neg (show ¬ (false = true) by decide)] at H; exact H
  clear H; have H := H1; clear H1; obtain rfl := Option.some.inj H; go_enter Tryz.func35, Tryz.ntmps35; go_wp2_with (first | ((with_reducible refine gate_callee (f := 68) rfl ?_); refine goesL_ (some 8) rfl rfl Tryz.func68 (by kernel_rfl) rfl #[.slice A0 l0.length c0] rfl zC ?_; (with_reducible refine (spec_l1Ok.calls k _ _ l0 false _ ?side1 ?side2 A4.out).mono ?_); (case side1 => exact (zO HR0.out)); (case side2 => exact HC0.out); rintro e w' ⟨rfl, ⟨nd, rfl⟩⟩; refine ⟨_, rfl, ?_⟩)); go_ret; exact ⟨zG, zA HB.out⟩
def spec_l1Moves.l0 : Nat → Int → List Int → Int → Option (Int)
 | 0, _, _, _ => none
 | k + 1, x0, x3, x4 => if x4 < (x3.length : Int) then (if 0 ≤ x4 then (if (rd x3 x4) = x0 then (some (wrap64 (14 + x4))) else (spec_l1Moves.l0 k x0 x3 (wrap64 (x4 + 1)))) else (none)) else (some 13)
def spec_l1Moves.f (k : Nat) (a0 : Int) : Option (Int) := spec_l1Moves.l0 k a0 (([8234, 8235, 8236, 8237, 8238, 8294, 8295, 8296, 8297] : List Int)) 0
theorem spec_l1Moves.mono_l : ∀ k, (∀ y0 y1 y2, LeO (spec_l1Moves.l0 k y0 y1 y2) (spec_l1Moves.l0 (k + 1) y0 y1 y2))
 | 0 => fun _ _ _ r h => by simp [spec_l1Moves.l0] at h
 | k + 1 => by
  have ih0 := spec_l1Moves.mono_l k
  ·
   intro y0 y1 y2; unfold spec_l1Moves.l0
   repeat' first
   | (with_reducible exact ih0 _ _ _)
   | (with_reducible exact LeO.refl _)
   | (with_reducible exact LeO.none _)
   | (with_reducible refine LeO.ite ?_ ?_)
   | (with_reducible refine LeO.bind ?_ (fun _ => ?_))
   | exact ih0 _ _ _
   | exact LeO.none _
   | refine LeO.ite ?_ ?_
   | refine LeO.bind ?_ (fun _ => ?_)
theorem spec_l1Moves.mono : ∀ a0 k, LeO (spec_l1Moves.f k a0) (spec_l1Moves.f (k + 1) a0) := by
 intro a0 k; have ih0 := spec_l1Moves.mono_l k; unfold spec_l1Moves.f
 repeat' first
   | (with_reducible exact ih0 _ _ _)
   | (with_reducible exact LeO.refl _)
   | (with_reducible exact LeO.none _)
   | (with_reducible refine LeO.ite ?_ ?_)
   | (with_reducible refine LeO.bind ?_ (fun _ => ?_))
   | exact ih0 _ _ _
   | exact LeO.none _
   | refine LeO.ite ?_ ?_
   | refine LeO.bind ?_ (fun _ => ?_)
theorem spec_l1Moves.calls (k : Nat) (a0 : Int) (r : Int) (w : World) (h : spec_l1Moves.f k a0 = some r) :
  Calls Tryz.prog 146 #[.int .i64 a0] w fun e w' => e = .returned (.int .i64 r) ∧ Below w.heap.size w w' := by
 have HB := az (Below.refl w.heap.size w); have H : (spec_l1Moves.l0 k a0 (([8234, 8235, 8236, 8237, 8238, 8294, 8295, 8296, 8297] : List Int)) 0) = some r := h; clear h; obtain ⟨y116, hy116⟩ : ∃ y_ : List Int, y_ = (([8234, 8235, 8236, 8237, 8238, 8294, 8295, 8296, 8297] : List Int)) := ⟨_, rfl⟩; replace H : (spec_l1Moves.l0 k a0 y116 0) = some r := by first | (rw [hy116]; with_reducible exact H) | (have H2_ := (Option.bind_some _ _).symm.trans H; rw [hy116]; with_reducible exact H2_) | (have H2_ := (Option.bind_some _ _).symm.trans H; with_reducible exact H2_) | with_reducible exact H | (rw [hy116]; exact H) | exact H
 have Ny116 := az hy116; clear hy116; have H' := az H; clear H; go_enter Tryz.func146, Tryz.ntmps146; go_wp2_with (first | ((with_reducible refine gate_dst (N := 5) rfl ?_); refine Kd.R_lit (Kd.int .i64) _ 3 ?hg (N := 5) ?hd (xs := ([8234, 8235, 8236, 8237, 8238, 8294, 8295, 8296, 8297] : List Int)) (inner := [.int .i64 8234, .int .i64 8235, .int .i64 8236, .int .i64 8237, .int .i64 8238, .int .i64 8294, .int .i64 8295, .int .i64 8296, .int .i64 8297]) (ok := fun _ => True) (okp := fun _ => True) ?hr ?hp (fun _ hk => hk) trivial (Below.refl _ _) (Nat.le_refl _) (by simp) ?_; (case hd => rfl); (case hg => rfl); (case hr => first | (go_simp; done) | (go_simp; rfl)); (case hp => exact (Reps.one (show Kd.M (Kd.int .i64) _ _ _ 8234 [.int .i64 8234] from rfl) (Reps.one (show Kd.M (Kd.int .i64) _ _ _ 8235 [.int .i64 8235] from rfl) (Reps.one (show Kd.M (Kd.int .i64) _ _ _ 8236 [.int .i64 8236] from rfl) (Reps.one (show Kd.M (Kd.int .i64) _ _ _ 8237 [.int .i64 8237] from rfl) (Reps.one (show Kd.M (Kd.int .i64) _ _ _ 8238 [.int .i64 8238] from rfl) (Reps.one (show Kd.M (Kd.int .i64) _ _ _ 8294 [.int .i64 8294] from rfl) (Reps.one (show Kd.M (Kd.int .i64) _ _ _ 8295 [.int .i64 8295] from rfl) (Reps.one (show Kd.M (Kd.int .i64) _ _ _ 8296 [.int .i64 8296] from rfl) (Reps.one (show Kd.M (Kd.int .i64) _ _ _ 8297 [.int .i64 8297] from rfl) (Reps.none _ _))))))))))); intro v117 w2 ho3 hb hg_ hnew_; clear hg_ hnew_; (first | rw [← Ny116.out] at ho3 | (simp only [Int.reduceToNat] at ho3; rw [← Ny116.out] at ho3)); have n0_ := az (Kd.R_lower ho3 (below_size (zA HB.out))); have n1_ := az (below_step (zA HB.out) hb); clear HB; have HO118 := n0_; have HB := n1_; clear n0_ n1_; clear hb ho3)); go_loopg [4] k (fun kq v4 w' => ∃ (x4_1 : Int), v4 = .int .i64 x4_1 ∧ Aside0 (spec_l1Moves.l0 kq a0 y116 x4_1 = some r) ∧ Aside0 (kq ≤ k) ∧ Aside0 (Kd.R (Kd.int .i64) 3 w' w.heap.size (fun _ => True) v117 y116) ∧ Aside0 (Below w.heap.size w w'))
 case atStart => exact ⟨(0), zB, H', ⟨Nat.le_refl _⟩, ⟨zF HO118.out⟩, ⟨zA HB.out⟩⟩
 case round =>
  clear H'; (try clear c1); (try clear p2); obtain ⟨x4_1, rfl, HA, HK1, HO_3, HB⟩ := hrel
  cases gk with
  | zero => exact absurd HA.out (by simp [spec_l1Moves.l0])
  | succ k1 =>
   have H := HA.out; clear HA; simp only [spec_l1Moves.l0] at H; by_cases c4 : x4_1 < (y116.length : Int)
   ·
    rw [if_pos c4] at H; have c4b0 : decide (x4_1 < (y116.length : Int)) = true := decide_eq_true c4; clear c4; by_cases c5 : 0 ≤ x4_1
    ·
     rw [if_pos c5] at H; have c5b0 : decide (0 ≤ x4_1) = true := decide_eq_true c5; clear c5; by_cases c6 : (rd y116 x4_1) = a0
     ·
      rw [if_pos c6] at H; have c6b0 : ((rd y116 x4_1) == a0) = true := beq_iff_eq.mpr c6; have c6b1 : ((rd y116 x4_1) != a0) = false := bne_eq_false_iff_eq.mpr c6; clear c6; obtain rfl := Option.some.inj H; obtain ⟨Ao7, co7, eo7⟩ := Kd.R_slice HO_3.out; subst eo7; have p119 : 0 ≤ (x4_1 : Int) := of_decide_eq_true (by assumption); have q119 : x4_1 < (y116.length : Int) := of_decide_eq_true (by assumption); obtain ⟨ad119, e119, hx119_0⟩ := Kd.at_int (Kd.R_reads' HO_3.out).2.2 x4_1 p119 q119
      cases e119
      replace p119 := eq_true p119; replace q119 := eq_true q119; go_wp2; go_ret; exact ⟨zG, zA HB.out⟩
     ·
      rw [if_neg c6] at H; have c6b0 : ((rd y116 x4_1) == a0) = false := beq_eq_false_iff_ne.mpr c6; have c6b1 : ((rd y116 x4_1) != a0) = true := bne_iff_ne.mpr c6; have H' := az H; clear H; obtain ⟨Ao8, co8, eo8⟩ := Kd.R_slice HO_3.out; subst eo8; have p119 : 0 ≤ (x4_1 : Int) := of_decide_eq_true (by assumption); have q119 : x4_1 < (y116.length : Int) := of_decide_eq_true (by assumption); obtain ⟨ad119, e119, hx119_0⟩ := Kd.at_int (Kd.R_reads' HO_3.out).2.2 x4_1 p119 q119
      cases e119
      replace p119 := eq_true p119; replace q119 := eq_true q119; go_wp2; go_roundg k1
      case measure => have := HK1.out; omega
      case rel => exact ⟨(wrap64 (x4_1 + 1)), zB, H', ⟨zE HK1.out⟩, ⟨zF HO_3.out⟩, ⟨zA HB.out⟩⟩
    ·
     rw [if_neg c5] at H; exact absurd H (by simp)
   ·
    rw [if_neg c4] at H; have c4b0 : decide (x4_1 < (y116.length : Int)) = false := decide_eq_false c4; clear c4; obtain rfl := Option.some.inj H; obtain ⟨Ao9, co9, eo9⟩ := Kd.R_slice HO_3.out; subst eo9; go_wp2; go_ret; exact ⟨zG, zA HB.out⟩
mutual
def spec_l1Signs.j0 : Nat → Int → Bool → Option (Int)
 | 0, _, _ => none
 | k + 1, x0, x3 => if x3 = true then (some 5) else ((spec_l1In.f x0 35 37).bind fun t120 => (if t120 = true then (some 6) else (if x0 = 44 then (spec_l1Signs.j1 k x0 true) else (if x0 = 46 then (spec_l1Signs.j1 k x0 true) else (if x0 = 47 then (spec_l1Signs.j1 k x0 true) else (spec_l1Signs.j1 k x0 (x0 == 58)))))))
def spec_l1Signs.j1 : Nat → Int → Bool → Option (Int)
 | 0, _, _ => none
 | k + 1, x0, x13 => if x13 = true then (some 8) else ((spec_l1In.f x0 768 879).bind fun t121 => (if t121 = true then (some 9) else (if x0 = 8203 then (spec_l1Signs.j2 k x0 true) else (if x0 = 8205 then (spec_l1Signs.j2 k x0 true) else (spec_l1Signs.j2 k x0 (x0 == 173))))))
def spec_l1Signs.j2 : Nat → Int → Bool → Option (Int)
 | 0, _, _ => none
 | k + 1, x0, x31 => if x31 = true then (some 10) else (if x0 = 9 then (some 11) else (if x0 = 32 then (some 12) else ((spec_l1Moves.f k x0).bind fun t122 => (some t122))))
end
def spec_l1Signs.f (k : Nat) (a0 : Int) : Option (Int) := if a0 = 43 then (spec_l1Signs.j0 k a0 true) else (spec_l1Signs.j0 k a0 (a0 == 45))
theorem spec_l1Signs.mono_l : ∀ k, (∀ y0 y1, LeO (spec_l1Signs.j0 k y0 y1) (spec_l1Signs.j0 (k + 1) y0 y1)) ∧ (∀ y0 y1, LeO (spec_l1Signs.j1 k y0 y1) (spec_l1Signs.j1 (k + 1) y0 y1)) ∧ (∀ y0 y1, LeO (spec_l1Signs.j2 k y0 y1) (spec_l1Signs.j2 (k + 1) y0 y1))
 | 0 => ⟨fun _ _ r h => by simp [spec_l1Signs.j0] at h, fun _ _ r h => by simp [spec_l1Signs.j1] at h, fun _ _ r h => by simp [spec_l1Signs.j2] at h⟩
 | k + 1 => by
  obtain ⟨ih0, ih1, ih2⟩ := spec_l1Signs.mono_l k; refine ⟨?_, ?_, ?_⟩
  ·
   intro y0 y1; unfold spec_l1Signs.j0
   repeat' first
   | (with_reducible exact ih0 _ _)
   | (with_reducible exact ih1 _ _)
   | (with_reducible exact ih2 _ _)
   | (with_reducible exact spec_l1Moves.mono _ _)
   | (with_reducible exact LeO.refl _)
   | (with_reducible exact LeO.none _)
   | (with_reducible refine LeO.ite ?_ ?_)
   | (with_reducible refine LeO.bind ?_ (fun _ => ?_))
   | exact ih0 _ _
   | exact ih1 _ _
   | exact ih2 _ _
   | exact spec_l1Moves.mono _ _
   | exact LeO.none _
   | refine LeO.ite ?_ ?_
   | refine LeO.bind ?_ (fun _ => ?_)
  ·
   intro y0 y1; unfold spec_l1Signs.j1
   repeat' first
   | (with_reducible exact ih0 _ _)
   | (with_reducible exact ih1 _ _)
   | (with_reducible exact ih2 _ _)
   | (with_reducible exact spec_l1Moves.mono _ _)
   | (with_reducible exact LeO.refl _)
   | (with_reducible exact LeO.none _)
   | (with_reducible refine LeO.ite ?_ ?_)
   | (with_reducible refine LeO.bind ?_ (fun _ => ?_))
   | exact ih0 _ _
   | exact ih1 _ _
   | exact ih2 _ _
   | exact spec_l1Moves.mono _ _
   | exact LeO.none _
   | refine LeO.ite ?_ ?_
   | refine LeO.bind ?_ (fun _ => ?_)
  ·
   intro y0 y1; unfold spec_l1Signs.j2
   repeat' first
   | (with_reducible exact ih0 _ _)
   | (with_reducible exact ih1 _ _)
   | (with_reducible exact ih2 _ _)
   | (with_reducible exact spec_l1Moves.mono _ _)
   | (with_reducible exact LeO.refl _)
   | (with_reducible exact LeO.none _)
   | (with_reducible refine LeO.ite ?_ ?_)
   | (with_reducible refine LeO.bind ?_ (fun _ => ?_))
   | exact ih0 _ _
   | exact ih1 _ _
   | exact ih2 _ _
   | exact spec_l1Moves.mono _ _
   | exact LeO.none _
   | refine LeO.ite ?_ ?_
   | refine LeO.bind ?_ (fun _ => ?_)
theorem spec_l1Signs.mono : ∀ a0 k, LeO (spec_l1Signs.f k a0) (spec_l1Signs.f (k + 1) a0) := by
 intro a0 k; obtain ⟨ih0, ih1, ih2⟩ := spec_l1Signs.mono_l k; unfold spec_l1Signs.f
 repeat' first
   | (with_reducible exact ih0 _ _)
   | (with_reducible exact ih1 _ _)
   | (with_reducible exact ih2 _ _)
   | (with_reducible exact spec_l1Moves.mono _ _)
   | (with_reducible exact LeO.refl _)
   | (with_reducible exact LeO.none _)
   | (with_reducible refine LeO.ite ?_ ?_)
   | (with_reducible refine LeO.bind ?_ (fun _ => ?_))
   | exact ih0 _ _
   | exact ih1 _ _
   | exact ih2 _ _
   | exact spec_l1Moves.mono _ _
   | exact LeO.none _
   | refine LeO.ite ?_ ?_
   | refine LeO.bind ?_ (fun _ => ?_)
theorem spec_l1Signs.calls (k : Nat) (a0 : Int) (r : Int) (w : World) (h : spec_l1Signs.f k a0 = some r) :
  Calls Tryz.prog 144 #[.int .i64 a0] w fun e w' => e = .returned (.int .i64 r) ∧ Below w.heap.size w w' := by
 have HB := az (Below.refl w.heap.size w); have H : (if a0 = 43 then (spec_l1Signs.j0 k a0 true) else (spec_l1Signs.j0 k a0 (a0 == 45))) = some r := h; clear h; have HC2 := az H; clear H; go_enter Tryz.func144, Tryz.ntmps144; go_upto_region 1 with (fail)
 go_cut [3] (fun v3 wc => ∃ (kq : Nat) (x3_1 : Bool), v3 = .bool x3_1 ∧ Aside0 (spec_l1Signs.j0 kq a0 x3_1 = some r) ∧ Aside0 (kq ≤ k) ∧ Aside0 (Below w.heap.size w wc))
 case first =>
  have H := HC2.out; clear HC2; by_cases c3 : a0 = 43
  ·
   rw [if_pos c3] at H; have c3b0 : (a0 == 43) = true := beq_iff_eq.mpr c3; have c3b1 : (a0 != 43) = false := bne_eq_false_iff_eq.mpr c3; clear c3; (first | rw [c3b0] | (simp only [i64_w, i32_w]; rw [c3b0]) | skip); have H' := az H; clear H; go_wp2; go_meet
   case rel => exact ⟨_, (true), zB, H', ⟨zI⟩, ⟨zA HB.out⟩⟩
  ·
   rw [if_neg c3] at H; have c3b0 : (a0 == 43) = false := beq_eq_false_iff_ne.mpr c3; have c3b1 : (a0 != 43) = true := bne_iff_ne.mpr c3; (first | rw [c3b0] | (simp only [i64_w, i32_w]; rw [c3b0]) | skip); have H' := az H; clear H; go_wp2; go_meet
   case rel => exact ⟨_, ((a0 == 45)), zB, H', ⟨zI⟩, ⟨zA HB.out⟩⟩
 case rest =>
  clear HC2; (try clear c1); (try clear p2); (try clear c3); (try clear c3b0); (try clear c3b1); obtain ⟨kq, x3_1, rfl, HA, HJ1, HB⟩ := hcut
  cases kq with
  | zero => exact absurd HA.out (by simp [spec_l1Signs.j0])
  | succ kj1 =>
   have H := HA.out; clear HA; simp only [spec_l1Signs.j0] at H; by_cases c4 : x3_1 = true
   ·
    subst c4; have H1 : (some 5) = some r := by rw [if_pos rfl] at H; exact H
    clear H; have H := H1; clear H1; obtain rfl := Option.some.inj H; go_wp2; go_ret; exact ⟨zG, zA HB.out⟩
   ·
    replace c4 := Bool.eq_false_iff.mpr c4; subst c4; have H1 : ((spec_l1In.f a0 35 37).bind fun t120 => (if t120 = true then (some 6) else (if a0 = 44 then (spec_l1Signs.j1 kj1 a0 true) else (if a0 = 46 then (spec_l1Signs.j1 kj1 a0 true) else (if a0 = 47 then (spec_l1Signs.j1 kj1 a0 true) else (spec_l1Signs.j1 kj1 a0 (a0 == 58))))))) = some r := by rw [if_neg (show ¬ (false = true) by decide)] at H; exact H
    clear H; have H := H1; clear H1; replace H := Option.bind_eq_some_iff.mp H; obtain ⟨t120, A50, H⟩ := H; replace H : (if t120 = true then (some 6) else (if a0 = 44 then (spec_l1Signs.j1 kj1 a0 true) else (if a0 = 46 then (spec_l1Signs.j1 kj1 a0 true) else (if a0 = 47 then (spec_l1Signs.j1 kj1 a0 true) else (spec_l1Signs.j1 kj1 a0 (a0 == 58)))))) = some r := H; have A5 := az A50; clear A50; by_cases c6 : t120 = true
    ·
     subst c6; have H1 : (some 6) = some r := by rw [if_pos rfl] at H; exact H
     clear H; have H := H1; clear H1; obtain rfl := Option.some.inj H; go_wp2_with (first | ((with_reducible refine gate_callee (f := 36) rfl ?_); refine goesL_ (some 12) rfl rfl Tryz.func36 (by kernel_rfl) rfl #[.int .i64 a0, .int .i64 35, .int .i64 37] rfl zC ?_; (with_reducible refine (spec_l1In.calls a0 35 37 true _ A5.out).mono ?_); rintro e w' ⟨rfl, ⟨nd, rfl⟩⟩; refine ⟨_, rfl, ?_⟩)); go_ret; exact ⟨zG, zA HB.out⟩
    ·
     replace c6 := Bool.eq_false_iff.mpr c6; subst c6; have H1 : (if a0 = 44 then (spec_l1Signs.j1 kj1 a0 true) else (if a0 = 46 then (spec_l1Signs.j1 kj1 a0 true) else (if a0 = 47 then (spec_l1Signs.j1 kj1 a0 true) else (spec_l1Signs.j1 kj1 a0 (a0 == 58))))) = some r := by rw [if_neg (show ¬ (false = true) by decide)] at H; exact H
     clear H; have H := H1; clear H1; have HC7 := az H; clear H; go_upto_region 5 with (first | ((with_reducible refine gate_callee (f := 36) rfl ?_); refine goesL_ (some 12) rfl rfl Tryz.func36 (by kernel_rfl) rfl #[.int .i64 a0, .int .i64 35, .int .i64 37] rfl zC ?_; (with_reducible refine (spec_l1In.calls a0 35 37 false _ A5.out).mono ?_); rintro e w' ⟨rfl, ⟨nd, rfl⟩⟩; refine ⟨_, rfl, ?_⟩))
     (try simp only [Act.put, List.setIfInBounds_toArray, List.set_cons_zero, List.set_cons_succ]); go_cut [13] (fun v13 wc => ∃ (kq : Nat) (x13_6 : Bool), v13 = .bool x13_6 ∧ Aside0 (spec_l1Signs.j1 kq a0 x13_6 = some r) ∧ Aside0 (kq ≤ kj1) ∧ Aside0 (Below w.heap.size w wc))
     case first =>
      have H := HC7.out; clear HC7; by_cases c8 : a0 = 44
      ·
       rw [if_pos c8] at H; have c8b0 : (a0 == 44) = true := beq_iff_eq.mpr c8; have c8b1 : (a0 != 44) = false := bne_eq_false_iff_eq.mpr c8; clear c8; (first | rw [c8b0] | (simp only [i64_w, i32_w]; rw [c8b0]) | skip); have H' := az H; clear H; go_wp2; go_meet
       case rel => exact ⟨_, (true), zB, H', ⟨zJ HJ1.out⟩, ⟨zA HB.out⟩⟩
      ·
       rw [if_neg c8] at H; have c8b0 : (a0 == 44) = false := beq_eq_false_iff_ne.mpr c8; have c8b1 : (a0 != 44) = true := bne_iff_ne.mpr c8; (first | rw [c8b0] | (simp only [i64_w, i32_w]; rw [c8b0]) | skip); by_cases c9 : a0 = 46
       ·
        rw [if_pos c9] at H; have c9b0 : (a0 == 46) = true := beq_iff_eq.mpr c9; have c9b1 : (a0 != 46) = false := bne_eq_false_iff_eq.mpr c9; clear c9; have H' := az H; clear H; go_wp2; go_meet
        case rel => exact ⟨_, (true), zB, H', ⟨zJ HJ1.out⟩, ⟨zA HB.out⟩⟩
       ·
        rw [if_neg c9] at H; have c9b0 : (a0 == 46) = false := beq_eq_false_iff_ne.mpr c9; have c9b1 : (a0 != 46) = true := bne_iff_ne.mpr c9; by_cases c10 : a0 = 47
        ·
         rw [if_pos c10] at H; have c10b0 : (a0 == 47) = true := beq_iff_eq.mpr c10; have c10b1 : (a0 != 47) = false := bne_eq_false_iff_eq.mpr c10; clear c10; have H' := az H; clear H; go_wp2; go_meet
         case rel => exact ⟨_, (true), zB, H', ⟨zJ HJ1.out⟩, ⟨zA HB.out⟩⟩
        ·
         rw [if_neg c10] at H; have c10b0 : (a0 == 47) = false := beq_eq_false_iff_ne.mpr c10; have c10b1 : (a0 != 47) = true := bne_iff_ne.mpr c10; have H' := az H; clear H; go_wp2; go_meet
         case rel => exact ⟨_, ((a0 == 58)), zB, H', ⟨zJ HJ1.out⟩, ⟨zA HB.out⟩⟩
     case rest =>
      clear HC7; (try clear c1); (try clear p2); (try clear c3); (try clear c3b0); (try clear c3b1); (try clear c4); (try clear c6); (try clear c8); (try clear c8b0); (try clear c8b1); (try clear c9); (try clear c9b0); (try clear c9b1); (try clear c10); (try clear c10b0); (try clear c10b1); (try clear p2); obtain ⟨kq, x13_6, rfl, HA, HJ6, HB⟩ := hcut
      cases kq with
      | zero => exact absurd HA.out (by simp [spec_l1Signs.j1])
      | succ kj6 =>
       have H := HA.out; clear HA; simp only [spec_l1Signs.j1] at H; by_cases c11 : x13_6 = true
       ·
        subst c11; have H1 : (some 8) = some r := by rw [if_pos rfl] at H; exact H
        clear H; have H := H1; clear H1; obtain rfl := Option.some.inj H; go_wp2; go_ret; exact ⟨zG, zA HB.out⟩
       ·
        replace c11 := Bool.eq_false_iff.mpr c11; subst c11; have H1 : ((spec_l1In.f a0 768 879).bind fun t121 => (if t121 = true then (some 9) else (if a0 = 8203 then (spec_l1Signs.j2 kj6 a0 true) else (if a0 = 8205 then (spec_l1Signs.j2 kj6 a0 true) else (spec_l1Signs.j2 kj6 a0 (a0 == 173)))))) = some r := by rw [if_neg (show ¬ (false = true) by decide)] at H; exact H
        clear H; have H := H1; clear H1; replace H := Option.bind_eq_some_iff.mp H; obtain ⟨t121, A120, H⟩ := H; replace H : (if t121 = true then (some 9) else (if a0 = 8203 then (spec_l1Signs.j2 kj6 a0 true) else (if a0 = 8205 then (spec_l1Signs.j2 kj6 a0 true) else (spec_l1Signs.j2 kj6 a0 (a0 == 173))))) = some r := H; have A12 := az A120; clear A120; by_cases c13 : t121 = true
        ·
         subst c13; have H1 : (some 9) = some r := by rw [if_pos rfl] at H; exact H
         clear H; have H := H1; clear H1; obtain rfl := Option.some.inj H; go_wp2_with (first | ((with_reducible refine gate_callee (f := 36) rfl ?_); refine goesL_ (some 30) rfl rfl Tryz.func36 (by kernel_rfl) rfl #[.int .i64 a0, .int .i64 768, .int .i64 879] rfl zC ?_; (with_reducible refine (spec_l1In.calls a0 768 879 true _ A12.out).mono ?_); rintro e w' ⟨rfl, ⟨nd, rfl⟩⟩; refine ⟨_, rfl, ?_⟩)); go_ret; exact ⟨zG, zA HB.out⟩
        ·
         replace c13 := Bool.eq_false_iff.mpr c13; subst c13; have H1 : (if a0 = 8203 then (spec_l1Signs.j2 kj6 a0 true) else (if a0 = 8205 then (spec_l1Signs.j2 kj6 a0 true) else (spec_l1Signs.j2 kj6 a0 (a0 == 173)))) = some r := by rw [if_neg (show ¬ (false = true) by decide)] at H; exact H
         clear H; have H := H1; clear H1; have HC14 := az H; clear H; go_upto_region 9 with (first | ((with_reducible refine gate_callee (f := 36) rfl ?_); refine goesL_ (some 30) rfl rfl Tryz.func36 (by kernel_rfl) rfl #[.int .i64 a0, .int .i64 768, .int .i64 879] rfl zC ?_; (with_reducible refine (spec_l1In.calls a0 768 879 false _ A12.out).mono ?_); rintro e w' ⟨rfl, ⟨nd, rfl⟩⟩; refine ⟨_, rfl, ?_⟩))
         (try simp only [Act.put, List.setIfInBounds_toArray, List.set_cons_zero, List.set_cons_succ]); go_cut [31] (fun v31 wc => ∃ (kq : Nat) (x31_13 : Bool), v31 = .bool x31_13 ∧ Aside0 (spec_l1Signs.j2 kq a0 x31_13 = some r) ∧ Aside0 (kq ≤ kj6) ∧ Aside0 (Below w.heap.size w wc))
         case first =>
          have H := HC14.out; clear HC14; by_cases c15 : a0 = 8203
          ·
           rw [if_pos c15] at H; have c15b0 : (a0 == 8203) = true := beq_iff_eq.mpr c15; have c15b1 : (a0 != 8203) = false := bne_eq_false_iff_eq.mpr c15; clear c15; (first | rw [c15b0] | (simp only [i64_w, i32_w]; rw [c15b0]) | skip); have H' := az H; clear H; go_wp2; go_meet
           case rel => exact ⟨_, (true), zB, H', ⟨zN HJ1.out HJ6.out⟩, ⟨zA HB.out⟩⟩
          ·
           rw [if_neg c15] at H; have c15b0 : (a0 == 8203) = false := beq_eq_false_iff_ne.mpr c15; have c15b1 : (a0 != 8203) = true := bne_iff_ne.mpr c15; (first | rw [c15b0] | (simp only [i64_w, i32_w]; rw [c15b0]) | skip); by_cases c16 : a0 = 8205
           ·
            rw [if_pos c16] at H; have c16b0 : (a0 == 8205) = true := beq_iff_eq.mpr c16; have c16b1 : (a0 != 8205) = false := bne_eq_false_iff_eq.mpr c16; clear c16; have H' := az H; clear H; go_wp2; go_meet
            case rel => exact ⟨_, (true), zB, H', ⟨zN HJ1.out HJ6.out⟩, ⟨zA HB.out⟩⟩
           ·
            rw [if_neg c16] at H; have c16b0 : (a0 == 8205) = false := beq_eq_false_iff_ne.mpr c16; have c16b1 : (a0 != 8205) = true := bne_iff_ne.mpr c16; have H' := az H; clear H; go_wp2; go_meet
            case rel => exact ⟨_, ((a0 == 173)), zB, H', ⟨zN HJ1.out HJ6.out⟩, ⟨zA HB.out⟩⟩
         case rest =>
          clear HC14; (try clear c1); (try clear p2); (try clear c3); (try clear c3b0); (try clear c3b1); (try clear c4); (try clear c6); (try clear c8); (try clear c8b0); (try clear c8b1); (try clear c9); (try clear c9b0); (try clear c9b1); (try clear c10); (try clear c10b0); (try clear c10b1); (try clear c11); (try clear c13); (try clear c14); (try clear c15); (try clear c15b0); (try clear c15b1); (try clear c16); (try clear c16b0); (try clear c16b1); (try clear p2); obtain ⟨kq, x31_13, rfl, HA, HJ13, HB⟩ := hcut
          cases kq with
          | zero => exact absurd HA.out (by simp [spec_l1Signs.j2])
          | succ kj13 =>
           have H := HA.out; clear HA; simp only [spec_l1Signs.j2] at H; by_cases c17 : x31_13 = true
           ·
            subst c17; have H1 : (some 10) = some r := by rw [if_pos rfl] at H; exact H
            clear H; have H := H1; clear H1; obtain rfl := Option.some.inj H; go_wp2; go_ret; exact ⟨zG, zA HB.out⟩
           ·
            replace c17 := Bool.eq_false_iff.mpr c17; subst c17; have H1 : (if a0 = 9 then (some 11) else (if a0 = 32 then (some 12) else ((spec_l1Moves.f kj13 a0).bind fun t122 => (some t122)))) = some r := by rw [if_neg (show ¬ (false = true) by decide)] at H; exact H
            clear H; have H := H1; clear H1; by_cases c18 : a0 = 9
            ·
             rw [if_pos c18] at H; have c18b0 : (a0 == 9) = true := beq_iff_eq.mpr c18; have c18b1 : (a0 != 9) = false := bne_eq_false_iff_eq.mpr c18; clear c18; obtain rfl := Option.some.inj H; go_wp2; go_ret; exact ⟨zG, zA HB.out⟩
            ·
             rw [if_neg c18] at H; have c18b0 : (a0 == 9) = false := beq_eq_false_iff_ne.mpr c18; have c18b1 : (a0 != 9) = true := bne_iff_ne.mpr c18; by_cases c19 : a0 = 32
             ·
              rw [if_pos c19] at H; have c19b0 : (a0 == 32) = true := beq_iff_eq.mpr c19; have c19b1 : (a0 != 32) = false := bne_eq_false_iff_eq.mpr c19; clear c19; obtain rfl := Option.some.inj H; go_wp2; go_ret; exact ⟨zG, zA HB.out⟩
             ·
              rw [if_neg c19] at H; have c19b0 : (a0 == 32) = false := beq_eq_false_iff_ne.mpr c19; have c19b1 : (a0 != 32) = true := bne_iff_ne.mpr c19; replace H := Option.bind_eq_some_iff.mp H; obtain ⟨t122, A200, H⟩ := H; replace H : (some t122) = some r := H; have A20 := az A200; clear A200; obtain rfl := Option.some.inj H; go_wp2_with (first | ((with_reducible refine gate_callee (f := 146) rfl ?_); refine goesL_ (some 49) rfl rfl Tryz.func146 (by kernel_rfl) rfl #[.int .i64 a0] rfl zC ?_; (with_reducible refine (spec_l1Moves.calls kj13 a0 t122 _ A20.out).mono ?_); rintro e w21 ⟨rfl, hb⟩; refine ⟨_, rfl, ?_⟩; have n0_ := az (below_step (zA HB.out) hb); clear HB; have HB := n0_; clear n0_; (try clear hb); (try clear hb2); (try clear hk); (try clear hi))); go_ret; exact ⟨zG, zA HB.out⟩
def spec_RuneBidi.j0 : Nat → Int → Bool → Option (Int)
 | 0, _, _ => none
 | k + 1, x0, x3 => if x3 = true then (some 1) else ((spec_l1In.f x0 1488 1514).bind fun t126 => (if t126 = true then (some 2) else ((spec_l1In.f x0 1569 1610).bind fun t127 => (if t127 = true then (some 3) else ((spec_l1In.f x0 48 57).bind fun t128 => (if t128 = true then (some 4) else ((spec_l1In.f x0 1632 1641).bind fun t129 => (if t129 = true then (some 7) else ((spec_l1Signs.f k x0).bind fun t130 => (some t130))))))))))
def spec_RuneBidi.f (k : Nat) (a0 : Int) : Option (Int) := (spec_l1In.f a0 97 122).bind fun t123 => (if t123 = true then (spec_RuneBidi.j0 k a0 true) else ((spec_l1In.f a0 65 90).bind fun t124 => (if t124 = true then (spec_RuneBidi.j0 k a0 true) else ((spec_l1In.f a0 19968 40959).bind fun t125 => (spec_RuneBidi.j0 k a0 t125)))))
theorem spec_RuneBidi.mono_l : ∀ k, (∀ y0 y1, LeO (spec_RuneBidi.j0 k y0 y1) (spec_RuneBidi.j0 (k + 1) y0 y1))
 | 0 => fun _ _ r h => by simp [spec_RuneBidi.j0] at h
 | k + 1 => by
  have ih0 := spec_RuneBidi.mono_l k
  ·
   intro y0 y1; unfold spec_RuneBidi.j0
   repeat' first
   | (with_reducible exact ih0 _ _)
   | (with_reducible exact spec_l1Signs.mono _ _)
   | (with_reducible exact LeO.refl _)
   | (with_reducible exact LeO.none _)
   | (with_reducible refine LeO.ite ?_ ?_)
   | (with_reducible refine LeO.bind ?_ (fun _ => ?_))
   | exact ih0 _ _
   | exact spec_l1Signs.mono _ _
   | exact LeO.none _
   | refine LeO.ite ?_ ?_
   | refine LeO.bind ?_ (fun _ => ?_)
theorem spec_RuneBidi.mono : ∀ a0 k, LeO (spec_RuneBidi.f k a0) (spec_RuneBidi.f (k + 1) a0) := by
 intro a0 k; have ih0 := spec_RuneBidi.mono_l k; unfold spec_RuneBidi.f
 repeat' first
   | (with_reducible exact ih0 _ _)
   | (with_reducible exact spec_l1Signs.mono _ _)
   | (with_reducible exact LeO.refl _)
   | (with_reducible exact LeO.none _)
   | (with_reducible refine LeO.ite ?_ ?_)
   | (with_reducible refine LeO.bind ?_ (fun _ => ?_))
   | exact ih0 _ _
   | exact spec_l1Signs.mono _ _
   | exact LeO.none _
   | refine LeO.ite ?_ ?_
   | refine LeO.bind ?_ (fun _ => ?_)
theorem spec_RuneBidi.calls (k : Nat) (a0 : Int) (r : Int) (w : World) (h : spec_RuneBidi.f k a0 = some r) :
  Calls Tryz.prog 137 #[.int .i64 a0] w fun e w' => e = .returned (.int .i64 r) ∧ Below w.heap.size w w' := by
 have HB := az (Below.refl w.heap.size w); have H : ((spec_l1In.f a0 97 122).bind fun t123 => (if t123 = true then (spec_RuneBidi.j0 k a0 true) else ((spec_l1In.f a0 65 90).bind fun t124 => (if t124 = true then (spec_RuneBidi.j0 k a0 true) else ((spec_l1In.f a0 19968 40959).bind fun t125 => (spec_RuneBidi.j0 k a0 t125)))))) = some r := h; clear h; have HC2 := az H; clear H; go_enter Tryz.func137, Tryz.ntmps137; go_upto_region 1 with (fail)
 go_cut [3] (fun v3 wc => ∃ (kq : Nat) (x3_1 : Bool), v3 = .bool x3_1 ∧ Aside0 (spec_RuneBidi.j0 kq a0 x3_1 = some r) ∧ Aside0 (kq ≤ k) ∧ Aside0 (Below w.heap.size w wc))
 case first =>
  have H := HC2.out; clear HC2; replace H := Option.bind_eq_some_iff.mp H; obtain ⟨t123, A30, H⟩ := H; replace H : (if t123 = true then (spec_RuneBidi.j0 k a0 true) else ((spec_l1In.f a0 65 90).bind fun t124 => (if t124 = true then (spec_RuneBidi.j0 k a0 true) else ((spec_l1In.f a0 19968 40959).bind fun t125 => (spec_RuneBidi.j0 k a0 t125))))) = some r := H; have A3 := az A30; clear A30; by_cases c4 : t123 = true
  ·
   subst c4; have H1 : (spec_RuneBidi.j0 k a0 true) = some r := by rw [if_pos rfl] at H; exact H
   clear H; have H := H1; clear H1; have H' := az H; clear H; go_wp2_with (first | ((with_reducible refine gate_callee (f := 36) rfl ?_); refine goesL_ (some 5) rfl rfl Tryz.func36 (by kernel_rfl) rfl #[.int .i64 a0, .int .i64 97, .int .i64 122] rfl zC ?_; (with_reducible refine (spec_l1In.calls a0 97 122 true _ A3.out).mono ?_); rintro e w' ⟨rfl, ⟨nd, rfl⟩⟩; refine ⟨_, rfl, ?_⟩)); go_meet
   case rel => exact ⟨_, (true), zB, H', ⟨zI⟩, ⟨zA HB.out⟩⟩
  ·
   replace c4 := Bool.eq_false_iff.mpr c4; subst c4; have H1 : ((spec_l1In.f a0 65 90).bind fun t124 => (if t124 = true then (spec_RuneBidi.j0 k a0 true) else ((spec_l1In.f a0 19968 40959).bind fun t125 => (spec_RuneBidi.j0 k a0 t125)))) = some r := by rw [if_neg (show ¬ (false = true) by decide)] at H; exact H
   clear H; have H := H1; clear H1; replace H := Option.bind_eq_some_iff.mp H; obtain ⟨t124, A50, H⟩ := H; replace H : (if t124 = true then (spec_RuneBidi.j0 k a0 true) else ((spec_l1In.f a0 19968 40959).bind fun t125 => (spec_RuneBidi.j0 k a0 t125))) = some r := H; have A5 := az A50; clear A50; by_cases c6 : t124 = true
   ·
    subst c6; have H1 : (spec_RuneBidi.j0 k a0 true) = some r := by rw [if_pos rfl] at H; exact H
    clear H; have H := H1; clear H1; have H' := az H; clear H; go_wp2_with (first | ((with_reducible refine gate_callee (f := 36) rfl ?_); refine goesL_ (some 5) rfl rfl Tryz.func36 (by kernel_rfl) rfl #[.int .i64 a0, .int .i64 97, .int .i64 122] rfl zC ?_; (with_reducible refine (spec_l1In.calls a0 97 122 false _ A3.out).mono ?_); rintro e w' ⟨rfl, ⟨nd, rfl⟩⟩; refine ⟨_, rfl, ?_⟩) | (go_at_call 36; (with_reducible refine (spec_l1In.calls a0 65 90 true _ A5.out).mono ?_); rintro e w' ⟨rfl, ⟨nd, rfl⟩⟩)); go_meet
    case rel => exact ⟨_, (true), zB, H', ⟨zI⟩, ⟨zA HB.out⟩⟩
   ·
    replace c6 := Bool.eq_false_iff.mpr c6; subst c6; have H1 : ((spec_l1In.f a0 19968 40959).bind fun t125 => (spec_RuneBidi.j0 k a0 t125)) = some r := by rw [if_neg (show ¬ (false = true) by decide)] at H; exact H
    clear H; have H := H1; clear H1; replace H := Option.bind_eq_some_iff.mp H; obtain ⟨t125, A70, H⟩ := H; replace H : (spec_RuneBidi.j0 k a0 t125) = some r := H; have A7 := az A70; clear A70; have H' := az H; clear H; go_wp2_with (first | ((with_reducible refine gate_callee (f := 36) rfl ?_); refine goesL_ (some 5) rfl rfl Tryz.func36 (by kernel_rfl) rfl #[.int .i64 a0, .int .i64 97, .int .i64 122] rfl zC ?_; (with_reducible refine (spec_l1In.calls a0 97 122 false _ A3.out).mono ?_); rintro e w' ⟨rfl, ⟨nd, rfl⟩⟩; refine ⟨_, rfl, ?_⟩) | (go_at_call 36; (with_reducible refine (spec_l1In.calls a0 65 90 false _ A5.out).mono ?_); rintro e w' ⟨rfl, ⟨nd, rfl⟩⟩) | (go_at_call 36; (with_reducible refine (spec_l1In.calls a0 19968 40959 t125 _ A7.out).mono ?_); rintro e w' ⟨rfl, ⟨nd, rfl⟩⟩)); go_meet
    case rel => exact ⟨_, (t125), zB, H', ⟨zI⟩, ⟨zA HB.out⟩⟩
 case rest =>
  clear HC2; (try clear c1); (try clear p2); (try clear c3); (try clear c4); (try clear c6); obtain ⟨kq, x3_1, rfl, HA, HJ1, HB⟩ := hcut
  cases kq with
  | zero => exact absurd HA.out (by simp [spec_RuneBidi.j0])
  | succ kj1 =>
   have H := HA.out; clear HA; simp only [spec_RuneBidi.j0] at H; by_cases c8 : x3_1 = true
   ·
    subst c8; have H1 : (some 1) = some r := by rw [if_pos rfl] at H; exact H
    clear H; have H := H1; clear H1; obtain rfl := Option.some.inj H; go_wp2; go_ret; exact ⟨zG, zA HB.out⟩
   ·
    replace c8 := Bool.eq_false_iff.mpr c8; subst c8; have H1 : ((spec_l1In.f a0 1488 1514).bind fun t126 => (if t126 = true then (some 2) else ((spec_l1In.f a0 1569 1610).bind fun t127 => (if t127 = true then (some 3) else ((spec_l1In.f a0 48 57).bind fun t128 => (if t128 = true then (some 4) else ((spec_l1In.f a0 1632 1641).bind fun t129 => (if t129 = true then (some 7) else ((spec_l1Signs.f kj1 a0).bind fun t130 => (some t130)))))))))) = some r := by rw [if_neg (show ¬ (false = true) by decide)] at H; exact H
    clear H; have H := H1; clear H1; replace H := Option.bind_eq_some_iff.mp H; obtain ⟨t126, A90, H⟩ := H; replace H : (if t126 = true then (some 2) else ((spec_l1In.f a0 1569 1610).bind fun t127 => (if t127 = true then (some 3) else ((spec_l1In.f a0 48 57).bind fun t128 => (if t128 = true then (some 4) else ((spec_l1In.f a0 1632 1641).bind fun t129 => (if t129 = true then (some 7) else ((spec_l1Signs.f kj1 a0).bind fun t130 => (some t130))))))))) = some r := H; have A9 := az A90; clear A90; by_cases c10 : t126 = true
    ·
     subst c10; have H1 : (some 2) = some r := by rw [if_pos rfl] at H; exact H
     clear H; have H := H1; clear H1; obtain rfl := Option.some.inj H; go_wp2_with (first | ((with_reducible refine gate_callee (f := 36) rfl ?_); refine goesL_ (some 16) rfl rfl Tryz.func36 (by kernel_rfl) rfl #[.int .i64 a0, .int .i64 1488, .int .i64 1514] rfl zC ?_; (with_reducible refine (spec_l1In.calls a0 1488 1514 true _ A9.out).mono ?_); rintro e w' ⟨rfl, ⟨nd, rfl⟩⟩; refine ⟨_, rfl, ?_⟩)); go_ret; exact ⟨zG, zA HB.out⟩
    ·
     replace c10 := Bool.eq_false_iff.mpr c10; subst c10; have H1 : ((spec_l1In.f a0 1569 1610).bind fun t127 => (if t127 = true then (some 3) else ((spec_l1In.f a0 48 57).bind fun t128 => (if t128 = true then (some 4) else ((spec_l1In.f a0 1632 1641).bind fun t129 => (if t129 = true then (some 7) else ((spec_l1Signs.f kj1 a0).bind fun t130 => (some t130)))))))) = some r := by rw [if_neg (show ¬ (false = true) by decide)] at H; exact H
     clear H; have H := H1; clear H1; replace H := Option.bind_eq_some_iff.mp H; obtain ⟨t127, A110, H⟩ := H; replace H : (if t127 = true then (some 3) else ((spec_l1In.f a0 48 57).bind fun t128 => (if t128 = true then (some 4) else ((spec_l1In.f a0 1632 1641).bind fun t129 => (if t129 = true then (some 7) else ((spec_l1Signs.f kj1 a0).bind fun t130 => (some t130))))))) = some r := H; have A11 := az A110; clear A110; by_cases c12 : t127 = true
     ·
      subst c12; have H1 : (some 3) = some r := by rw [if_pos rfl] at H; exact H
      clear H; have H := H1; clear H1; obtain rfl := Option.some.inj H; go_wp2_with (first | ((with_reducible refine gate_callee (f := 36) rfl ?_); refine goesL_ (some 16) rfl rfl Tryz.func36 (by kernel_rfl) rfl #[.int .i64 a0, .int .i64 1488, .int .i64 1514] rfl zC ?_; (with_reducible refine (spec_l1In.calls a0 1488 1514 false _ A9.out).mono ?_); rintro e w' ⟨rfl, ⟨nd, rfl⟩⟩; refine ⟨_, rfl, ?_⟩) | ((with_reducible refine gate_callee (f := 36) rfl ?_); refine goesL_ (some 19) rfl rfl Tryz.func36 (by kernel_rfl) rfl #[.int .i64 a0, .int .i64 1569, .int .i64 1610] rfl zC ?_; (with_reducible refine (spec_l1In.calls a0 1569 1610 true _ A11.out).mono ?_); rintro e w' ⟨rfl, ⟨nd, rfl⟩⟩; refine ⟨_, rfl, ?_⟩)); go_ret; exact ⟨zG, zA HB.out⟩
     ·
      replace c12 := Bool.eq_false_iff.mpr c12; subst c12; have H1 : ((spec_l1In.f a0 48 57).bind fun t128 => (if t128 = true then (some 4) else ((spec_l1In.f a0 1632 1641).bind fun t129 => (if t129 = true then (some 7) else ((spec_l1Signs.f kj1 a0).bind fun t130 => (some t130)))))) = some r := by rw [if_neg (show ¬ (false = true) by decide)] at H; exact H
      clear H; have H := H1; clear H1; replace H := Option.bind_eq_some_iff.mp H; obtain ⟨t128, A130, H⟩ := H; replace H : (if t128 = true then (some 4) else ((spec_l1In.f a0 1632 1641).bind fun t129 => (if t129 = true then (some 7) else ((spec_l1Signs.f kj1 a0).bind fun t130 => (some t130))))) = some r := H; have A13 := az A130; clear A130; by_cases c14 : t128 = true
      ·
       subst c14; have H1 : (some 4) = some r := by rw [if_pos rfl] at H; exact H
       clear H; have H := H1; clear H1; obtain rfl := Option.some.inj H; go_wp2_with (first | ((with_reducible refine gate_callee (f := 36) rfl ?_); refine goesL_ (some 16) rfl rfl Tryz.func36 (by kernel_rfl) rfl #[.int .i64 a0, .int .i64 1488, .int .i64 1514] rfl zC ?_; (with_reducible refine (spec_l1In.calls a0 1488 1514 false _ A9.out).mono ?_); rintro e w' ⟨rfl, ⟨nd, rfl⟩⟩; refine ⟨_, rfl, ?_⟩) | ((with_reducible refine gate_callee (f := 36) rfl ?_); refine goesL_ (some 19) rfl rfl Tryz.func36 (by kernel_rfl) rfl #[.int .i64 a0, .int .i64 1569, .int .i64 1610] rfl zC ?_; (with_reducible refine (spec_l1In.calls a0 1569 1610 false _ A11.out).mono ?_); rintro e w' ⟨rfl, ⟨nd, rfl⟩⟩; refine ⟨_, rfl, ?_⟩) | ((with_reducible refine gate_callee (f := 36) rfl ?_); refine goesL_ (some 22) rfl rfl Tryz.func36 (by kernel_rfl) rfl #[.int .i64 a0, .int .i64 48, .int .i64 57] rfl zC ?_; (with_reducible refine (spec_l1In.calls a0 48 57 true _ A13.out).mono ?_); rintro e w' ⟨rfl, ⟨nd, rfl⟩⟩; refine ⟨_, rfl, ?_⟩)); go_ret; exact ⟨zG, zA HB.out⟩
      ·
       replace c14 := Bool.eq_false_iff.mpr c14; subst c14; have H1 : ((spec_l1In.f a0 1632 1641).bind fun t129 => (if t129 = true then (some 7) else ((spec_l1Signs.f kj1 a0).bind fun t130 => (some t130)))) = some r := by rw [if_neg (show ¬ (false = true) by decide)] at H; exact H
       clear H; have H := H1; clear H1; replace H := Option.bind_eq_some_iff.mp H; obtain ⟨t129, A150, H⟩ := H; replace H : (if t129 = true then (some 7) else ((spec_l1Signs.f kj1 a0).bind fun t130 => (some t130))) = some r := H; have A15 := az A150; clear A150; by_cases c16 : t129 = true
       ·
        subst c16; have H1 : (some 7) = some r := by rw [if_pos rfl] at H; exact H
        clear H; have H := H1; clear H1; obtain rfl := Option.some.inj H; go_wp2_with (first | ((with_reducible refine gate_callee (f := 36) rfl ?_); refine goesL_ (some 16) rfl rfl Tryz.func36 (by kernel_rfl) rfl #[.int .i64 a0, .int .i64 1488, .int .i64 1514] rfl zC ?_; (with_reducible refine (spec_l1In.calls a0 1488 1514 false _ A9.out).mono ?_); rintro e w' ⟨rfl, ⟨nd, rfl⟩⟩; refine ⟨_, rfl, ?_⟩) | ((with_reducible refine gate_callee (f := 36) rfl ?_); refine goesL_ (some 19) rfl rfl Tryz.func36 (by kernel_rfl) rfl #[.int .i64 a0, .int .i64 1569, .int .i64 1610] rfl zC ?_; (with_reducible refine (spec_l1In.calls a0 1569 1610 false _ A11.out).mono ?_); rintro e w' ⟨rfl, ⟨nd, rfl⟩⟩; refine ⟨_, rfl, ?_⟩) | ((with_reducible refine gate_callee (f := 36) rfl ?_); refine goesL_ (some 22) rfl rfl Tryz.func36 (by kernel_rfl) rfl #[.int .i64 a0, .int .i64 48, .int .i64 57] rfl zC ?_; (with_reducible refine (spec_l1In.calls a0 48 57 false _ A13.out).mono ?_); rintro e w' ⟨rfl, ⟨nd, rfl⟩⟩; refine ⟨_, rfl, ?_⟩) | ((with_reducible refine gate_callee (f := 36) rfl ?_); refine goesL_ (some 25) rfl rfl Tryz.func36 (by kernel_rfl) rfl #[.int .i64 a0, .int .i64 1632, .int .i64 1641] rfl zC ?_; (with_reducible refine (spec_l1In.calls a0 1632 1641 true _ A15.out).mono ?_); rintro e w' ⟨rfl, ⟨nd, rfl⟩⟩; refine ⟨_, rfl, ?_⟩)); go_ret; exact ⟨zG, zA HB.out⟩
       ·
        replace c16 := Bool.eq_false_iff.mpr c16; subst c16; have H1 : ((spec_l1Signs.f kj1 a0).bind fun t130 => (some t130)) = some r := by rw [if_neg (show ¬ (false = true) by decide)] at H; exact H
        clear H; have H := H1; clear H1; replace H := Option.bind_eq_some_iff.mp H; obtain ⟨t130, A170, H⟩ := H; replace H : (some t130) = some r := H; have A17 := az A170; clear A170; obtain rfl := Option.some.inj H; go_wp2_with (first | ((with_reducible refine gate_callee (f := 36) rfl ?_); refine goesL_ (some 16) rfl rfl Tryz.func36 (by kernel_rfl) rfl #[.int .i64 a0, .int .i64 1488, .int .i64 1514] rfl zC ?_; (with_reducible refine (spec_l1In.calls a0 1488 1514 false _ A9.out).mono ?_); rintro e w' ⟨rfl, ⟨nd, rfl⟩⟩; refine ⟨_, rfl, ?_⟩) | ((with_reducible refine gate_callee (f := 36) rfl ?_); refine goesL_ (some 19) rfl rfl Tryz.func36 (by kernel_rfl) rfl #[.int .i64 a0, .int .i64 1569, .int .i64 1610] rfl zC ?_; (with_reducible refine (spec_l1In.calls a0 1569 1610 false _ A11.out).mono ?_); rintro e w' ⟨rfl, ⟨nd, rfl⟩⟩; refine ⟨_, rfl, ?_⟩) | ((with_reducible refine gate_callee (f := 36) rfl ?_); refine goesL_ (some 22) rfl rfl Tryz.func36 (by kernel_rfl) rfl #[.int .i64 a0, .int .i64 48, .int .i64 57] rfl zC ?_; (with_reducible refine (spec_l1In.calls a0 48 57 false _ A13.out).mono ?_); rintro e w' ⟨rfl, ⟨nd, rfl⟩⟩; refine ⟨_, rfl, ?_⟩) | ((with_reducible refine gate_callee (f := 36) rfl ?_); refine goesL_ (some 25) rfl rfl Tryz.func36 (by kernel_rfl) rfl #[.int .i64 a0, .int .i64 1632, .int .i64 1641] rfl zC ?_; (with_reducible refine (spec_l1In.calls a0 1632 1641 false _ A15.out).mono ?_); rintro e w' ⟨rfl, ⟨nd, rfl⟩⟩; refine ⟨_, rfl, ?_⟩) | ((with_reducible refine gate_callee (f := 144) rfl ?_); refine goesL_ (some 27) rfl rfl Tryz.func144 (by kernel_rfl) rfl #[.int .i64 a0] rfl zC ?_; (with_reducible refine (spec_l1Signs.calls kj1 a0 t130 _ A17.out).mono ?_); rintro e w18 ⟨rfl, hb⟩; refine ⟨_, rfl, ?_⟩; have n0_ := az (below_step (zA HB.out) hb); clear HB; have HB := n0_; clear n0_; (try clear hb); (try clear hb2); (try clear hk); (try clear hi))); go_ret; exact ⟨zG, zA HB.out⟩
end Go.Proofs.YtmcdcogedcbndaaGreat.S
