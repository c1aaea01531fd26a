/- Of drawn letters, spans, width and way: each place where a line must end is an end of the lines that the program tells, and these are the reference's. No condition beyond the statement's own. (text 3 of 7 of this claim: functions of the program and of the reference as plain Lean functions, what a call of each comes to, and what follows.) -/
import Derived.Test.YtmcdcogedcbndaaGreatZFnFillMustA0
import Derived.Test.YtmcdcogedcbndaaGreatZFnFillMustA1
set_option maxHeartbeats 16000000
set_option maxRecDepth 100000
set_option linter.unusedVariables false
set_option linter.unusedSimpArgs false
namespace Go.Proofs.YtmcdcogedcbndaaGreat.S
open Go.RowKit Go.Proofs.YtmcdcogedcbndaaGreatW.PrintWords Go.Proofs.YtmcdcogedcbndaaGreatW.PrintLast
set_option linter.unusedVariables false
set_option linter.unusedSimpArgs false
theorem fldPlan (a b : Int) (w : World) : (Instr.field 143 (.agg #[.int .i64 a, .int .i64 b]) 1).run Tryz.prog w = .ok (.int .i64 b) w := by kernel_rfl
theorem endsB_calls (k : Nat) (gb : Nat) (A0 : Option Addr) (c0 : Nat) (rs : List Int) (A1 : Option Addr) (c1 : Nat) (ws : List Int) (A2 : Option Addr) (c2 : Nat) (bs : List Int) (wide : Int) (W : Nat → Nat → Int) (M : Nat → Nat) (N : Nat → Int) (P : Nat → Int × Int) (mb : Nat) (ss r : List Int) (w : World) (hf : FlO 69 gb A0 c0 rs A1 c1 ws A2 c2 bs wide w) (hk : KnO P rs.length mb (fun _ => none) w) (hn : rs.length ≤ 1000) (hbl : bs.length = rs.length) (hW : ∀ i j : Nat, i ≤ j → j ≤ rs.length → impl_lineWide.f k rs ws (i : Int) (j : Int) = some (W i j)) (hM : ∀ i : Nat, i < rs.length → ∃ x, slices_Index_int_int.f k (bs.drop i) 2 = some x ∧ (i : Int) + x + 1 = (M i : Int) ∧ i < M i ∧ M i ≤ rs.length) (hP : IsPlan bs (fitV W wide) (costV bs W wide) M rs.length P) (hWb : ∀ i j : Nat, i ≤ j → j ≤ rs.length → (wide - W i j).natAbs ≤ 1000000000) (hPb : ∀ j, j ≤ rs.length → 0 ≤ (P j).1 ∧ (P j).1 ≤ 1000000000000000) (hs : impl_starts.f k rs = some ss) (hsl : ss.length ≤ 999) (hss : ∀ t, t ∈ ss → 0 ≤ t ∧ t ≤ (rs.length : Int)) (hN : ∀ i : Nat, i < rs.length → nextI bs (fitV W wide) (ss ++ [(rs.length : Int)]) i (M i) = some (N i)) (hr : ((outP P rs.length rs.length 0).bind fun o => match o with | some l => some l | none => greedyN N rs.length rs.length 0) = some r) :
  Calls Tryz.prog 167 #[.agg #[.pointer (some ⟨gb, 0, none⟩), .map (some mb)]] w fun e w' => ∃ v0_ : Value, e = .returned v0_ ∧ Kd.R (Kd.int .i64) 3 w' w.heap.size (fun _ => True) v0_ r ∧ w.grownBy w' (some mb) := by
 obtain ⟨W3, hW3⟩ : ∃ W3, w.alloc (.cells #[.pointer (some ⟨gb, 0, none⟩), .map (some mb)] 84) = W3 := ⟨_, rfl⟩
 have hB3 : Below w.heap.size w W3 := by rw [← hW3]; exact below_alloc (Below.refl _ _) _
 have HX3 : Aside0 (W3.heap[w.heap.size]? = some (.cells #[.pointer (some ⟨gb, 0, none⟩), .map (some mb)] 84 (0, 0))) := ⟨by rw [← hW3]; exact blk_new w _⟩
 have HK3 := az (hk.below hB3)
 have HG3 := az (grown_of_below hB3 (some mb))
 replace hr := Option.bind_eq_some_iff.mp hr
 obtain ⟨o, ho, hr⟩ := hr
 have HOO := az ho
 have HRR := az hr
 have HFL := az hf
 have HMB := az hk.1.lt
 have HMO := az hk.1.obj
 have HW := az hW
 have HM := az hM
 have HBL := az hbl
 have HN := az hn
 have HNX := az hN
 have HP := az hP
 have HWB := az hWb
 have HPB := az hPb
 have HST := az hs
 have HSL := az hsl
 have HSS := az hss
 clear hf hk hW hM hbl hN hs hsl hss hr ho hP hWb hPb hB3
 have hfld := fldPlan
 go_enter Tryz.func167, Tryz.ntmps167
 go_upto_region 1 with fail
 clear hW3
 go_wp2
 go_loopg [3, 4] rs.length (fun gg s3 s4 wr => ∃ (i g : Nat) (out : List Int) (f1 : Int → Option (Int × Int)), s4 = .int .i64 i ∧ i ≤ rs.length ∧ g ≤ gg ∧ Aside0 (∃ ro, outP P rs.length g i = some ro ∧ o = ro.map (fun l => out ++ l)) ∧ Aside0 (out.length + g ≤ rs.length) ∧ Aside0 (Kd.R (Kd.int .i64) 3 wr w.heap.size (fun _ => True) s3 out) ∧ Aside0 (KnO P rs.length mb f1 wr) ∧ Aside0 (w.grownBy wr (some mb)) ∧ Aside0 (wr.heap[w.heap.size]? = some (.cells #[.pointer (some ⟨gb, 0, none⟩), .map (some mb)] 84 (0, 0))))
 case atStart => exact ⟨0, rs.length, [], fun _ => none, rfl, Nat.zero_le _, Nat.le_refl _, ⟨o, HOO.out, by cases o <;> rfl⟩, ⟨by simp⟩, ⟨Kd.R_nil _ _ _ _ _⟩, HK3, HG3, HX3⟩
 case round =>
  clear HOO HK3 HG3 HX3
  obtain ⟨i, g, out, f1, rfl, hi, hg, HF, HLO, HO, HK, HG, HBX⟩ := hrel
  obtain ⟨ro, hq, hro⟩ := HF.out
  have HQ := az (HFL.out.keptM HMO.out HG.out)
  have q0 := (blk_cell HQ.out.1 0).trans (show _ = some (Value.slice A0 rs.length c0) from rfl)
  have qb := (blk_cell HBX.out 0).trans (show _ = some (Value.pointer (some ⟨gb, 0, none⟩)) from rfl)
  have qb1 := (blk_cell HBX.out 1).trans (show _ = some (Value.map (some mb)) from rfl)
  have HLB := az (blk_lt HBX.out)
  by_cases hlt : i < rs.length
  ·
   have hltz : (i : Int) < (rs.length : Int) := by omega
   cases g with
   | zero => rw [outP, if_pos hlt] at hq; cases hq
   | succ g =>
   rw [outP, if_pos hlt] at hq
   have HIL := az hi
   have HGG := az hg
   clear hi hg HF
   by_cases hb : (P i).2 = 0
   ·
    rw [if_pos hb] at hq
    obtain rfl := Option.some.inj hq
    have HPI := az hb
    have hro2 : o = none := hro
    subst hro2
    clear hb hq hro hlt
    go_wp2_with (first
     | (go_at_call 168; go_must (refine (planI_calls k gb A0 c0 rs A1 c1 ws A2 c2 bs wide W M P mb HN.out HBL.out HW.out HM.out HP.out HWB.out HPB.out rs.length i f1 _ (Nat.sub_le _ _) HIL.out HQ.out HK.out).mono ?_); rw [HPI.out]; rintro e w2 ⟨rfl, f2, hk2, _, hg2⟩; have HG2 := az (HG.out.trans hg2); have HFQ2 := az (HFL.out.keptM HMO.out HG2.out); have HBX2 := az (blk_keptM HBX.out HK.out.1.obj hg2); have qc := (blk_cell HBX2.out 0).trans (show _ = some (Value.pointer (some ⟨gb, 0, none⟩)) from rfl); clear hk2 hg2)
     | (go_at_call 162; go_must (refine (endsG_calls k gb A0 c0 rs A1 c1 ws A2 c2 bs wide W M N ss r _ HFQ2.out HN.out HBL.out HW.out HM.out HST.out HSL.out HSS.out HNX.out HRR.out).mono ?_); rintro e w3 ⟨v3, rfl, ho3, hb3⟩; have HO3 := az ho3; have HB3 := az hb3; clear ho3 hb3))
    go_ret
    exact ⟨_, rfl, Kd.R_lower HO3.out HG2.out.size, gr_below HG2.out (HB3.out.mono HG2.out.size)⟩
   ·
    rw [if_neg hb] at hq
    by_cases hb2 : 0 ≤ (P i).2 ∧ (P i).2 ≤ (rs.length : Int)
    case neg => rw [if_neg hb2] at hq; cases hq
    case pos =>
    rw [if_pos hb2] at hq
    replace hq := Option.bind_eq_some_iff.mp hq
    obtain ⟨l, hl, hq⟩ := hq
    obtain rfl := Option.some.inj hq
    obtain ⟨x, hx⟩ : ∃ x : Nat, (P i).2 = x := ⟨(P i).2.toNat, by omega⟩
    rw [hx, Int.toNat_natCast] at hl
    rw [hx] at hb hb2 hro
    have hx0 : ((x : Int) == 0) = false := beq_eq_false_iff_ne.mpr hb
    have hx1 : ¬ x = 0 := by omega
    have HXV := az hx
    have HXB := az hb2.2
    have HLL := az hl
    have HRO := az hro
    clear hx hb2 hl hro hlt hb
    go_wp2_with (first
     | (go_at_call 168; go_must (refine (planI_calls k gb A0 c0 rs A1 c1 ws A2 c2 bs wide W M P mb HN.out HBL.out HW.out HM.out HP.out HWB.out HPB.out rs.length i f1 _ (Nat.sub_le _ _) HIL.out HQ.out HK.out).mono ?_); rw [HXV.out]; rintro e w2 ⟨rfl, f2, hk2, _, hg2⟩; have HG2 := az (HG.out.trans hg2); have HK2 := az hk2; have HBX2 := az (blk_keptM HBX.out HK.out.1.obj hg2); have HO2 := az (R_keptM HO.out HK.out.1.obj hg2); clear hk2 hg2)
     | ((with_reducible refine gate_builtin (b := .append) (xs := #[.tmp 23, .tmp 25]) rfl ?_); at_builtin; go_must (refine appI (w0 := w2) (base := w.heap.size) Tryz.underlying22 info3 rfl (.tmp 23) (.tmp 25) rfl _ out (x : Int) rfl rfl HO2.out (Below.refl _ _) HG2.out.size ?aL ?_); (case aL => have := HLO.out; have := HN.out; omega); intro v9 w9 ho9 hb9 hg9 hat9; have HO9 := az ho9; have HB9 := az hb9; have HBX9 := az (blk_grown HBX2.out hg9 (Kd.R_ne HO2.out HBX2.out (by decide))); clear ho9 hb9 hg9 hat9))
    go_roundg g
    case measure => have := HGG.out; omega
    case rel => exact ⟨x, g, _, f2, rfl, zE HXB.out, Nat.le_refl _, ⟨l, HLL.out, by rw [HRO.out]; cases l <;> simp⟩, ⟨by have := HLO.out; rw [List.length_append]; simp; omega⟩, HO9, ⟨HK2.out.1.same (HB9.out.block mb HMB.out), HK2.out.2⟩, ⟨gr_below HG2.out HB9.out⟩, HBX9⟩
  ·
   have hltz : ¬ (i : Int) < (rs.length : Int) := by omega
   have HRE : Aside0 (out = r) := by
    have h : ro = some [] := by
     cases g with
     | zero => rw [outP, if_neg hlt] at hq; exact (Option.some.inj hq).symm
     | succ g => rw [outP, if_neg hlt] at hq; exact (Option.some.inj hq).symm
    subst h
    subst hro
    have h2 := Option.some.inj HRR.out
    exact ⟨(List.append_nil out).symm.trans h2⟩
   clear hq hro HF
   go_wp2
   go_ret
   exact ⟨_, rfl, by rw [← HRE.out]; exact HO.out, HG.out⟩
def tabP (bs : List Int) (F : Nat → Nat → Bool) (C : Nat → Nat → Int) (M : Nat → Nat) (n : Nat) : Nat → Nat → Int × Int
 | 0 => fun _ => (0, (n : Int))
 | d + 1 => updV (tabP bs F C M n d) (n - 1 - d) (rowP bs F C (tabP bs F C M n d) (n - 1 - d) (M (n - 1 - d) - (n - 1 - d)) (n - 1 - d + 1) (0, 0))
theorem rowP_congr (bs : List Int) (F : Nat → Nat → Bool) (C : Nat → Nat → Int) {P Q : Nat → Int × Int} (a : Nat) : ∀ (g e : Nat) (cur : Int × Int), (∀ j, e ≤ j → j < e + g → P j = Q j) → rowP bs F C P a g e cur = rowP bs F C Q a g e cur
 | 0, _, _, _ => rfl
 | g + 1, e, cur, h => by
  rw [rowP, rowP, show stepP bs F C P a e cur = stepP bs F C Q a e cur by unfold stepP; rw [h e (Nat.le_refl _) (by omega)]]
  exact rowP_congr bs F C a g (e + 1) _ (fun j h1 h2 => h j (by omega) (by omega))
theorem tabP_keep (bs : List Int) (F : Nat → Nat → Bool) (C : Nat → Nat → Int) (M : Nat → Nat) (n d : Nat) (j : Nat) (hj : n - d ≤ j) : ∀ d', d + d' ≤ n → tabP bs F C M n (d + d') j = tabP bs F C M n d j
 | 0, _ => rfl
 | d' + 1, h => by
  rw [show d + (d' + 1) = d + d' + 1 from rfl, tabP, updV_ne _ _ (by omega)]
  exact tabP_keep bs F C M n d j hj d' (by omega)
theorem tabP_isPlan (bs : List Int) (F : Nat → Nat → Bool) (C : Nat → Nat → Int) (M : Nat → Nat) (n : Nat) (hM : ∀ i, i < n → M i ≤ n) : IsPlan bs F C M n (tabP bs F C M n n) := by
 refine ⟨?_, fun i hi => ?_⟩
 ·
  have h := tabP_keep bs F C M n 0 n (by omega) n (by omega)
  rw [Nat.zero_add] at h
  exact h
 ·
  have h1 := tabP_keep bs F C M n (n - 1 - i + 1) i (by omega) i (by omega)
  rw [show n - 1 - i + 1 + i = n by omega] at h1
  rw [h1, tabP, show n - 1 - (n - 1 - i) = i by omega, updV_at]
  refine rowP_congr bs F C i _ _ _ (fun j h2 h3 => ?_)
  have h4 := hM i hi
  have h5 := tabP_keep bs F C M n (n - 1 - i) j (by omega) (i + 1) (by omega)
  rw [show n - 1 - i + (i + 1) = n by omega] at h5
  exact h5.symm
def tabWI (k : Nat) (rs ws : List Int) : Nat → Nat → Int := fun i j => if i ≤ j ∧ j ≤ rs.length then (impl_lineWide.f k rs ws (i : Int) (j : Int)).getD 0 else 0
def okWI (k : Nat) (rs ws : List Int) : Prop := ∀ j, j ≤ rs.length → ∀ i, i ≤ j → (impl_lineWide.f k rs ws (i : Int) (j : Int)).isSome = true
instance (k : Nat) (rs ws : List Int) : Decidable (okWI k rs ws) := by unfold okWI; infer_instance
def tabMI (k : Nat) (bs : List Int) : Nat → Nat := fun i => if i < bs.length then ((i : Int) + (slices_Index_int_int.f k (bs.drop i) 2).getD 0 + 1).toNat else 0
def okMI (k : Nat) (bs : List Int) : Prop := ∀ i, i < bs.length → (slices_Index_int_int.f k (bs.drop i) 2).isSome = true ∧ 0 ≤ (slices_Index_int_int.f k (bs.drop i) 2).getD 0 ∧ tabMI k bs i ≤ bs.length
instance (k : Nat) (bs : List Int) : Decidable (okMI k bs) := by unfold okMI; infer_instance
def okI (bs : List Int) (W : Nat → Nat → Int) (M : Nat → Nat) (ss : List Int) (wide : Int) (n : Nat) : Prop :=
 n ≤ 1000 ∧ bs.length = n ∧ ss.length ≤ 999 ∧ (∀ t, t ∈ ss → 0 ≤ t ∧ t ≤ (n : Int)) ∧ (∀ j, j ≤ n → ∀ i, i ≤ j → (wide - W i j).natAbs ≤ 1000000000) ∧ (∀ j, j ≤ n → 0 ≤ (tabP bs (fitV W wide) (costV bs W wide) M n n j).1 ∧ (tabP bs (fitV W wide) (costV bs W wide) M n n j).1 ≤ 1000000000000000) ∧ ∀ i, i < n → (nextI bs (fitV W wide) (ss ++ [(n : Int)]) i (M i)).isSome = true
instance (bs : List Int) (W : Nat → Nat → Int) (M : Nat → Nat) (ss : List Int) (wide : Int) (n : Nat) : Decidable (okI bs W M ss wide n) := by unfold okI; infer_instance
def linesI (bs : List Int) (W : Nat → Nat → Int) (M : Nat → Nat) (ss : List Int) (wide : Int) (n : Nat) (mode : Int) : Option (List Int) :=
 if okI bs W M ss wide n then
  (if mode = 0 then greedyN (fun i => (nextI bs (fitV W wide) (ss ++ [(n : Int)]) i (M i)).getD 0) n n 0
  else if mode = 1 then (outP (tabP bs (fitV W wide) (costV bs W wide) M n n) n n 0).bind fun o => match o with | some l => some l | none => greedyN (fun i => (nextI bs (fitV W wide) (ss ++ [(n : Int)]) i (M i)).getD 0) n n 0
  else some [])
 else none
def impl_FillLines.f (k : Nat) (l0 : List Int) (l1 : List S50) (a2 a3 : Int) : Option (List Int) :=
 (impl_fillable.f k l0 l1 a2).bind fun a => if a = true then (impl_widesOf.f k l0 l1).bind fun ws => (impl_breaks.f k l0).bind fun bs => (impl_starts.f k l0).bind fun ss => if okWI k l0 ws then (if okMI k bs then linesI bs (tabWI k l0 ws) (tabMI k bs) ss a2 l0.length a3 else none) else none else some []
theorem tabWI_up {k : Nat} {rs ws : List Int} (h : okWI k rs ws) : okWI (k + 1) rs ws ∧ tabWI (k + 1) rs ws = tabWI k rs ws := by
 have e : ∀ j, j ≤ rs.length → ∀ i, i ≤ j → impl_lineWide.f (k + 1) rs ws (i : Int) (j : Int) = impl_lineWide.f k rs ws (i : Int) (j : Int) := fun j hj i hi => by
  obtain ⟨x, hx⟩ := Option.isSome_iff_exists.mp (h j hj i hi)
  rw [hx]
  exact impl_lineWide.mono _ _ _ _ _ _ hx
 refine ⟨fun j hj i hi => by rw [e j hj i hi]; exact h j hj i hi, ?_⟩
 funext i j
 unfold tabWI
 split
 ·
  rename_i hh
  rw [e j hh.2 i hh.1]
 · rfl
theorem tabMI_up {k : Nat} {bs : List Int} (h : okMI k bs) : okMI (k + 1) bs ∧ tabMI (k + 1) bs = tabMI k bs := by
 have e : ∀ i, i < bs.length → slices_Index_int_int.f (k + 1) (bs.drop i) 2 = slices_Index_int_int.f k (bs.drop i) 2 := fun i hi => by
  obtain ⟨x, hx⟩ := Option.isSome_iff_exists.mp (h i hi).1
  rw [hx]
  exact slices_Index_int_int.mono _ _ _ _ hx
 have e2 : tabMI (k + 1) bs = tabMI k bs := by
  funext i
  unfold tabMI
  split
  ·
   rename_i hh
   rw [e i hh]
  · rfl
 exact ⟨fun i hi => by rw [e i hi, e2]; exact h i hi, e2⟩
theorem impl_FillLines.mono : ∀ a0 a1 a2 a3 k, LeO (impl_FillLines.f k a0 a1 a2 a3) (impl_FillLines.f (k + 1) a0 a1 a2 a3) := by
 intro a0 a1 a2 a3 k
 unfold impl_FillLines.f
 refine LeO.bind (impl_fillable.mono _ _ _ _) (fun a => LeO.ite (LeO.bind (impl_widesOf.mono _ _ _) (fun ws => LeO.bind (impl_breaks.mono _ _) (fun bs => LeO.bind (impl_starts.mono _ _) (fun ss => ?_)))) (LeO.refl _))
 intro r hr
 by_cases h1 : okWI k a0 ws
 ·
  rw [if_pos h1] at hr
  by_cases h2 : okMI k bs
  ·
   rw [if_pos h2] at hr
   rw [if_pos (tabWI_up h1).1, if_pos (tabMI_up h2).1, (tabWI_up h1).2, (tabMI_up h2).2]
   exact hr
  · rw [if_neg h2] at hr; cases hr
 · rw [if_neg h1] at hr; cases hr
theorem methG (n : Nat) (v : Value) (w : World) : (method (n + 1) 81 v "loop.example/colophon/impl.ends").run Tryz.prog w = .ok (162, v) w := by kernel_rfl
theorem methB (n : Nat) (v : Value) (w : World) : (method (n + 1) 84 v "loop.example/colophon/impl.ends").run Tryz.prog w = .ok (167, v) w := by kernel_rfl
theorem cntF_none : ∀ m, cntF (fun _ => none) m = 0
 | 0 => rfl
 | m + 1 => by rw [cntF, cntF_none m]; rfl
theorem fillingG_calls (gb : Nat) (w : World) : Calls Tryz.prog 41 #[.pointer (some ⟨gb, 0, none⟩), .int .i64 0] w fun e w' => e = .returned (.iface 81 (.agg #[.pointer (some ⟨gb, 0, none⟩)])) ∧ w' = w := by
 go_enter Tryz.func41, Tryz.ntmps41
 go_wp2
 go_ret
 exact ⟨rfl, rfl⟩
theorem fillingB_calls (gb : Nat) (w : World) : Calls Tryz.prog 41 #[.pointer (some ⟨gb, 0, none⟩), .int .i64 1] w fun e w' => e = .returned (.iface 84 (.agg #[.pointer (some ⟨gb, 0, none⟩), .map (some w.heap.size)])) ∧ w' = w.alloc (.map #[] 0) := by
 have hmm := @run_makeMap Tryz.prog
 go_enter Tryz.func41, Tryz.ntmps41
 go_wp2
 go_ret
 exact ⟨rfl, rfl⟩
theorem fillingN_calls (gb : Nat) (m : Int) (w : World) (h0 : m ≠ 0) (h1 : m ≠ 1) : Calls Tryz.prog 41 #[.pointer (some ⟨gb, 0, none⟩), .int .i64 m] w fun e w' => e = .returned .nilIface ∧ w' = w := by
 have b0 : (m == 0) = false := beq_eq_false_iff_ne.mpr h0
 have b1 : (m == 1) = false := beq_eq_false_iff_ne.mpr h1
 clear h0 h1
 go_enter Tryz.func41, Tryz.ntmps41
 go_wp2
 go_ret
 exact ⟨rfl, rfl⟩
theorem impl_FillLines.calls (k : Nat) (A0 : Option Addr) (c0 : Nat) (l0 : List Int) (A1 : Option Addr) (c1 : Nat) (l1 : List S50) (a2 : Int) (a3 : Int) (r : List Int) (w : World) (hr0 : Kd.C (Kd.int .i64) w A0 l0.length l0) (hc0 : l0.length ≤ c0) (hr1 : Kd.C k50 w A1 l1.length l1) (hc1 : l1.length ≤ c1) (h : impl_FillLines.f k l0 l1 a2 a3 = some r) :
  Calls Tryz.prog 15 #[.slice A0 l0.length c0, .slice A1 l1.length c1, .int .i64 a2, .int .i64 a3] w fun e w' => ∃ v0_ : Value, e = .returned (v0_) ∧ Kd.R (Kd.int .i64) 3 w' w.heap.size (fun _ => True) v0_ r ∧ Below w.heap.size w w' := by
 have HR := az hr0
 have HC := az hc0
 have HR1 := az hr1
 have HC1 := az hc1
 clear hr0 hc0 hr1 hc1
 unfold impl_FillLines.f at h
 replace h := Option.bind_eq_some_iff.mp h
 obtain ⟨a, ha, h⟩ := h
 have HA := az ha
 clear ha
 cases a
 ·
  rw [if_neg (by decide)] at h
  obtain rfl := Option.some.inj h
  clear h
  go_enter Tryz.func15, Tryz.ntmps15
  go_wp2_with (go_at_call 39; go_must (refine (impl_fillable.calls k A0 c0 l0 A1 c1 l1 a2 false _ HR.out HC.out HR1.out HC1.out HA.out).mono ?_); rintro e w1 ⟨rfl, hb1⟩; have HB1 := az hb1; clear hb1)
  go_ret
  exact ⟨_, rfl, Kd.R_nil _ _ _ _ _, HB1.out⟩
 rw [if_pos rfl] at h
 replace h := Option.bind_eq_some_iff.mp h
 obtain ⟨ws, hws, h⟩ := h
 replace h := Option.bind_eq_some_iff.mp h
 obtain ⟨bs, hbs, h⟩ := h
 replace h := Option.bind_eq_some_iff.mp h
 obtain ⟨ss, hss, h⟩ := h
 by_cases h1 : okWI k l0 ws
 case neg => rw [if_neg h1] at h; cases h
 case pos =>
 rw [if_pos h1] at h
 by_cases h2 : okMI k bs
 case neg => rw [if_neg h2] at h; cases h
 case pos =>
 rw [if_pos h2] at h
 unfold linesI at h
 by_cases h3 : okI bs (tabWI k l0 ws) (tabMI k bs) ss a2 l0.length
 case neg => rw [if_neg h3] at h; cases h
 case pos =>
 rw [if_pos h3] at h
 have HW : Aside0 (∀ i j : Nat, i ≤ j → j ≤ l0.length → impl_lineWide.f k l0 ws (i : Int) (j : Int) = some (tabWI k l0 ws i j)) := ⟨fun i j hi hj => by
  obtain ⟨x, hx⟩ := Option.isSome_iff_exists.mp (h1 j hj i hi)
  unfold tabWI
  rw [if_pos ⟨hi, hj⟩, hx]
  rfl⟩
 have HM : Aside0 (∀ i : Nat, i < l0.length → ∃ x, slices_Index_int_int.f k (bs.drop i) 2 = some x ∧ (i : Int) + x + 1 = (tabMI k bs i : Int) ∧ i < tabMI k bs i ∧ tabMI k bs i ≤ l0.length) := ⟨fun i hi => by
  have hib : i < bs.length := by rw [h3.2.1]; exact hi
  obtain ⟨h4, h5, h6⟩ := h2 i hib
  obtain ⟨x, hx⟩ := Option.isSome_iff_exists.mp h4
  rw [h3.2.1] at h6
  rw [hx] at h5
  have e : tabMI k bs i = ((i : Int) + x + 1).toNat := by
   unfold tabMI
   rw [if_pos hib, hx]
   rfl
  rw [e] at h6 ⊢
  simp only [Option.getD_some] at h5
  exact ⟨x, hx, by omega, by omega, h6⟩⟩
 have HNX : Aside0 (∀ i : Nat, i < l0.length → nextI bs (fitV (tabWI k l0 ws) a2) (ss ++ [(l0.length : Int)]) i (tabMI k bs i) = some ((nextI bs (fitV (tabWI k l0 ws) a2) (ss ++ [(l0.length : Int)]) i (tabMI k bs i)).getD 0)) := ⟨fun i hi => by
  obtain ⟨x, hx⟩ := Option.isSome_iff_exists.mp (h3.2.2.2.2.2.2 i hi)
  rw [hx]
  rfl⟩
 have HP : Aside0 (IsPlan bs (fitV (tabWI k l0 ws) a2) (costV bs (tabWI k l0 ws) a2) (tabMI k bs) l0.length (tabP bs (fitV (tabWI k l0 ws) a2) (costV bs (tabWI k l0 ws) a2) (tabMI k bs) l0.length l0.length)) := ⟨tabP_isPlan _ _ _ _ _ (fun i hi => by obtain ⟨_, _, _, _, h4⟩ := HM.out i hi; exact h4)⟩
 have HOK := az h3
 have HH := az h
 have HWS := az hws
 have HBS := az hbs
 have HSS := az hss
 clear h h1 h2 h3 hws hbs hss
 by_cases hm0 : a3 = 0
 ·
  subst hm0
  have HG := az ((if_pos rfl).symm.trans HH.out)
  have hmg := methG
  go_enter Tryz.func15, Tryz.ntmps15
  go_wp2_with (first
   | (go_at_call 39; go_must (refine (impl_fillable.calls k A0 c0 l0 A1 c1 l1 a2 true _ HR.out HC.out HR1.out HC1.out HA.out).mono ?_); rintro e w1 ⟨rfl, hb1⟩; have HB1 := az hb1; clear hb1)
   | (go_at_call 40; go_must (refine (newFiller_calls k A0 c0 l0 A1 c1 l1 a2 ws bs _ (Kd.C_below HR.out HB1.out) HC.out (Kd.C_below HR1.out HB1.out) HC1.out HWS.out HBS.out).mono ?_); rintro e w2 ⟨gb, A4, c4, A5, c5, rfl, hfl, hb2⟩; have HFL := az hfl; have HB2 := az (below_then HB1.out HB1.out.size hb2); clear hfl hb2)
   | (go_at_call 41; go_must (refine (fillingG_calls _ _).mono ?_); rintro e w3 ⟨rfl, rfl⟩)
   | (go_at_call 162; go_must (refine (endsG_calls k gb A0 c0 l0 A4 c4 ws A5 c5 bs a2 (tabWI k l0 ws) (tabMI k bs) _ ss r _ HFL.out HOK.out.1 HOK.out.2.1 HW.out HM.out HSS.out HOK.out.2.2.1 HOK.out.2.2.2.1 HNX.out HG.out).mono ?_); rintro e w4 ⟨v4, rfl, ho4, hb4⟩; have HO4 := az ho4; have HB4 := az hb4; clear ho4 hb4))
  go_ret
  exact ⟨_, rfl, Kd.R_lower HO4.out HB2.out.size, below_then HB2.out HB2.out.size HB4.out⟩
 ·
  by_cases hm1 : a3 = 1
  ·
   subst hm1
   have HG := az ((if_neg hm0).symm.trans HH.out)
   have HG1 := az ((if_pos rfl).symm.trans HG.out)
   clear hm0
   have hmb := methB
   go_enter Tryz.func15, Tryz.ntmps15
   go_wp2_with (first
    | (go_at_call 39; go_must (refine (impl_fillable.calls k A0 c0 l0 A1 c1 l1 a2 true _ HR.out HC.out HR1.out HC1.out HA.out).mono ?_); rintro e w1 ⟨rfl, hb1⟩; have HB1 := az hb1; clear hb1)
    | (go_at_call 40; go_must (refine (newFiller_calls k A0 c0 l0 A1 c1 l1 a2 ws bs _ (Kd.C_below HR.out HB1.out) HC.out (Kd.C_below HR1.out HB1.out) HC1.out HWS.out HBS.out).mono ?_); rintro e w2 ⟨gb, A4, c4, A5, c5, rfl, hfl, hb2⟩; have HFL := az hfl; have HB2 := az (below_then HB1.out HB1.out.size hb2); clear hfl hb2)
    | (go_at_call 41; go_must (refine (fillingB_calls _ _).mono ?_); rintro e w3 ⟨rfl, hw3⟩; have HMP : Aside0 (MapP w3 w2.heap.size 0 (fun _ => none)) := ⟨by rw [hw3]; exact MapP.made w2⟩; have HB23 : Aside0 (Below w2.heap.size w2 w3) := ⟨by rw [hw3]; exact below_alloc (Below.refl _ _) _⟩; clear hw3)
    | (go_at_call 167; go_must (refine (endsB_calls k gb A0 c0 l0 A4 c4 ws A5 c5 bs a2 (tabWI k l0 ws) (tabMI k bs) _ _ w2.heap.size ss r _ (HFL.out.below HB23.out) ⟨by rw [cntF_none]; exact HMP.out, fun a v h => by cases h⟩ HOK.out.1 HOK.out.2.1 HW.out HM.out HP.out (fun i j hi hj => HOK.out.2.2.2.2.1 j hj i hi) HOK.out.2.2.2.2.2.1 HSS.out HOK.out.2.2.1 HOK.out.2.2.2.1 HNX.out HG1.out).mono ?_); rintro e w4 ⟨v4, rfl, ho4, hg4⟩; have HO4 := az ho4; have HG4 := az hg4; clear ho4 hg4))
   go_ret
   have HB3 := below_then HB2.out HB2.out.size HB23.out
   exact ⟨_, rfl, Kd.R_lower HO4.out HB3.size, HB3.grown HG4.out HB3.size (fun k e => by cases e; exact HB2.out.size)⟩
  ·
   have HG := az ((if_neg hm0).symm.trans HH.out)
   have HG1 := az ((if_neg hm1).symm.trans HG.out)
   have HE : Aside0 ([] = r) := ⟨Option.some.inj HG1.out⟩
   have HM0 := az (And.intro hm0 hm1)
   clear hm0 hm1
   go_enter Tryz.func15, Tryz.ntmps15
   go_wp2_with (first
    | (go_at_call 39; go_must (refine (impl_fillable.calls k A0 c0 l0 A1 c1 l1 a2 true _ HR.out HC.out HR1.out HC1.out HA.out).mono ?_); rintro e w1 ⟨rfl, hb1⟩; have HB1 := az hb1; clear hb1)
    | (go_at_call 40; go_must (refine (newFiller_calls k A0 c0 l0 A1 c1 l1 a2 ws bs _ (Kd.C_below HR.out HB1.out) HC.out (Kd.C_below HR1.out HB1.out) HC1.out HWS.out HBS.out).mono ?_); rintro e w2 ⟨gb, A4, c4, A5, c5, rfl, hfl, hb2⟩; have HFL := az hfl; have HB2 := az (below_then HB1.out HB1.out.size hb2); clear hfl hb2)
    | (go_at_call 41; go_must (refine (fillingN_calls _ _ _ HM0.out.1 HM0.out.2).mono ?_); rintro e w3 ⟨rfl, rfl⟩))
   go_ret
   exact ⟨_, rfl, by rw [← HE.out]; exact Kd.R_nil _ _ _ _ _, HB2.out⟩
def spec_l1In.f (a0 : Int) (a1 : Int) (a2 : Int) : Option (Bool) := if a0 ≥ a1 then (some (decide (a0 ≤ a2))) else (some false)
theorem spec_l1In.calls (a0 : Int) (a1 : Int) (a2 : Int) (r : Bool) (w : World) (h : spec_l1In.f a0 a1 a2 = some r) :
  Calls Tryz.prog 36 #[.int .i64 a0, .int .i64 a1, .int .i64 a2] w fun e w' => e = .returned (.bool r) ∧ Drawn0 w w' := by
 have H : (if a0 ≥ a1 then (some (decide (a0 ≤ a2))) else (some false)) = some r := h
 clear h
 by_cases c4 : a0 ≥ a1
 ·
  rw [if_pos c4] at H
  have c4b0 : decide (a1 ≤ a0) = true := decide_eq_true c4
  clear c4
  obtain rfl := Option.some.inj H
  go_enter Tryz.func36, Tryz.ntmps36
  go_wp2
  go_ret
  exact ⟨zB, zD⟩
 ·
  rw [if_neg c4] at H
  have c4b0 : decide (a1 ≤ a0) = false := decide_eq_false c4
  clear c4
  obtain rfl := Option.some.inj H
  go_enter Tryz.func36, Tryz.ntmps36
  go_wp2
  go_ret
  exact ⟨zB, zD⟩
def spec_l1Size.f (a0 : Int) : Option (Int) := (spec_l1In.f a0 0 127).bind fun t101 => (if t101 = true then (some 1) else ((spec_l1In.f a0 128 2047).bind fun t102 => (if t102 = true then (some 2) else ((spec_l1In.f a0 55296 57343).bind fun t103 => (if t103 = true then (some 0) else ((spec_l1In.f a0 2048 65535).bind fun t104 => (if t104 = true then (some 3) else ((spec_l1In.f a0 65536 1114111).bind fun t105 => (if t105 = true then (some 4) else (some 0))))))))))
theorem spec_l1Size.calls (a0 : Int) (r : Int) (w : World) (h : spec_l1Size.f a0 = some r) :
  Calls Tryz.prog 95 #[.int .i64 a0] w fun e w' => e = .returned (.int .i64 r) ∧ Drawn0 w w' := by
 have H : ((spec_l1In.f a0 0 127).bind fun t101 => (if t101 = true then (some 1) else ((spec_l1In.f a0 128 2047).bind fun t102 => (if t102 = true then (some 2) else ((spec_l1In.f a0 55296 57343).bind fun t103 => (if t103 = true then (some 0) else ((spec_l1In.f a0 2048 65535).bind fun t104 => (if t104 = true then (some 3) else ((spec_l1In.f a0 65536 1114111).bind fun t105 => (if t105 = true then (some 4) else (some 0))))))))))) = some r := h; clear h; replace H := Option.bind_eq_some_iff.mp H; obtain ⟨t101, A20, H⟩ := H; replace H : (if t101 = true then (some 1) else ((spec_l1In.f a0 128 2047).bind fun t102 => (if t102 = true then (some 2) else ((spec_l1In.f a0 55296 57343).bind fun t103 => (if t103 = true then (some 0) else ((spec_l1In.f a0 2048 65535).bind fun t104 => (if t104 = true then (some 3) else ((spec_l1In.f a0 65536 1114111).bind fun t105 => (if t105 = true then (some 4) else (some 0)))))))))) = some r := H; have A2 := az A20; clear A20; by_cases c3 : t101 = true
 ·
  subst c3; have H1 : (some 1) = some r := by rw [if_pos rfl] at H; exact H
  clear H; have H := H1; clear H1; obtain rfl := Option.some.inj H; go_enter Tryz.func95, Tryz.ntmps95; go_wp2_with (first | ((with_reducible refine gate_callee (f := 36) rfl ?_); refine goesL_ (some 5) rfl rfl Tryz.func36 (by kernel_rfl) rfl #[.int .i64 a0, .int .i64 0, .int .i64 127] rfl zC ?_; (with_reducible refine (spec_l1In.calls a0 0 127 true _ A2.out).mono ?_); rintro e w' ⟨rfl, ⟨nd, rfl⟩⟩; refine ⟨_, rfl, ?_⟩)); go_ret; exact ⟨zB, zD⟩
 ·
  replace c3 := Bool.eq_false_iff.mpr c3; subst c3; have H1 : ((spec_l1In.f a0 128 2047).bind fun t102 => (if t102 = true then (some 2) else ((spec_l1In.f a0 55296 57343).bind fun t103 => (if t103 = true then (some 0) else ((spec_l1In.f a0 2048 65535).bind fun t104 => (if t104 = true then (some 3) else ((spec_l1In.f a0 65536 1114111).bind fun t105 => (if t105 = true then (some 4) else (some 0))))))))) = some r := by rw [if_neg (show ¬ (false = true) by decide)] at H; exact H
  clear H; have H := H1; clear H1; replace H := Option.bind_eq_some_iff.mp H; obtain ⟨t102, A40, H⟩ := H; replace H : (if t102 = true then (some 2) else ((spec_l1In.f a0 55296 57343).bind fun t103 => (if t103 = true then (some 0) else ((spec_l1In.f a0 2048 65535).bind fun t104 => (if t104 = true then (some 3) else ((spec_l1In.f a0 65536 1114111).bind fun t105 => (if t105 = true then (some 4) else (some 0)))))))) = some r := H; have A4 := az A40; clear A40; by_cases c5 : t102 = true
  ·
   subst c5; have H1 : (some 2) = some r := by rw [if_pos rfl] at H; exact H
   clear H; have H := H1; clear H1; obtain rfl := Option.some.inj H; go_enter Tryz.func95, Tryz.ntmps95; go_wp2_with (first | ((with_reducible refine gate_callee (f := 36) rfl ?_); refine goesL_ (some 5) rfl rfl Tryz.func36 (by kernel_rfl) rfl #[.int .i64 a0, .int .i64 0, .int .i64 127] rfl zC ?_; (with_reducible refine (spec_l1In.calls a0 0 127 false _ A2.out).mono ?_); rintro e w' ⟨rfl, ⟨nd, rfl⟩⟩; refine ⟨_, rfl, ?_⟩) | ((with_reducible refine gate_callee (f := 36) rfl ?_); refine goesL_ (some 8) rfl rfl Tryz.func36 (by kernel_rfl) rfl #[.int .i64 a0, .int .i64 128, .int .i64 2047] rfl zC ?_; (with_reducible refine (spec_l1In.calls a0 128 2047 true _ A4.out).mono ?_); rintro e w' ⟨rfl, ⟨nd, rfl⟩⟩; refine ⟨_, rfl, ?_⟩)); go_ret; exact ⟨zB, zD⟩
  ·
   replace c5 := Bool.eq_false_iff.mpr c5; subst c5; have H1 : ((spec_l1In.f a0 55296 57343).bind fun t103 => (if t103 = true then (some 0) else ((spec_l1In.f a0 2048 65535).bind fun t104 => (if t104 = true then (some 3) else ((spec_l1In.f a0 65536 1114111).bind fun t105 => (if t105 = true then (some 4) else (some 0))))))) = some r := by rw [if_neg (show ¬ (false = true) by decide)] at H; exact H
   clear H; have H := H1; clear H1; replace H := Option.bind_eq_some_iff.mp H; obtain ⟨t103, A60, H⟩ := H; replace H : (if t103 = true then (some 0) else ((spec_l1In.f a0 2048 65535).bind fun t104 => (if t104 = true then (some 3) else ((spec_l1In.f a0 65536 1114111).bind fun t105 => (if t105 = true then (some 4) else (some 0)))))) = some r := H; have A6 := az A60; clear A60; by_cases c7 : t103 = true
   ·
    subst c7; have H1 : (some 0) = some r := by rw [if_pos rfl] at H; exact H
    clear H; have H := H1; clear H1; obtain rfl := Option.some.inj H; go_enter Tryz.func95, Tryz.ntmps95; go_wp2_with (first | ((with_reducible refine gate_callee (f := 36) rfl ?_); refine goesL_ (some 5) rfl rfl Tryz.func36 (by kernel_rfl) rfl #[.int .i64 a0, .int .i64 0, .int .i64 127] rfl zC ?_; (with_reducible refine (spec_l1In.calls a0 0 127 false _ A2.out).mono ?_); rintro e w' ⟨rfl, ⟨nd, rfl⟩⟩; refine ⟨_, rfl, ?_⟩) | ((with_reducible refine gate_callee (f := 36) rfl ?_); refine goesL_ (some 8) rfl rfl Tryz.func36 (by kernel_rfl) rfl #[.int .i64 a0, .int .i64 128, .int .i64 2047] rfl zC ?_; (with_reducible refine (spec_l1In.calls a0 128 2047 false _ A4.out).mono ?_); rintro e w' ⟨rfl, ⟨nd, rfl⟩⟩; refine ⟨_, rfl, ?_⟩) | ((with_reducible refine gate_callee (f := 36) rfl ?_); refine goesL_ (some 11) rfl rfl Tryz.func36 (by kernel_rfl) rfl #[.int .i64 a0, .int .i64 55296, .int .i64 57343] rfl zC ?_; (with_reducible refine (spec_l1In.calls a0 55296 57343 true _ A6.out).mono ?_); rintro e w' ⟨rfl, ⟨nd, rfl⟩⟩; refine ⟨_, rfl, ?_⟩)); go_ret; exact ⟨zB, zD⟩
   ·
    replace c7 := Bool.eq_false_iff.mpr c7; subst c7; have H1 : ((spec_l1In.f a0 2048 65535).bind fun t104 => (if t104 = true then (some 3) else ((spec_l1In.f a0 65536 1114111).bind fun t105 => (if t105 = true then (some 4) else (some 0))))) = some r := by rw [if_neg (show ¬ (false = true) by decide)] at H; exact H
    clear H; have H := H1; clear H1; replace H := Option.bind_eq_some_iff.mp H; obtain ⟨t104, A80, H⟩ := H; replace H : (if t104 = true then (some 3) else ((spec_l1In.f a0 65536 1114111).bind fun t105 => (if t105 = true then (some 4) else (some 0)))) = some r := H; have A8 := az A80; clear A80; by_cases c9 : t104 = true
    ·
     subst c9; have H1 : (some 3) = some r := by rw [if_pos rfl] at H; exact H
     clear H; have H := H1; clear H1; obtain rfl := Option.some.inj H; go_enter Tryz.func95, Tryz.ntmps95; go_wp2_with (first | ((with_reducible refine gate_callee (f := 36) rfl ?_); refine goesL_ (some 5) rfl rfl Tryz.func36 (by kernel_rfl) rfl #[.int .i64 a0, .int .i64 0, .int .i64 127] rfl zC ?_; (with_reducible refine (spec_l1In.calls a0 0 127 false _ A2.out).mono ?_); rintro e w' ⟨rfl, ⟨nd, rfl⟩⟩; refine ⟨_, rfl, ?_⟩) | ((with_reducible refine gate_callee (f := 36) rfl ?_); refine goesL_ (some 8) rfl rfl Tryz.func36 (by kernel_rfl) rfl #[.int .i64 a0, .int .i64 128, .int .i64 2047] rfl zC ?_; (with_reducible refine (spec_l1In.calls a0 128 2047 false _ A4.out).mono ?_); rintro e w' ⟨rfl, ⟨nd, rfl⟩⟩; refine ⟨_, rfl, ?_⟩) | ((with_reducible refine gate_callee (f := 36) rfl ?_); refine goesL_ (some 11) rfl rfl Tryz.func36 (by kernel_rfl) rfl #[.int .i64 a0, .int .i64 55296, .int .i64 57343] rfl zC ?_; (with_reducible refine (spec_l1In.calls a0 55296 57343 false _ A6.out).mono ?_); rintro e w' ⟨rfl, ⟨nd, rfl⟩⟩; refine ⟨_, rfl, ?_⟩) | ((with_reducible refine gate_callee (f := 36) rfl ?_); refine goesL_ (some 14) rfl rfl Tryz.func36 (by kernel_rfl) rfl #[.int .i64 a0, .int .i64 2048, .int .i64 65535] rfl zC ?_; (with_reducible refine (spec_l1In.calls a0 2048 65535 true _ A8.out).mono ?_); rintro e w' ⟨rfl, ⟨nd, rfl⟩⟩; refine ⟨_, rfl, ?_⟩)); go_ret; exact ⟨zB, zD⟩
    ·
     replace c9 := Bool.eq_false_iff.mpr c9; subst c9; have H1 : ((spec_l1In.f a0 65536 1114111).bind fun t105 => (if t105 = true then (some 4) else (some 0))) = some r := by rw [if_neg (show ¬ (false = true) by decide)] at H; exact H
     clear H; have H := H1; clear H1; replace H := Option.bind_eq_some_iff.mp H; obtain ⟨t105, A100, H⟩ := H; replace H : (if t105 = true then (some 4) else (some 0)) = some r := H; have A10 := az A100; clear A100; by_cases c11 : t105 = true
     ·
      subst c11; have H1 : (some 4) = some r := by rw [if_pos rfl] at H; exact H
      clear H; have H := H1; clear H1; obtain rfl := Option.some.inj H; go_enter Tryz.func95, Tryz.ntmps95; go_wp2_with (first | ((with_reducible refine gate_callee (f := 36) rfl ?_); refine goesL_ (some 5) rfl rfl Tryz.func36 (by kernel_rfl) rfl #[.int .i64 a0, .int .i64 0, .int .i64 127] rfl zC ?_; (with_reducible refine (spec_l1In.calls a0 0 127 false _ A2.out).mono ?_); rintro e w' ⟨rfl, ⟨nd, rfl⟩⟩; refine ⟨_, rfl, ?_⟩) | ((with_reducible refine gate_callee (f := 36) rfl ?_); refine goesL_ (some 8) rfl rfl Tryz.func36 (by kernel_rfl) rfl #[.int .i64 a0, .int .i64 128, .int .i64 2047] rfl zC ?_; (with_reducible refine (spec_l1In.calls a0 128 2047 false _ A4.out).mono ?_); rintro e w' ⟨rfl, ⟨nd, rfl⟩⟩; refine ⟨_, rfl, ?_⟩) | ((with_reducible refine gate_callee (f := 36) rfl ?_); refine goesL_ (some 11) rfl rfl Tryz.func36 (by kernel_rfl) rfl #[.int .i64 a0, .int .i64 55296, .int .i64 57343] rfl zC ?_; (with_reducible refine (spec_l1In.calls a0 55296 57343 false _ A6.out).mono ?_); rintro e w' ⟨rfl, ⟨nd, rfl⟩⟩; refine ⟨_, rfl, ?_⟩) | ((with_reducible refine gate_callee (f := 36) rfl ?_); refine goesL_ (some 14) rfl rfl Tryz.func36 (by kernel_rfl) rfl #[.int .i64 a0, .int .i64 2048, .int .i64 65535] rfl zC ?_; (with_reducible refine (spec_l1In.calls a0 2048 65535 false _ A8.out).mono ?_); rintro e w' ⟨rfl, ⟨nd, rfl⟩⟩; refine ⟨_, rfl, ?_⟩) | ((with_reducible refine gate_callee (f := 36) rfl ?_); refine goesL_ (some 17) rfl rfl Tryz.func36 (by kernel_rfl) rfl #[.int .i64 a0, .int .i64 65536, .int .i64 1114111] rfl zC ?_; (with_reducible refine (spec_l1In.calls a0 65536 1114111 true _ A10.out).mono ?_); rintro e w' ⟨rfl, ⟨nd, rfl⟩⟩; refine ⟨_, rfl, ?_⟩)); go_ret; exact ⟨zB, zD⟩
     ·
      replace c11 := Bool.eq_false_iff.mpr c11; subst c11; have H1 : (some 0) = some r := by rw [if_neg (show ¬ (false = true) by decide)] at H; exact H
      clear H; have H := H1; clear H1; obtain rfl := Option.some.inj H; go_enter Tryz.func95, Tryz.ntmps95; go_wp2_with (first | ((with_reducible refine gate_callee (f := 36) rfl ?_); refine goesL_ (some 5) rfl rfl Tryz.func36 (by kernel_rfl) rfl #[.int .i64 a0, .int .i64 0, .int .i64 127] rfl zC ?_; (with_reducible refine (spec_l1In.calls a0 0 127 false _ A2.out).mono ?_); rintro e w' ⟨rfl, ⟨nd, rfl⟩⟩; refine ⟨_, rfl, ?_⟩) | ((with_reducible refine gate_callee (f := 36) rfl ?_); refine goesL_ (some 8) rfl rfl Tryz.func36 (by kernel_rfl) rfl #[.int .i64 a0, .int .i64 128, .int .i64 2047] rfl zC ?_; (with_reducible refine (spec_l1In.calls a0 128 2047 false _ A4.out).mono ?_); rintro e w' ⟨rfl, ⟨nd, rfl⟩⟩; refine ⟨_, rfl, ?_⟩) | ((with_reducible refine gate_callee (f := 36) rfl ?_); refine goesL_ (some 11) rfl rfl Tryz.func36 (by kernel_rfl) rfl #[.int .i64 a0, .int .i64 55296, .int .i64 57343] rfl zC ?_; (with_reducible refine (spec_l1In.calls a0 55296 57343 false _ A6.out).mono ?_); rintro e w' ⟨rfl, ⟨nd, rfl⟩⟩; refine ⟨_, rfl, ?_⟩) | ((with_reducible refine gate_callee (f := 36) rfl ?_); refine goesL_ (some 14) rfl rfl Tryz.func36 (by kernel_rfl) rfl #[.int .i64 a0, .int .i64 2048, .int .i64 65535] rfl zC ?_; (with_reducible refine (spec_l1In.calls a0 2048 65535 false _ A8.out).mono ?_); rintro e w' ⟨rfl, ⟨nd, rfl⟩⟩; refine ⟨_, rfl, ?_⟩) | ((with_reducible refine gate_callee (f := 36) rfl ?_); refine goesL_ (some 17) rfl rfl Tryz.func36 (by kernel_rfl) rfl #[.int .i64 a0, .int .i64 65536, .int .i64 1114111] rfl zC ?_; (with_reducible refine (spec_l1In.calls a0 65536 1114111 false _ A10.out).mono ?_); rintro e w' ⟨rfl, ⟨nd, rfl⟩⟩; refine ⟨_, rfl, ?_⟩)); go_ret; exact ⟨zB, zD⟩
def spec_l1Ok.l0 : Nat → List Int → Int → Option (Bool)
 | 0, _, _ => none
 | k + 1, x0, x3 => if x3 < (x0.length : Int) then (if 0 ≤ x3 then ((spec_l1Size.f (rd x0 x3)).bind fun t107 => (if t107 = 0 then (some false) else (spec_l1Ok.l0 k x0 (wrap64 (x3 + 1))))) else (none)) else (some (decide ((x0.length : Int) ≤ 80)))
def spec_l1Ok.f (k : Nat) (l0 : List Int) : Option (Bool) := spec_l1Ok.l0 k l0 0
theorem spec_l1Ok.mono_l : ∀ k, (∀ y0 y1, LeO (spec_l1Ok.l0 k y0 y1) (spec_l1Ok.l0 (k + 1) y0 y1))
 | 0 => fun _ _ r h => by simp [spec_l1Ok.l0] at h
 | k + 1 => by
  have ih0 := spec_l1Ok.mono_l k
  ·
   intro y0 y1; unfold spec_l1Ok.l0
   repeat' first
   | (with_reducible exact ih0 _ _)
   | (with_reducible exact LeO.refl _)
   | (with_reducible exact LeO.none _)
   | (with_reducible refine LeO.ite ?_ ?_)
   | (with_reducible refine LeO.bind ?_ (fun _ => ?_))
   | exact ih0 _ _
   | exact LeO.none _
   | refine LeO.ite ?_ ?_
   | refine LeO.bind ?_ (fun _ => ?_)
theorem spec_l1Ok.mono : ∀ a0 k, LeO (spec_l1Ok.f k a0) (spec_l1Ok.f (k + 1) a0) := by
 intro a0 k; have ih0 := spec_l1Ok.mono_l k; unfold spec_l1Ok.f
 repeat' first
   | (with_reducible exact ih0 _ _)
   | (with_reducible exact LeO.refl _)
   | (with_reducible exact LeO.none _)
   | (with_reducible refine LeO.ite ?_ ?_)
   | (with_reducible refine LeO.bind ?_ (fun _ => ?_))
   | exact ih0 _ _
   | exact LeO.none _
   | refine LeO.ite ?_ ?_
   | refine LeO.bind ?_ (fun _ => ?_)
theorem spec_l1Ok.calls (k : Nat) (A0 : Option Addr) (c0 : Nat) (l0 : List Int) (r : Bool) (w : World) (hr0 : Kd.C (Kd.int .i64) w A0 l0.length l0) (hc0 : l0.length ≤ c0) (h : spec_l1Ok.f k l0 = some r) :
  Calls Tryz.prog 68 #[.slice A0 l0.length c0] w fun e w' => e = .returned (.bool r) ∧ Drawn0 w w' := by
 have HR0 := az hr0; have HC0 := az hc0; clear hr0 hc0; have H : (spec_l1Ok.l0 k l0 0) = some r := h; clear h; have H' := az H; clear H; go_enter Tryz.func68, Tryz.ntmps68; go_wp2; go_loopg [3] k (fun kq v3 w' => ∃ (x3_1 : Int), v3 = .int .i64 x3_1 ∧ Aside0 (spec_l1Ok.l0 kq l0 x3_1 = some r) ∧ Aside0 (kq ≤ k) ∧ Drawn0 w w')
 case atStart => exact ⟨(0), zB, H', ⟨Nat.le_refl _⟩, zD⟩
 case round =>
  clear H'; obtain ⟨x3_1, rfl, HA, HK1, ⟨m1, rfl⟩⟩ := hrel
  cases gk with
  | zero => exact absurd HA.out (by simp [spec_l1Ok.l0])
  | succ k1 =>
   have H := HA.out; clear HA; simp only [spec_l1Ok.l0] at H; by_cases c2 : x3_1 < (l0.length : Int)
   ·
    rw [if_pos c2] at H; have c2b0 : decide (x3_1 < (l0.length : Int)) = true := decide_eq_true c2; clear c2; by_cases c3 : 0 ≤ x3_1
    ·
     rw [if_pos c3] at H; have c3b0 : decide (0 ≤ x3_1) = true := decide_eq_true c3; clear c3; replace H := Option.bind_eq_some_iff.mp H; obtain ⟨t107, A40, H⟩ := H; replace H : (if t107 = 0 then (some false) else (spec_l1Ok.l0 k1 l0 (wrap64 (x3_1 + 1)))) = some r := H; have A4 := az A40; clear A40; by_cases c5 : t107 = 0
     ·
      rw [if_pos c5] at H; have c5b0 : (t107 == 0) = true := beq_iff_eq.mpr c5; have c5b1 : (t107 != 0) = false := bne_eq_false_iff_eq.mpr c5; clear c5; obtain rfl := Option.some.inj H; have p106 : 0 ≤ (x3_1 : Int) := of_decide_eq_true (by assumption); have q106 : x3_1 < (l0.length : Int) := of_decide_eq_true (by assumption); obtain ⟨ad106, e106, hx106_0⟩ := Kd.at_int HR0.out x3_1 p106 q106
      cases e106
      replace p106 := eq_true p106; replace q106 := eq_true q106; go_wp2_with (first | ((with_reducible refine gate_callee (f := 95) rfl ?_); refine goesL_ (some 14) rfl rfl Tryz.func95 (by kernel_rfl) rfl #[.int .i64 (rd l0 x3_1)] rfl zC ?_; (with_reducible refine (spec_l1Size.calls (rd l0 x3_1) t107 _ A4.out).mono ?_); rintro e w' ⟨rfl, ⟨nd, rfl⟩⟩; refine ⟨_, rfl, ?_⟩)); go_ret; exact ⟨zB, zD⟩
     ·
      rw [if_neg c5] at H; have c5b0 : (t107 == 0) = false := beq_eq_false_iff_ne.mpr c5; have c5b1 : (t107 != 0) = true := bne_iff_ne.mpr c5; have H' := az H; clear H; have p106 : 0 ≤ (x3_1 : Int) := of_decide_eq_true (by assumption); have q106 : x3_1 < (l0.length : Int) := of_decide_eq_true (by assumption); obtain ⟨ad106, e106, hx106_0⟩ := Kd.at_int HR0.out x3_1 p106 q106
      cases e106
      replace p106 := eq_true p106; replace q106 := eq_true q106; go_wp2_with (first | ((with_reducible refine gate_callee (f := 95) rfl ?_); refine goesL_ (some 14) rfl rfl Tryz.func95 (by kernel_rfl) rfl #[.int .i64 (rd l0 x3_1)] rfl zC ?_; (with_reducible refine (spec_l1Size.calls (rd l0 x3_1) t107 _ A4.out).mono ?_); rintro e w' ⟨rfl, ⟨nd, rfl⟩⟩; refine ⟨_, rfl, ?_⟩)); go_roundg k1
      case measure => have := HK1.out; omega
      case rel => exact ⟨(wrap64 (x3_1 + 1)), zB, H', ⟨zE HK1.out⟩, zD⟩
    ·
     rw [if_neg c3] at H; exact absurd H (by simp)
   ·
    rw [if_neg c2] at H; have c2b0 : decide (x3_1 < (l0.length : Int)) = false := decide_eq_false c2; clear c2; obtain rfl := Option.some.inj H; go_wp2; go_ret; exact ⟨zB, zD⟩
def spec_l6Ok.f (a0_0 : Int) (a0_1 : Int) (a0_2 : Int) (a0_3 : Int) (a1 : Int) : Option (Bool) := (spec_l1In.f a0_0 0 (wrap64 (a1 - 1))).bind fun t109 => (if t109 = true then ((spec_l1In.f a0_1 (wrap64 (a0_0 + 1)) a1).bind fun t110 => (if t110 = true then ((spec_l1In.f a0_2 1 40).bind fun t111 => (if t111 = true then ((spec_l1In.f a0_3 0 9).bind fun t112 => (some t112)) else (some false))) else (some false))) else (some false))
theorem spec_l6Ok.calls (a0_0 : Int) (a0_1 : Int) (a0_2 : Int) (a0_3 : Int) (a1 : Int) (r : Bool) (w : World) (h : spec_l6Ok.f a0_0 a0_1 a0_2 a0_3 a1 = some r) :
  Calls Tryz.prog 96 #[.agg #[.int .i64 a0_0, .int .i64 a0_1, .int .i64 a0_2, .int .i64 a0_3], .int .i64 a1] w fun e w' => e = .returned (.bool r) ∧ Below w.heap.size w w' := by
 have hu50 := Tryz.underlying50; have HB := az (Below.refl w.heap.size w); have H : ((spec_l1In.f a0_0 0 (wrap64 (a1 - 1))).bind fun t109 => (if t109 = true then ((spec_l1In.f a0_1 (wrap64 (a0_0 + 1)) a1).bind fun t110 => (if t110 = true then ((spec_l1In.f a0_2 1 40).bind fun t111 => (if t111 = true then ((spec_l1In.f a0_3 0 9).bind fun t112 => (some t112)) else (some false))) else (some false))) else (some false))) = some r := h; clear h; replace H := Option.bind_eq_some_iff.mp H; obtain ⟨t109, A30, H⟩ := H; replace H : (if t109 = true then ((spec_l1In.f a0_1 (wrap64 (a0_0 + 1)) a1).bind fun t110 => (if t110 = true then ((spec_l1In.f a0_2 1 40).bind fun t111 => (if t111 = true then ((spec_l1In.f a0_3 0 9).bind fun t112 => (some t112)) else (some false))) else (some false))) else (some false)) = some r := H; have A3 := az A30; clear A30; by_cases c4 : t109 = true
 ·
  subst c4; have H1 : ((spec_l1In.f a0_1 (wrap64 (a0_0 + 1)) a1).bind fun t110 => (if t110 = true then ((spec_l1In.f a0_2 1 40).bind fun t111 => (if t111 = true then ((spec_l1In.f a0_3 0 9).bind fun t112 => (some t112)) else (some false))) else (some false))) = some r := by rw [if_pos rfl] at H; exact H
  clear H; have H := H1; clear H1; replace H := Option.bind_eq_some_iff.mp H; obtain ⟨t110, A50, H⟩ := H; replace H : (if t110 = true then ((spec_l1In.f a0_2 1 40).bind fun t111 => (if t111 = true then ((spec_l1In.f a0_3 0 9).bind fun t112 => (some t112)) else (some false))) else (some false)) = some r := H; have A5 := az A50; clear A50; by_cases c6 : t110 = true
  ·
   subst c6; have H1 : ((spec_l1In.f a0_2 1 40).bind fun t111 => (if t111 = true then ((spec_l1In.f a0_3 0 9).bind fun t112 => (some t112)) else (some false))) = some r := by rw [if_pos rfl] at H; exact H
   clear H; have H := H1; clear H1; replace H := Option.bind_eq_some_iff.mp H; obtain ⟨t111, A70, H⟩ := H; replace H : (if t111 = true then ((spec_l1In.f a0_3 0 9).bind fun t112 => (some t112)) else (some false)) = some r := H; have A7 := az A70; clear A70; by_cases c8 : t111 = true
   ·
    subst c8; have H1 : ((spec_l1In.f a0_3 0 9).bind fun t112 => (some t112)) = some r := by rw [if_pos rfl] at H; exact H
    clear H; have H := H1; clear H1; replace H := Option.bind_eq_some_iff.mp H; obtain ⟨t112, A90, H⟩ := H; replace H : (some t112) = some r := H; have A9 := az A90; clear A90; obtain rfl := Option.some.inj H; go_enter Tryz.func96, Tryz.ntmps96; go_wp2_with (first | ((with_reducible refine gate_dst (N := 2) rfl ?_); refine box_event ?hg (N := 2) ?hd (cs := #[.int .i64 a0_0, .int .i64 a0_1, .int .i64 a0_2, .int .i64 a0_3]) (t := 50) ?hr ?_; (case hd => rfl); (case hg => rfl); (case hr => first | (go_simp; done) | (go_simp; rfl)); intro gb108 hg w10 hbox hb; have n0_ := az (below_step (zA HB.out) hb); have n1_ := az (hbox); have n2_ := az ((by rw [hg]; exact (below_size (zA HB.out)) : w.heap.size ≤ gb108)); have n3_ := az ((by rw [hg]; exact (below_size (zA HB.out)) : w.heap.size ≤ gb108)); clear HB; have HB := n0_; have BK108 := n1_; have GW108 := n2_; have GE108 := n3_; clear n0_ n1_ n2_ n3_; clear hb hbox hg; have hcz11_0 : w10.cell? ⟨gb108, 0, none⟩ = some (.int .i64 a0_0) := (blk_cell BK108.out 0).trans rfl; have hcz11_1 : w10.cell? ⟨gb108, 1, none⟩ = some (.int .i64 a0_1) := (blk_cell BK108.out 1).trans rfl; have hcz11_2 : w10.cell? ⟨gb108, 2, none⟩ = some (.int .i64 a0_2) := (blk_cell BK108.out 2).trans rfl; have hcz11_3 : w10.cell? ⟨gb108, 3, none⟩ = some (.int .i64 a0_3) := (blk_cell BK108.out 3).trans rfl; have hfz11_0 := blk_frozen BK108.out 0; have hfz11_1 := blk_frozen BK108.out 1; have hfz11_2 := blk_frozen BK108.out 2; have hfz11_3 := blk_frozen BK108.out 3) | ((with_reducible refine gate_callee (f := 36) rfl ?_); refine goesL_ (some 9) rfl rfl Tryz.func36 (by kernel_rfl) rfl #[.int .i64 a0_0, .int .i64 0, .int .i64 (wrap64 (a1 - 1))] rfl zC ?_; (with_reducible refine (spec_l1In.calls a0_0 0 (wrap64 (a1 - 1)) true _ A3.out).mono ?_); rintro e w' ⟨rfl, ⟨nd, rfl⟩⟩; refine ⟨_, rfl, ?_⟩) | (go_at_call 36; (with_reducible refine (spec_l1In.calls a0_1 (wrap64 (a0_0 + 1)) a1 true _ A5.out).mono ?_); rintro e w' ⟨rfl, ⟨nd, rfl⟩⟩) | (go_at_call 36; (with_reducible refine (spec_l1In.calls a0_2 1 40 true _ A7.out).mono ?_); rintro e w' ⟨rfl, ⟨nd, rfl⟩⟩) | (go_at_call 36; (with_reducible refine (spec_l1In.calls a0_3 0 9 t112 _ A9.out).mono ?_); rintro e w' ⟨rfl, ⟨nd, rfl⟩⟩)); go_ret; exact ⟨zG, zI HB.out GE108.out⟩
   ·
    replace c8 := Bool.eq_false_iff.mpr c8; subst c8; have H1 : (some false) = some r := by rw [if_neg (show ¬ (false = true) by decide)] at H; exact H
    clear H; have H := H1; clear H1; obtain rfl := Option.some.inj H; go_enter Tryz.func96, Tryz.ntmps96; go_wp2_with (first | ((with_reducible refine gate_dst (N := 2) rfl ?_); refine box_event ?hg (N := 2) ?hd (cs := #[.int .i64 a0_0, .int .i64 a0_1, .int .i64 a0_2, .int .i64 a0_3]) (t := 50) ?hr ?_; (case hd => rfl); (case hg => rfl); (case hr => first | (go_simp; done) | (go_simp; rfl)); intro gb108 hg w12 hbox hb; have n0_ := az (below_step (zA HB.out) hb); have n1_ := az (hbox); have n2_ := az ((by rw [hg]; exact (below_size (zA HB.out)) : w.heap.size ≤ gb108)); have n3_ := az ((by rw [hg]; exact (below_size (zA HB.out)) : w.heap.size ≤ gb108)); clear HB; have HB := n0_; have BK108 := n1_; have GW108 := n2_; have GE108 := n3_; clear n0_ n1_ n2_ n3_; clear hb hbox hg; have hcz13_0 : w12.cell? ⟨gb108, 0, none⟩ = some (.int .i64 a0_0) := (blk_cell BK108.out 0).trans rfl; have hcz13_1 : w12.cell? ⟨gb108, 1, none⟩ = some (.int .i64 a0_1) := (blk_cell BK108.out 1).trans rfl; have hcz13_2 : w12.cell? ⟨gb108, 2, none⟩ = some (.int .i64 a0_2) := (blk_cell BK108.out 2).trans rfl; have hcz13_3 : w12.cell? ⟨gb108, 3, none⟩ = some (.int .i64 a0_3) := (blk_cell BK108.out 3).trans rfl; have hfz13_0 := blk_frozen BK108.out 0; have hfz13_1 := blk_frozen BK108.out 1; have hfz13_2 := blk_frozen BK108.out 2; have hfz13_3 := blk_frozen BK108.out 3) | ((with_reducible refine gate_callee (f := 36) rfl ?_); refine goesL_ (some 9) rfl rfl Tryz.func36 (by kernel_rfl) rfl #[.int .i64 a0_0, .int .i64 0, .int .i64 (wrap64 (a1 - 1))] rfl zC ?_; (with_reducible refine (spec_l1In.calls a0_0 0 (wrap64 (a1 - 1)) true _ A3.out).mono ?_); rintro e w' ⟨rfl, ⟨nd, rfl⟩⟩; refine ⟨_, rfl, ?_⟩) | (go_at_call 36; (with_reducible refine (spec_l1In.calls a0_1 (wrap64 (a0_0 + 1)) a1 true _ A5.out).mono ?_); rintro e w' ⟨rfl, ⟨nd, rfl⟩⟩) | (go_at_call 36; (with_reducible refine (spec_l1In.calls a0_2 1 40 false _ A7.out).mono ?_); rintro e w' ⟨rfl, ⟨nd, rfl⟩⟩)); go_ret; exact ⟨zG, zI HB.out GE108.out⟩
  ·
   replace c6 := Bool.eq_false_iff.mpr c6; subst c6; have H1 : (some false) = some r := by rw [if_neg (show ¬ (false = true) by decide)] at H; exact H
   clear H; have H := H1; clear H1; obtain rfl := Option.some.inj H; go_enter Tryz.func96, Tryz.ntmps96; go_wp2_with (first | ((with_reducible refine gate_dst (N := 2) rfl ?_); refine box_event ?hg (N := 2) ?hd (cs := #[.int .i64 a0_0, .int .i64 a0_1, .int .i64 a0_2, .int .i64 a0_3]) (t := 50) ?hr ?_; (case hd => rfl); (case hg => rfl); (case hr => first | (go_simp; done) | (go_simp; rfl)); intro gb108 hg w14 hbox hb; have n0_ := az (below_step (zA HB.out) hb); have n1_ := az (hbox); have n2_ := az ((by rw [hg]; exact (below_size (zA HB.out)) : w.heap.size ≤ gb108)); have n3_ := az ((by rw [hg]; exact (below_size (zA HB.out)) : w.heap.size ≤ gb108)); clear HB; have HB := n0_; have BK108 := n1_; have GW108 := n2_; have GE108 := n3_; clear n0_ n1_ n2_ n3_; clear hb hbox hg; have hcz15_0 : w14.cell? ⟨gb108, 0, none⟩ = some (.int .i64 a0_0) := (blk_cell BK108.out 0).trans rfl; have hcz15_1 : w14.cell? ⟨gb108, 1, none⟩ = some (.int .i64 a0_1) := (blk_cell BK108.out 1).trans rfl; have hcz15_2 : w14.cell? ⟨gb108, 2, none⟩ = some (.int .i64 a0_2) := (blk_cell BK108.out 2).trans rfl; have hcz15_3 : w14.cell? ⟨gb108, 3, none⟩ = some (.int .i64 a0_3) := (blk_cell BK108.out 3).trans rfl; have hfz15_0 := blk_frozen BK108.out 0; have hfz15_1 := blk_frozen BK108.out 1; have hfz15_2 := blk_frozen BK108.out 2; have hfz15_3 := blk_frozen BK108.out 3) | ((with_reducible refine gate_callee (f := 36) rfl ?_); refine goesL_ (some 9) rfl rfl Tryz.func36 (by kernel_rfl) rfl #[.int .i64 a0_0, .int .i64 0, .int .i64 (wrap64 (a1 - 1))] rfl zC ?_; (with_reducible refine (spec_l1In.calls a0_0 0 (wrap64 (a1 - 1)) true _ A3.out).mono ?_); rintro e w' ⟨rfl, ⟨nd, rfl⟩⟩; refine ⟨_, rfl, ?_⟩) | (go_at_call 36; (with_reducible refine (spec_l1In.calls a0_1 (wrap64 (a0_0 + 1)) a1 false _ A5.out).mono ?_); rintro e w' ⟨rfl, ⟨nd, rfl⟩⟩)); go_ret; exact ⟨zG, zI HB.out GE108.out⟩
 ·
  replace c4 := Bool.eq_false_iff.mpr c4; subst c4; have H1 : (some false) = some r := by rw [if_neg (show ¬ (false = true) by decide)] at H; exact H
  clear H; have H := H1; clear H1; obtain rfl := Option.some.inj H; go_enter Tryz.func96, Tryz.ntmps96; go_wp2_with (first | ((with_reducible refine gate_dst (N := 2) rfl ?_); refine box_event ?hg (N := 2) ?hd (cs := #[.int .i64 a0_0, .int .i64 a0_1, .int .i64 a0_2, .int .i64 a0_3]) (t := 50) ?hr ?_; (case hd => rfl); (case hg => rfl); (case hr => first | (go_simp; done) | (go_simp; rfl)); intro gb108 hg w16 hbox hb; have n0_ := az (below_step (zA HB.out) hb); have n1_ := az (hbox); have n2_ := az ((by rw [hg]; exact (below_size (zA HB.out)) : w.heap.size ≤ gb108)); have n3_ := az ((by rw [hg]; exact (below_size (zA HB.out)) : w.heap.size ≤ gb108)); clear HB; have HB := n0_; have BK108 := n1_; have GW108 := n2_; have GE108 := n3_; clear n0_ n1_ n2_ n3_; clear hb hbox hg; have hcz17_0 : w16.cell? ⟨gb108, 0, none⟩ = some (.int .i64 a0_0) := (blk_cell BK108.out 0).trans rfl; have hcz17_1 : w16.cell? ⟨gb108, 1, none⟩ = some (.int .i64 a0_1) := (blk_cell BK108.out 1).trans rfl; have hcz17_2 : w16.cell? ⟨gb108, 2, none⟩ = some (.int .i64 a0_2) := (blk_cell BK108.out 2).trans rfl; have hcz17_3 : w16.cell? ⟨gb108, 3, none⟩ = some (.int .i64 a0_3) := (blk_cell BK108.out 3).trans rfl; have hfz17_0 := blk_frozen BK108.out 0; have hfz17_1 := blk_frozen BK108.out 1; have hfz17_2 := blk_frozen BK108.out 2; have hfz17_3 := blk_frozen BK108.out 3) | ((with_reducible refine gate_callee (f := 36) rfl ?_); refine goesL_ (some 9) rfl rfl Tryz.func36 (by kernel_rfl) rfl #[.int .i64 a0_0, .int .i64 0, .int .i64 (wrap64 (a1 - 1))] rfl zC ?_; (with_reducible refine (spec_l1In.calls a0_0 0 (wrap64 (a1 - 1)) false _ A3.out).mono ?_); rintro e w' ⟨rfl, ⟨nd, rfl⟩⟩; refine ⟨_, rfl, ?_⟩)); go_ret; exact ⟨zG, zI HB.out GE108.out⟩
abbrev q3M0 : Array Bool := #[false, false, false, false, false, false, false, false, false, false, false, false, false, false, false, false, false, false, false, false, false, false, false, false, false]
abbrev q3M1 : Array Bool := #[true, false, false, false, false, false, false, false, false, false, false, false, false, false, false, false, false, false, false, false, false, false, false, false, false]
abbrev q3M2 : Array Bool := #[true, true, false, false, false, false, false, false, false, false, false, false, false, false, false, false, false, false, false, false, false, false, false, false, false]
abbrev q3M3 : Array Bool := #[true, true, true, false, false, false, false, false, false, false, false, false, false, false, false, false, false, false, false, false, false, false, false, false, false]
abbrev q3M4 : Array Bool := #[true, true, true, false, true, false, false, false, false, false, false, false, false, false, false, false, false, false, false, false, false, false, false, false, false]
abbrev q3M5 : Array Bool := #[true, true, true, true, true, false, false, false, false, false, false, false, false, false, false, false, false, false, false, false, false, false, false, false, false]
abbrev q3M6 : Array Bool := #[true, true, true, true, true, true, false, false, false, false, false, false, false, false, false, false, false, false, false, false, false, false, false, false, false]
abbrev q3M7 : Array Bool := #[true, true, true, true, true, true, true, false, false, false, false, false, false, false, false, false, false, false, false, false, false, false, false, false, false]
abbrev q3M8 : Array Bool := #[true, true, true, true, true, true, true, true, false, false, false, false, false, false, false, false, false, false, false, false, false, false, false, false, false]
abbrev q3M9 : Array Bool := #[true, true, true, true, true, true, true, true, true, false, false, false, false, false, false, false, false, false, false, false, false, false, false, false, false]
abbrev q3M10 : Array Bool := #[true, true, true, true, true, true, true, true, true, true, false, false, false, false, false, false, false, false, false, false, false, false, false, false, false]
abbrev q3M11 : Array Bool := #[true, true, true, true, true, true, true, true, true, true, true, false, false, false, false, false, false, false, false, false, false, false, false, false, false]
abbrev q3M12 : Array Bool := #[true, true, true, true, true, true, true, true, true, true, true, true, false, false, false, false, false, false, false, false, false, false, false, false, false]
abbrev q3M13 : Array Bool := #[true, true, true, true, true, true, true, true, true, true, true, true, true, false, false, false, false, false, false, false, false, false, false, false, false]
abbrev q3M14 : Array Bool := #[true, true, true, true, true, true, true, true, true, true, true, true, true, true, false, false, false, false, false, false, false, false, false, false, false]
abbrev q3M15 : Array Bool := #[true, true, true, true, true, true, true, true, true, true, true, true, true, true, true, false, false, false, false, false, false, false, false, false, false]
abbrev q3M16 : Array Bool := #[true, true, true, true, true, true, true, true, true, true, true, true, true, true, true, true, false, false, false, false, false, false, false, false, false]
abbrev q3M17 : Array Bool := #[true, true, true, true, true, true, true, true, true, true, true, true, true, true, true, true, false, true, false, false, false, false, false, false, false]
abbrev q3M18 : Array Bool := #[true, true, true, true, true, true, true, true, true, true, true, true, true, true, true, true, false, true, true, false, false, false, false, false, false]
abbrev q3M19 : Array Bool := #[true, true, true, true, true, true, true, true, true, true, true, true, true, true, true, true, false, true, true, true, false, false, false, false, false]
abbrev q3M20 : Array Bool := #[true, true, true, true, true, true, true, true, true, true, true, true, true, true, true, true, false, true, true, true, true, false, false, false, false]
abbrev q3M21 : Array Bool := #[true, true, true, true, true, true, true, true, true, true, true, true, true, true, true, true, true, true, true, true, true, false, false, false, false]
abbrev q3M22 : Array Bool := #[true, true, true, true, true, true, true, true, true, true, true, true, true, true, true, true, true, true, true, true, true, true, false, false, false]
abbrev q3M23 : Array Bool := #[true, true, true, true, true, true, true, true, true, true, true, true, true, true, true, true, true, true, true, true, true, true, true, false, false]
abbrev q3M24 : Array Bool := #[true, true, true, true, true, true, true, true, true, true, true, true, true, true, true, true, true, true, true, true, true, true, true, true, false]
abbrev q3M25 : Array Bool := #[true, true, true, true, true, true, true, true, true, true, true, true, true, true, true, true, true, true, true, true, true, true, true, true, true]
abbrev q3M26 : Array Bool := #[true, true, true, true, true, true, true, true, true, true, true, true, true, true, true, true, true, false, false, false, false, false, false, false, false]
abbrev q3M27 : Array Bool := #[true, true, true, true, true, true, true, true, true, true, true, true, true, true, true, true, true, true, false, false, false, false, false, false, false]
abbrev q3M28 : Array Bool := #[true, true, true, true, true, true, true, true, true, true, true, true, true, true, true, true, true, true, true, false, false, false, false, false, false]
abbrev q3M29 : Array Bool := #[true, true, true, true, true, true, true, true, true, true, true, true, true, true, true, true, true, true, true, true, false, false, false, false, false]
theorem q3s {α : Type} (l : List α) (i : Nat) (a : α) : l.toArray.setIfInBounds i a = (l.set i a).toArray := List.setIfInBounds_toArray ..
theorem q3z {α : Type} (a : α) (l : List α) (b : α) : (a :: l).set 0 b = b :: l := List.set_cons_zero ..
theorem q3n {α : Type} (a : α) (l : List α) (i : Nat) (b : α) : (a :: l).set (i + 1) b = a :: l.set i b := List.set_cons_succ ..
def spec_SpansOk.l0 : Nat → List (S50) → Int → Int → Option (Bool)
 | 0, _, _, _ => none
 | k + 1, x0, x1, x5 => if x5 < (x0.length : Int) then (if 0 ≤ x5 then ((spec_l6Ok.f ((rd_T50 x0 x5).f0) ((rd_T50 x0 x5).f1) ((rd_T50 x0 x5).f2) ((rd_T50 x0 x5).f3) x1).bind fun t114 => (if t114 = true then (if x5 > 0 then (if 0 ≤ (wrap64 (x5 - 1)) then (if (wrap64 (x5 - 1)) < (x0.length : Int) then (if ((rd_T50 x0 (wrap64 (x5 - 1))).f1) > ((rd_T50 x0 x5).f0) then (some false) else (spec_SpansOk.l0 k x0 x1 (wrap64 (x5 + 1)))) else (none)) else (none)) else (spec_SpansOk.l0 k x0 x1 (wrap64 (x5 + 1)))) else (some false))) else (none)) else (if (x0.length : Int) ≤ 12 then ((spec_l1In.f x1 0 80).bind fun t117 => (some t117)) else (some false))
def spec_SpansOk.f (k : Nat) (l0 : List (S50)) (a1 : Int) : Option (Bool) := spec_SpansOk.l0 k l0 a1 0
theorem spec_SpansOk.mono_l : ∀ k, (∀ y0 y1 y2, LeO (spec_SpansOk.l0 k y0 y1 y2) (spec_SpansOk.l0 (k + 1) y0 y1 y2))
 | 0 => fun _ _ _ r h => by simp [spec_SpansOk.l0] at h
 | k + 1 => by
  have ih0 := spec_SpansOk.mono_l k
  ·
   intro y0 y1 y2; unfold spec_SpansOk.l0
   repeat' first
   | (with_reducible exact ih0 _ _ _)
   | (with_reducible exact LeO.refl _)
   | (with_reducible exact LeO.none _)
   | (with_reducible refine LeO.ite ?_ ?_)
   | (with_reducible refine LeO.bind ?_ (fun _ => ?_))
   | exact ih0 _ _ _
   | exact LeO.none _
   | refine LeO.ite ?_ ?_
   | refine LeO.bind ?_ (fun _ => ?_)
theorem spec_SpansOk.mono : ∀ a0 a1 k, LeO (spec_SpansOk.f k a0 a1) (spec_SpansOk.f (k + 1) a0 a1) := by
 intro a0 a1 k; have ih0 := spec_SpansOk.mono_l k; unfold spec_SpansOk.f
 repeat' first
   | (with_reducible exact ih0 _ _ _)
   | (with_reducible exact LeO.refl _)
   | (with_reducible exact LeO.none _)
   | (with_reducible refine LeO.ite ?_ ?_)
   | (with_reducible refine LeO.bind ?_ (fun _ => ?_))
   | exact ih0 _ _ _
   | exact LeO.none _
   | refine LeO.ite ?_ ?_
   | refine LeO.bind ?_ (fun _ => ?_)
def spec_SpansOk.T4 : Bool × List (List Nat × List Nat) := (true, [([], []), ([], []), ([0, 1], [0, 1]), ([2], [2]), ([], []), ([3, 4], [3, 4]), ([5], [5]), ([6, 5], [6]), ([7], [7]), ([8, 7], [7, 8]), ([9, 7, 7], [7, 9]), ([10], [10]), ([10], [10]), ([12, 10], [10, 12]), ([11, 13, 10], [10, 11, 13]), ([14, 10], [10, 14]), ([15, 10], [10, 15]), ([10], [10]), ([10], [10]), ([17, 18, 10], [10, 17, 18]), ([19, 10], [10, 19]), ([20, 10], [10, 20]), ([16, 21, 10], [10, 16, 21]), ([10, 22, 7], [7, 10, 22]), ([7, 23], [7, 23])])
def spec_SpansOk.B4 : List Nat := [0, 0, 3, 7, 0, 31, 63, 127, 255, 511, 1023, 2047, 2047, 6143, 16383, 32767, 65535, 2047, 2047, 395263, 919551, 1968127, 4194303, 8388607, 16777215]
theorem spec_SpansOk.tab4 : rtab .any (opsOf Tryz.f69 4) = spec_SpansOk.T4 := by kernel_rfl
theorem spec_SpansOk.bits4 : waitsOk spec_SpansOk.T4.2 spec_SpansOk.B4 = true := by kernel_rfl
theorem spec_SpansOk.calls (k : Nat) (A0 : Option Addr) (c0 : Nat) (l0 : List (S50)) (a1 : Int) (r : Bool) (w : World) (hr0 : Kd.C k50 w A0 l0.length l0) (hc0 : l0.length ≤ c0) (h : spec_SpansOk.f k l0 a1 = some r) :
  Calls Tryz.prog 69 #[.slice A0 l0.length c0, .int .i64 a1] w fun e w' => e = .returned (.bool r) ∧ Below w.heap.size w w' := by
 have hu50 := Tryz.underlying50; have HR0 := az hr0; have HC0 := az hc0; clear hr0 hc0; have HB := az (Below.refl w.heap.size w); have H : (spec_SpansOk.l0 k l0 a1 0) = some r := h; clear h; have H' := az H; clear H; go_enter Tryz.func69, Tryz.ntmps69; go_wp2; go_loopg [5] k (fun kq v5 w' => ∃ (x5_1 : Int), v5 = .int .i64 x5_1 ∧ Aside0 (spec_SpansOk.l0 kq l0 a1 x5_1 = some r) ∧ Aside0 (kq ≤ k) ∧ Aside0 (Below w.heap.size w w'))
 case atStart => exact ⟨(0), zB, H', ⟨Nat.le_refl _⟩, ⟨zA HB.out⟩⟩
 case round =>
  clear H'; (try clear p2); obtain ⟨x5_1, rfl, HA, HK1, HB⟩ := hrel
  cases gk with
  | zero => exact absurd HA.out (by simp [spec_SpansOk.l0])
  | succ k1 =>
   have H := HA.out; clear HA; simp only [spec_SpansOk.l0] at H; by_cases c3 : x5_1 < (l0.length : Int)
   ·
    rw [if_pos c3] at H; have c3b0 : decide (x5_1 < (l0.length : Int)) = true := decide_eq_true c3; clear c3; by_cases c4 : 0 ≤ x5_1
    ·
     rw [if_pos c4] at H; have c4b0 : decide (0 ≤ x5_1) = true := decide_eq_true c4; clear c4; replace H := Option.bind_eq_some_iff.mp H; obtain ⟨t114, A50, H⟩ := H; replace H : (if t114 = true then (if x5_1 > 0 then (if 0 ≤ (wrap64 (x5_1 - 1)) then (if (wrap64 (x5_1 - 1)) < (l0.length : Int) then (if ((rd_T50 l0 (wrap64 (x5_1 - 1))).f1) > ((rd_T50 l0 x5_1).f0) then (some false) else (spec_SpansOk.l0 k1 l0 a1 (wrap64 (x5_1 + 1)))) else (none)) else (none)) else (spec_SpansOk.l0 k1 l0 a1 (wrap64 (x5_1 + 1)))) else (some false)) = some r := H; have A5 := az A50; clear A50; by_cases c6 : t114 = true
     ·
      subst c6; have H1 : (if x5_1 > 0 then (if 0 ≤ (wrap64 (x5_1 - 1)) then (if (wrap64 (x5_1 - 1)) < (l0.length : Int) then (if ((rd_T50 l0 (wrap64 (x5_1 - 1))).f1) > ((rd_T50 l0 x5_1).f0) then (some false) else (spec_SpansOk.l0 k1 l0 a1 (wrap64 (x5_1 + 1)))) else (none)) else (none)) else (spec_SpansOk.l0 k1 l0 a1 (wrap64 (x5_1 + 1)))) = some r := by rw [if_pos rfl] at H; exact H
      clear H; have H := H1; clear H1; by_cases c7 : x5_1 > 0
      ·
       rw [if_pos c7] at H; have c7b0 : decide (0 < x5_1) = true := decide_eq_true c7; clear c7; obtain ⟨ji8, hji8⟩ : ∃ j_ : Int, (wrap64 (x5_1 - 1)) = j_ := ⟨_, rfl⟩; replace H : (if 0 ≤ (ji8) then (if (ji8) < (l0.length : Int) then (if ((rd_T50 l0 (ji8)).f1) > ((rd_T50 l0 x5_1).f0) then (some false) else (spec_SpansOk.l0 k1 l0 a1 (wrap64 (x5_1 + 1)))) else (none)) else (none)) = some r := by first | (rw [hji8] at H; exact H) | (simp only [hji8] at H ⊢; exact H)
       (try rw [hji8] at A5); have hji8w : (IntKind.i64.wrap (x5_1 - 1)) = ji8 := (i64_w _).trans hji8; by_cases c9 : 0 ≤ (ji8)
       ·
        rw [if_pos c9] at H; have c9b0 : decide (0 ≤ (ji8)) = true := decide_eq_true c9; clear c9; by_cases c10 : (ji8) < (l0.length : Int)
        ·
         rw [if_pos c10] at H; have c10b0 : decide ((ji8) < (l0.length : Int)) = true := decide_eq_true c10; clear c10; by_cases c11 : ((rd_T50 l0 (ji8)).f1) > ((rd_T50 l0 x5_1).f0)
         ·
          rw [if_pos c11] at H; have c11b0 : decide (((rd_T50 l0 x5_1).f0) < ((rd_T50 l0 (ji8)).f1)) = true := decide_eq_true c11; clear c11; obtain rfl := Option.some.inj H; (try go_wp2); have n0_ := az (below_drew1 HB.out); clear HB; have HB := n0_; clear n0_; have p113 : 0 ≤ (x5_1 : Int) := of_decide_eq_true (by assumption); have q113 : x5_1 < (l0.length : Int) := of_decide_eq_true (by assumption); obtain ⟨ad113, e113, hx113_0, hx113_1, hx113_2, hx113_3⟩ := at_T50 HR0.out x5_1 p113 q113; have hw113_3 := hx113_3; have hw113_2 := hx113_2; have hw113_1 := hx113_1; have hw113_0 := hx113_0
          cases e113
          replace hx113_0 := (HB.out.cell (World.block_lt_of_cell? w _ hx113_0)).trans hx113_0; replace hx113_1 := (HB.out.cell (World.block_lt_of_cell? w _ hx113_1)).trans hx113_1; replace hx113_2 := (HB.out.cell (World.block_lt_of_cell? w _ hx113_2)).trans hx113_2; replace hx113_3 := (HB.out.cell (World.block_lt_of_cell? w _ hx113_3)).trans hx113_3; replace p113 := eq_true p113; replace q113 := eq_true q113; have p115 : 0 ≤ ((ji8) : Int) := of_decide_eq_true (by assumption); have q115 : (ji8) < (l0.length : Int) := of_decide_eq_true (by assumption); obtain ⟨ad115, e115, hx115_0, hx115_1, hx115_2, hx115_3⟩ := at_T50 HR0.out (ji8) p115 q115; have hw115_3 := hx115_3; have hw115_2 := hx115_2; have hw115_1 := hx115_1; have hw115_0 := hx115_0; obtain rfl : ad113 = ad115 := (by injection e115); replace hx115_0 := (HB.out.cell (World.block_lt_of_cell? w _ hx115_0)).trans hx115_0; replace hx115_1 := (HB.out.cell (World.block_lt_of_cell? w _ hx115_1)).trans hx115_1; replace hx115_2 := (HB.out.cell (World.block_lt_of_cell? w _ hx115_2)).trans hx115_2; replace hx115_3 := (HB.out.cell (World.block_lt_of_cell? w _ hx115_3)).trans hx115_3; replace p115 := eq_true p115; replace q115 := eq_true q115; have p116 : 0 ≤ (x5_1 : Int) := of_decide_eq_true (by assumption); have q116 : x5_1 < (l0.length : Int) := of_decide_eq_true (by assumption); obtain ⟨ad116, e116, hx116_0, hx116_1, hx116_2, hx116_3⟩ := at_T50 HR0.out x5_1 p116 q116; have hw116_3 := hx116_3; have hw116_2 := hx116_2; have hw116_1 := hx116_1; have hw116_0 := hx116_0; obtain rfl : ad113 = ad116 := (by injection e116); replace hx116_0 := (HB.out.cell (World.block_lt_of_cell? w _ hx116_0)).trans hx116_0; replace hx116_1 := (HB.out.cell (World.block_lt_of_cell? w _ hx116_1)).trans hx116_1; replace hx116_2 := (HB.out.cell (World.block_lt_of_cell? w _ hx116_2)).trans hx116_2; replace hx116_3 := (HB.out.cell (World.block_lt_of_cell? w _ hx116_3)).trans hx116_3; replace p116 := eq_true p116; replace q116 := eq_true q116; refine start_ (n := 25) (S := fun w' => w'.cell? (ad113.add ((x5_1).toNat * 4)) = some (.int .i64 ((rd_T50 l0 x5_1).f0)) ∧ w'.cell? ⟨(ad113.add ((x5_1).toNat * 4)).block, (ad113.add ((x5_1).toNat * 4)).off + 1, none⟩ = some (.int .i64 ((rd_T50 l0 x5_1).f1)) ∧ w'.cell? ⟨(ad113.add ((x5_1).toNat * 4)).block, (ad113.add ((x5_1).toNat * 4)).off + 2, none⟩ = some (.int .i64 ((rd_T50 l0 x5_1).f2)) ∧ w'.cell? ⟨(ad113.add ((x5_1).toNat * 4)).block, (ad113.add ((x5_1).toNat * 4)).off + 3, none⟩ = some (.int .i64 ((rd_T50 l0 x5_1).f3)) ∧ w'.cell? (ad113.add (((ji8)).toNat * 4)) = some (.int .i64 ((rd_T50 l0 (ji8)).f0)) ∧ w'.cell? ⟨(ad113.add (((ji8)).toNat * 4)).block, (ad113.add (((ji8)).toNat * 4)).off + 1, none⟩ = some (.int .i64 ((rd_T50 l0 (ji8)).f1)) ∧ w'.cell? ⟨(ad113.add (((ji8)).toNat * 4)).block, (ad113.add (((ji8)).toNat * 4)).off + 2, none⟩ = some (.int .i64 ((rd_T50 l0 (ji8)).f2)) ∧ w'.cell? ⟨(ad113.add (((ji8)).toNat * 4)).block, (ad113.add (((ji8)).toNat * 4)).off + 3, none⟩ = some (.int .i64 ((rd_T50 l0 (ji8)).f3)) ∧ w'.cell? (ad113.add ((x5_1).toNat * 4)) = some (.int .i64 ((rd_T50 l0 x5_1).f0)) ∧ w'.cell? ⟨(ad113.add ((x5_1).toNat * 4)).block, (ad113.add ((x5_1).toNat * 4)).off + 1, none⟩ = some (.int .i64 ((rd_T50 l0 x5_1).f1)) ∧ w'.cell? ⟨(ad113.add ((x5_1).toNat * 4)).block, (ad113.add ((x5_1).toNat * 4)).off + 2, none⟩ = some (.int .i64 ((rd_T50 l0 x5_1).f2)) ∧ w'.cell? ⟨(ad113.add ((x5_1).toNat * 4)).block, (ad113.add ((x5_1).toNat * 4)).off + 3, none⟩ = some (.int .i64 ((rd_T50 l0 x5_1).f3))) (ds := []) q3M0 (by kernel_rfl) rfl rfl ⟨((HB.out.cell (World.block_lt_of_cell? w _ hw113_0)).trans hw113_0), ((HB.out.cell (World.block_lt_of_cell? w _ hw113_1)).trans hw113_1), ((HB.out.cell (World.block_lt_of_cell? w _ hw113_2)).trans hw113_2), ((HB.out.cell (World.block_lt_of_cell? w _ hw113_3)).trans hw113_3), ((HB.out.cell (World.block_lt_of_cell? w _ hw115_0)).trans hw115_0), ((HB.out.cell (World.block_lt_of_cell? w _ hw115_1)).trans hw115_1), ((HB.out.cell (World.block_lt_of_cell? w _ hw115_2)).trans hw115_2), ((HB.out.cell (World.block_lt_of_cell? w _ hw115_3)).trans hw115_3), ((HB.out.cell (World.block_lt_of_cell? w _ hw116_0)).trans hw116_0), ((HB.out.cell (World.block_lt_of_cell? w _ hw116_1)).trans hw116_1), ((HB.out.cell (World.block_lt_of_cell? w _ hw116_2)).trans hw116_2), ((HB.out.cell (World.block_lt_of_cell? w _ hw116_3)).trans hw116_3)⟩ (fun hHeld => ?_); refine with_tabW spec_SpansOk.tab4 spec_SpansOk.bits4 (fun HT_ HW_ => ?_)
          generalize wr.drew = w12 at HB hx113_0 hx113_1 hx113_2 hx113_3 hx115_0 hx115_1 hx115_2 hx115_3 hx116_0 hx116_1 hx116_2 hx116_3 hHeld ⊢; refine pure_ (i := 0) (N := some 12) (v := ?_) (a' := ?_) q3M1 rfl rfl (any_of HT_.out (by kernel_rfl)) (fun _ _ _ => id) (Or.inl ⟨by rfl, ?_⟩) ?_ ?_; rotate_left; intro w'; go_simp; (with_reducible rfl); rotate_left; simp only [Act.put, q3s, q3z, q3n, i64_w, i32_w]; rfl; refine pure_ (i := 1) (N := some 13) (v := ?_) (a' := ?_) q3M2 rfl rfl (any_of HT_.out (by kernel_rfl)) (fun _ _ _ => id) (Or.inl ⟨by rfl, ?_⟩) ?_ ?_; rotate_left; intro w'; go_simp; (with_reducible rfl); rotate_left; simp only [Act.put, q3s, q3z, q3n, i64_w, i32_w]; rfl; refine pure_ (i := 2) (N := some 14) (v := ?_) (a' := ?_) q3M3 rfl rfl (any_of HT_.out (by kernel_rfl)) (fun _ _ _ => id) (Or.inl ⟨by rfl, ?_⟩) ?_ ?_; rotate_left; intro w'; go_simp; (with_reducible rfl); rotate_left; simp only [Act.put, q3s, q3z, q3n, i64_w, i32_w]; rfl; refine pure_ (i := 4) (N := some 16) (v := ?_) (a' := ?_) q3M4 rfl rfl (any_of HT_.out (by kernel_rfl)) (fun _ _ _ => id) (Or.inl ⟨by rfl, ?_⟩) ?_ ?_; rotate_left; intro w'; go_simp; (with_reducible rfl); rotate_left; simp only [Act.put, q3s, q3z, q3n, i64_w, i32_w]; rfl; refine take_ (i := 3) (N := some 15) (v := ?_) (a' := ?_) q3M5 rfl rfl (take_ofW HT_.out HW_.out (by kernel_rfl)) (fun _ _ _ => id) (Or.inl ⟨by rfl, ?_⟩) hHeld ?_ ?_; rotate_left
          ·
           rintro w' ⟨s0, s1, s2, s3, s4, s5, s6, s7, s8, s9, s10, s11⟩; go_simp; with_reducible rfl
          rotate_left
          · simp only [Act.put, q3s, q3z, q3n, i64_w, i32_w]; rfl
          refine one_ (i := 5) (N := some 17) q3M6 rfl rfl (one_of HT_.out (by kernel_rfl)) (by decide) (fun K hK => ?_); refine goes_ Tryz.func96 (by kernel_rfl) rfl #[.agg #[.int .i64 ((rd_T50 l0 x5_1).f0), .int .i64 ((rd_T50 l0 x5_1).f1), .int .i64 ((rd_T50 l0 x5_1).f2), .int .i64 ((rd_T50 l0 x5_1).f3)], .int .i64 a1] (by rfl) rfl rfl zC ?_; with_reducible refine (spec_l6Ok.calls ((rd_T50 l0 x5_1).f0) ((rd_T50 l0 x5_1).f1) ((rd_T50 l0 x5_1).f2) ((rd_T50 l0 x5_1).f3) a1 true _ A5.out).mono ?_
          rintro e w13 ⟨rfl, hb⟩; refine ⟨_, rfl, ?_⟩; have n0_ := az (below_step (zA HB.out) hb); clear HB; have HB := n0_; clear n0_; (try clear hb); (try clear hb2); (try clear hk); (try clear hi); refine hK.out _ _ ⟨((HB.out.cell (World.block_lt_of_cell? w _ hw113_0)).trans hw113_0), ((HB.out.cell (World.block_lt_of_cell? w _ hw113_1)).trans hw113_1), ((HB.out.cell (World.block_lt_of_cell? w _ hw113_2)).trans hw113_2), ((HB.out.cell (World.block_lt_of_cell? w _ hw113_3)).trans hw113_3), ((HB.out.cell (World.block_lt_of_cell? w _ hw115_0)).trans hw115_0), ((HB.out.cell (World.block_lt_of_cell? w _ hw115_1)).trans hw115_1), ((HB.out.cell (World.block_lt_of_cell? w _ hw115_2)).trans hw115_2), ((HB.out.cell (World.block_lt_of_cell? w _ hw115_3)).trans hw115_3), ((HB.out.cell (World.block_lt_of_cell? w _ hw116_0)).trans hw116_0), ((HB.out.cell (World.block_lt_of_cell? w _ hw116_1)).trans hw116_1), ((HB.out.cell (World.block_lt_of_cell? w _ hw116_2)).trans hw116_2), ((HB.out.cell (World.block_lt_of_cell? w _ hw116_3)).trans hw116_3)⟩ (fun hHeld => ?_); clear hK K; refine norm_ (a' := ?_) ?_ ?_; rotate_left
          ·
           show Act.put _ (some 17) _ = _; simp only [Act.put, q3s, q3z, q3n, i64_w, i32_w]; rfl
          refine pure_ (i := 6) (N := some 18) (v := ?_) (a' := ?_) q3M7 rfl rfl (any_of HT_.out (by kernel_rfl)) (fun _ _ _ => id) (Or.inl ⟨by rfl, ?_⟩) ?_ ?_; rotate_left; intro w'; go_simp; (with_reducible rfl); rotate_left; simp only [Act.put, q3s, q3z, q3n, i64_w, i32_w]; rfl; refine pure_ (i := 7) (N := some 19) (v := ?_) (a' := ?_) q3M8 rfl rfl (any_of HT_.out (by kernel_rfl)) (fun _ _ _ => id) (Or.inl ⟨by rfl, ?_⟩) ?_ ?_; rotate_left; intro w'; go_simp; (with_reducible rfl); rotate_left; simp only [Act.put, q3s, q3z, q3n, i64_w, i32_w]; rfl; refine pure_ (i := 8) (N := some 20) (v := ?_) (a' := ?_) q3M9 rfl rfl (any_of HT_.out (by kernel_rfl)) (fun _ _ _ => id) (Or.inl ⟨by rfl, ?_⟩) ?_ ?_; rotate_left; intro w'; go_simp; (with_reducible rfl); rotate_left; simp only [Act.put, q3s, q3z, q3n, i64_w, i32_w]; rfl; refine pure_ (i := 9) (N := some 21) (v := ?_) (a' := ?_) q3M10 rfl rfl (any_of HT_.out (by kernel_rfl)) (fun _ _ _ => id) (Or.inl ⟨by rfl, ?_⟩) ?_ ?_; rotate_left; intro w'; go_simp; (with_reducible rfl); rotate_left; simp only [Act.put, q3s, q3z, q3n, i64_w, i32_w]; rfl; refine pure_ (i := 10) (N := some 22) (v := ?_) (a' := ?_) q3M11 rfl rfl (any_of HT_.out (by kernel_rfl)) (fun _ _ _ => id) (Or.inl ⟨by rfl, ?_⟩) ?_ ?_; rotate_left; intro w'; go_simp; (with_reducible rfl); rotate_left; simp only [Act.put, q3s, q3z, q3n, i64_w, i32_w]; rfl; refine pure_ (i := 11) (N := some 23) (v := ?_) (a' := ?_) q3M12 rfl rfl (any_of HT_.out (by kernel_rfl)) (fun _ _ _ => id) (Or.inl ⟨by rfl, ?_⟩) ?_ ?_; rotate_left; intro w'; go_simp; (with_reducible rfl); rotate_left; simp only [Act.put, q3s, q3z, q3n, i64_w, i32_w]; rfl; refine pure_ (i := 12) (N := some 24) (v := ?_) (a' := ?_) q3M13 rfl rfl (any_of HT_.out (by kernel_rfl)) (fun _ _ _ => id) (Or.inl ⟨by rfl, ?_⟩) ?_ ?_; rotate_left; intro w'; go_simp; (with_reducible rfl); rotate_left; simp only [Act.put, q3s, q3z, q3n, i64_w, i32_w]; rfl; refine pure_ (i := 13) (N := some 25) (v := ?_) (a' := ?_) q3M14 rfl rfl (any_of HT_.out (by kernel_rfl)) (fun _ _ _ => id) (Or.inl ⟨by rfl, ?_⟩) ?_ ?_; rotate_left; intro w'; go_simp; (with_reducible rfl); rotate_left; simp only [Act.put, q3s, q3z, q3n, i64_w, i32_w]; rfl; refine pure_ (i := 14) (N := some 26) (v := ?_) (a' := ?_) q3M15 rfl rfl (any_of HT_.out (by kernel_rfl)) (fun _ _ _ => id) (Or.inl ⟨by rfl, ?_⟩) ?_ ?_; rotate_left; intro w'; go_simp; (with_reducible rfl); rotate_left; simp only [Act.put, q3s, q3z, q3n, i64_w, i32_w]; rfl; refine pure_ (i := 15) (N := some 27) (v := ?_) (a' := ?_) q3M16 rfl rfl (any_of HT_.out (by kernel_rfl)) (fun _ _ _ => id) (Or.inl ⟨by rfl, ?_⟩) ?_ ?_; rotate_left; intro w'; go_simp; (with_reducible rfl); rotate_left; simp only [Act.put, q3s, q3z, q3n, i64_w, i32_w]; rfl; refine pure_ (i := 17) (N := some 29) (v := ?_) (a' := ?_) q3M17 rfl rfl (any_of HT_.out (by kernel_rfl)) (fun _ _ _ => id) (Or.inl ⟨by rfl, ?_⟩) ?_ ?_; rotate_left; intro w'; go_simp; (with_reducible rfl); rotate_left; simp only [Act.put, q3s, q3z, q3n, i64_w, i32_w]; rfl; refine pure_ (i := 18) (N := some 30) (v := ?_) (a' := ?_) q3M18 rfl rfl (any_of HT_.out (by kernel_rfl)) (fun _ _ _ => id) (Or.inl ⟨by rfl, ?_⟩) ?_ ?_; rotate_left; intro w'; go_simp; (with_reducible rfl); rotate_left; simp only [Act.put, q3s, q3z, q3n, i64_w, i32_w]; rfl; refine pure_ (i := 19) (N := some 31) (v := ?_) (a' := ?_) q3M19 rfl rfl (any_of HT_.out (by kernel_rfl)) (fun _ _ _ => id) (Or.inl ⟨by rfl, ?_⟩) ?_ ?_; rotate_left; intro w'; go_simp; (with_reducible rfl); rotate_left; simp only [Act.put, q3s, q3z, q3n, i64_w, i32_w]; rfl; refine pure_ (i := 20) (N := some 32) (v := ?_) (a' := ?_) q3M20 rfl rfl (any_of HT_.out (by kernel_rfl)) (fun _ _ _ => id) (Or.inl ⟨by rfl, ?_⟩) ?_ ?_; rotate_left; intro w'; go_simp; (with_reducible rfl); rotate_left; simp only [Act.put, q3s, q3z, q3n, i64_w, i32_w]; rfl; refine take_ (i := 16) (N := some 28) (v := ?_) (a' := ?_) q3M21 rfl rfl (take_ofW HT_.out HW_.out (by kernel_rfl)) (fun _ _ _ => id) (Or.inl ⟨by rfl, ?_⟩) hHeld ?_ ?_
          rotate_left
          ·
           rintro w' ⟨s0, s1, s2, s3, s4, s5, s6, s7, s8, s9, s10, s11⟩; go_simp; with_reducible rfl
          rotate_left
          · simp only [Act.put, q3s, q3z, q3n, i64_w, i32_w]; rfl
          refine take_ (i := 21) (N := some 33) (v := ?_) (a' := ?_) q3M22 rfl rfl (take_ofW HT_.out HW_.out (by kernel_rfl)) (fun _ _ _ => id) (Or.inl ⟨by rfl, ?_⟩) hHeld ?_ ?_; rotate_left
          ·
           rintro w' ⟨s0, s1, s2, s3, s4, s5, s6, s7, s8, s9, s10, s11⟩; go_simp; with_reducible rfl
          rotate_left
          · simp only [Act.put, q3s, q3z, q3n, i64_w, i32_w]; rfl
          refine pure_ (i := 22) (N := some 34) (v := ?_) (a' := ?_) q3M23 rfl rfl (any_of HT_.out (by kernel_rfl)) (fun _ _ _ => id) (Or.inl ⟨by rfl, ?_⟩) ?_ ?_; rotate_left; intro w'; go_simp; (with_reducible rfl); rotate_left; simp only [Act.put, q3s, q3z, q3n, i64_w, i32_w]; rfl; refine pure_ (i := 23) (N := some 35) (v := ?_) (a' := ?_) q3M24 rfl rfl (any_of HT_.out (by kernel_rfl)) (fun _ _ _ => id) (Or.inl ⟨by rfl, ?_⟩) ?_ ?_; rotate_left; intro w'; go_simp; (with_reducible rfl); rotate_left; simp only [Act.put, q3s, q3z, q3n, i64_w, i32_w]; rfl; refine pure_ (i := 24) (N := some 36) (v := ?_) (a' := ?_) q3M25 rfl rfl (any_of HT_.out (by kernel_rfl)) (fun _ _ _ => id) (Or.inl ⟨by rfl, ?_⟩) ?_ ?_; rotate_left; intro w'; go_simp; (with_reducible rfl); rotate_left; simp only [Act.put, q3s, q3z, q3n, i64_w, i32_w]; rfl; refine done_ (done_of HT_.out (by kernel_rfl)) ?_; (try go_wp2); go_ret; exact ⟨by first | rfl | (simp [errW_none, errW_some] <;> rfl) | (simp only [← hji8]; first | rfl | (simp [errW_none, errW_some] <;> rfl)) | (simp [*, errW_none, errW_some] <;> rfl), zA HB.out⟩
         ·
          rw [if_neg c11] at H; have c11b0 : decide (((rd_T50 l0 x5_1).f0) < ((rd_T50 l0 (ji8)).f1)) = false := decide_eq_false c11; clear c11; have H' := az H; clear H; (try go_wp2); have n0_ := az (below_drew1 HB.out); clear HB; have HB := n0_; clear n0_; have p113 : 0 ≤ (x5_1 : Int) := of_decide_eq_true (by assumption); have q113 : x5_1 < (l0.length : Int) := of_decide_eq_true (by assumption); obtain ⟨ad113, e113, hx113_0, hx113_1, hx113_2, hx113_3⟩ := at_T50 HR0.out x5_1 p113 q113; have hw113_3 := hx113_3; have hw113_2 := hx113_2; have hw113_1 := hx113_1; have hw113_0 := hx113_0
          cases e113
          replace hx113_0 := (HB.out.cell (World.block_lt_of_cell? w _ hx113_0)).trans hx113_0; replace hx113_1 := (HB.out.cell (World.block_lt_of_cell? w _ hx113_1)).trans hx113_1; replace hx113_2 := (HB.out.cell (World.block_lt_of_cell? w _ hx113_2)).trans hx113_2; replace hx113_3 := (HB.out.cell (World.block_lt_of_cell? w _ hx113_3)).trans hx113_3; replace p113 := eq_true p113; replace q113 := eq_true q113; have p115 : 0 ≤ ((ji8) : Int) := of_decide_eq_true (by assumption); have q115 : (ji8) < (l0.length : Int) := of_decide_eq_true (by assumption); obtain ⟨ad115, e115, hx115_0, hx115_1, hx115_2, hx115_3⟩ := at_T50 HR0.out (ji8) p115 q115; have hw115_3 := hx115_3; have hw115_2 := hx115_2; have hw115_1 := hx115_1; have hw115_0 := hx115_0; obtain rfl : ad113 = ad115 := (by injection e115); replace hx115_0 := (HB.out.cell (World.block_lt_of_cell? w _ hx115_0)).trans hx115_0; replace hx115_1 := (HB.out.cell (World.block_lt_of_cell? w _ hx115_1)).trans hx115_1; replace hx115_2 := (HB.out.cell (World.block_lt_of_cell? w _ hx115_2)).trans hx115_2; replace hx115_3 := (HB.out.cell (World.block_lt_of_cell? w _ hx115_3)).trans hx115_3; replace p115 := eq_true p115; replace q115 := eq_true q115; have p116 : 0 ≤ (x5_1 : Int) := of_decide_eq_true (by assumption); have q116 : x5_1 < (l0.length : Int) := of_decide_eq_true (by assumption); obtain ⟨ad116, e116, hx116_0, hx116_1, hx116_2, hx116_3⟩ := at_T50 HR0.out x5_1 p116 q116; have hw116_3 := hx116_3; have hw116_2 := hx116_2; have hw116_1 := hx116_1; have hw116_0 := hx116_0; obtain rfl : ad113 = ad116 := (by injection e116); replace hx116_0 := (HB.out.cell (World.block_lt_of_cell? w _ hx116_0)).trans hx116_0; replace hx116_1 := (HB.out.cell (World.block_lt_of_cell? w _ hx116_1)).trans hx116_1; replace hx116_2 := (HB.out.cell (World.block_lt_of_cell? w _ hx116_2)).trans hx116_2; replace hx116_3 := (HB.out.cell (World.block_lt_of_cell? w _ hx116_3)).trans hx116_3; replace p116 := eq_true p116; replace q116 := eq_true q116; refine start_ (n := 25) (S := fun w' => w'.cell? (ad113.add ((x5_1).toNat * 4)) = some (.int .i64 ((rd_T50 l0 x5_1).f0)) ∧ w'.cell? ⟨(ad113.add ((x5_1).toNat * 4)).block, (ad113.add ((x5_1).toNat * 4)).off + 1, none⟩ = some (.int .i64 ((rd_T50 l0 x5_1).f1)) ∧ w'.cell? ⟨(ad113.add ((x5_1).toNat * 4)).block, (ad113.add ((x5_1).toNat * 4)).off + 2, none⟩ = some (.int .i64 ((rd_T50 l0 x5_1).f2)) ∧ w'.cell? ⟨(ad113.add ((x5_1).toNat * 4)).block, (ad113.add ((x5_1).toNat * 4)).off + 3, none⟩ = some (.int .i64 ((rd_T50 l0 x5_1).f3)) ∧ w'.cell? (ad113.add (((ji8)).toNat * 4)) = some (.int .i64 ((rd_T50 l0 (ji8)).f0)) ∧ w'.cell? ⟨(ad113.add (((ji8)).toNat * 4)).block, (ad113.add (((ji8)).toNat * 4)).off + 1, none⟩ = some (.int .i64 ((rd_T50 l0 (ji8)).f1)) ∧ w'.cell? ⟨(ad113.add (((ji8)).toNat * 4)).block, (ad113.add (((ji8)).toNat * 4)).off + 2, none⟩ = some (.int .i64 ((rd_T50 l0 (ji8)).f2)) ∧ w'.cell? ⟨(ad113.add (((ji8)).toNat * 4)).block, (ad113.add (((ji8)).toNat * 4)).off + 3, none⟩ = some (.int .i64 ((rd_T50 l0 (ji8)).f3)) ∧ w'.cell? (ad113.add ((x5_1).toNat * 4)) = some (.int .i64 ((rd_T50 l0 x5_1).f0)) ∧ w'.cell? ⟨(ad113.add ((x5_1).toNat * 4)).block, (ad113.add ((x5_1).toNat * 4)).off + 1, none⟩ = some (.int .i64 ((rd_T50 l0 x5_1).f1)) ∧ w'.cell? ⟨(ad113.add ((x5_1).toNat * 4)).block, (ad113.add ((x5_1).toNat * 4)).off + 2, none⟩ = some (.int .i64 ((rd_T50 l0 x5_1).f2)) ∧ w'.cell? ⟨(ad113.add ((x5_1).toNat * 4)).block, (ad113.add ((x5_1).toNat * 4)).off + 3, none⟩ = some (.int .i64 ((rd_T50 l0 x5_1).f3))) (ds := []) q3M0 (by kernel_rfl) rfl rfl ⟨((HB.out.cell (World.block_lt_of_cell? w _ hw113_0)).trans hw113_0), ((HB.out.cell (World.block_lt_of_cell? w _ hw113_1)).trans hw113_1), ((HB.out.cell (World.block_lt_of_cell? w _ hw113_2)).trans hw113_2), ((HB.out.cell (World.block_lt_of_cell? w _ hw113_3)).trans hw113_3), ((HB.out.cell (World.block_lt_of_cell? w _ hw115_0)).trans hw115_0), ((HB.out.cell (World.block_lt_of_cell? w _ hw115_1)).trans hw115_1), ((HB.out.cell (World.block_lt_of_cell? w _ hw115_2)).trans hw115_2), ((HB.out.cell (World.block_lt_of_cell? w _ hw115_3)).trans hw115_3), ((HB.out.cell (World.block_lt_of_cell? w _ hw116_0)).trans hw116_0), ((HB.out.cell (World.block_lt_of_cell? w _ hw116_1)).trans hw116_1), ((HB.out.cell (World.block_lt_of_cell? w _ hw116_2)).trans hw116_2), ((HB.out.cell (World.block_lt_of_cell? w _ hw116_3)).trans hw116_3)⟩ (fun hHeld => ?_); refine with_tabW spec_SpansOk.tab4 spec_SpansOk.bits4 (fun HT_ HW_ => ?_)
          generalize wr.drew = w14 at HB hx113_0 hx113_1 hx113_2 hx113_3 hx115_0 hx115_1 hx115_2 hx115_3 hx116_0 hx116_1 hx116_2 hx116_3 hHeld ⊢; refine pure_ (i := 0) (N := some 12) (v := ?_) (a' := ?_) q3M1 rfl rfl (any_of HT_.out (by kernel_rfl)) (fun _ _ _ => id) (Or.inl ⟨by rfl, ?_⟩) ?_ ?_; rotate_left; intro w'; go_simp; (with_reducible rfl); rotate_left; simp only [Act.put, q3s, q3z, q3n, i64_w, i32_w]; rfl; refine pure_ (i := 1) (N := some 13) (v := ?_) (a' := ?_) q3M2 rfl rfl (any_of HT_.out (by kernel_rfl)) (fun _ _ _ => id) (Or.inl ⟨by rfl, ?_⟩) ?_ ?_; rotate_left; intro w'; go_simp; (with_reducible rfl); rotate_left; simp only [Act.put, q3s, q3z, q3n, i64_w, i32_w]; rfl; refine pure_ (i := 2) (N := some 14) (v := ?_) (a' := ?_) q3M3 rfl rfl (any_of HT_.out (by kernel_rfl)) (fun _ _ _ => id) (Or.inl ⟨by rfl, ?_⟩) ?_ ?_; rotate_left; intro w'; go_simp; (with_reducible rfl); rotate_left; simp only [Act.put, q3s, q3z, q3n, i64_w, i32_w]; rfl; refine pure_ (i := 4) (N := some 16) (v := ?_) (a' := ?_) q3M4 rfl rfl (any_of HT_.out (by kernel_rfl)) (fun _ _ _ => id) (Or.inl ⟨by rfl, ?_⟩) ?_ ?_; rotate_left; intro w'; go_simp; (with_reducible rfl); rotate_left; simp only [Act.put, q3s, q3z, q3n, i64_w, i32_w]; rfl; refine take_ (i := 3) (N := some 15) (v := ?_) (a' := ?_) q3M5 rfl rfl (take_ofW HT_.out HW_.out (by kernel_rfl)) (fun _ _ _ => id) (Or.inl ⟨by rfl, ?_⟩) hHeld ?_ ?_; rotate_left
          ·
           rintro w' ⟨s0, s1, s2, s3, s4, s5, s6, s7, s8, s9, s10, s11⟩; go_simp; with_reducible rfl
          rotate_left
          · simp only [Act.put, q3s, q3z, q3n, i64_w, i32_w]; rfl
          refine one_ (i := 5) (N := some 17) q3M6 rfl rfl (one_of HT_.out (by kernel_rfl)) (by decide) (fun K hK => ?_); refine goes_ Tryz.func96 (by kernel_rfl) rfl #[.agg #[.int .i64 ((rd_T50 l0 x5_1).f0), .int .i64 ((rd_T50 l0 x5_1).f1), .int .i64 ((rd_T50 l0 x5_1).f2), .int .i64 ((rd_T50 l0 x5_1).f3)], .int .i64 a1] (by rfl) rfl rfl zC ?_; with_reducible refine (spec_l6Ok.calls ((rd_T50 l0 x5_1).f0) ((rd_T50 l0 x5_1).f1) ((rd_T50 l0 x5_1).f2) ((rd_T50 l0 x5_1).f3) a1 true _ A5.out).mono ?_
          rintro e w15 ⟨rfl, hb⟩; refine ⟨_, rfl, ?_⟩; have n0_ := az (below_step (zA HB.out) hb); clear HB; have HB := n0_; clear n0_; (try clear hb); (try clear hb2); (try clear hk); (try clear hi); refine hK.out _ _ ⟨((HB.out.cell (World.block_lt_of_cell? w _ hw113_0)).trans hw113_0), ((HB.out.cell (World.block_lt_of_cell? w _ hw113_1)).trans hw113_1), ((HB.out.cell (World.block_lt_of_cell? w _ hw113_2)).trans hw113_2), ((HB.out.cell (World.block_lt_of_cell? w _ hw113_3)).trans hw113_3), ((HB.out.cell (World.block_lt_of_cell? w _ hw115_0)).trans hw115_0), ((HB.out.cell (World.block_lt_of_cell? w _ hw115_1)).trans hw115_1), ((HB.out.cell (World.block_lt_of_cell? w _ hw115_2)).trans hw115_2), ((HB.out.cell (World.block_lt_of_cell? w _ hw115_3)).trans hw115_3), ((HB.out.cell (World.block_lt_of_cell? w _ hw116_0)).trans hw116_0), ((HB.out.cell (World.block_lt_of_cell? w _ hw116_1)).trans hw116_1), ((HB.out.cell (World.block_lt_of_cell? w _ hw116_2)).trans hw116_2), ((HB.out.cell (World.block_lt_of_cell? w _ hw116_3)).trans hw116_3)⟩ (fun hHeld => ?_); clear hK K; refine norm_ (a' := ?_) ?_ ?_; rotate_left
          ·
           show Act.put _ (some 17) _ = _; simp only [Act.put, q3s, q3z, q3n, i64_w, i32_w]; rfl
          refine pure_ (i := 6) (N := some 18) (v := ?_) (a' := ?_) q3M7 rfl rfl (any_of HT_.out (by kernel_rfl)) (fun _ _ _ => id) (Or.inl ⟨by rfl, ?_⟩) ?_ ?_; rotate_left; intro w'; go_simp; (with_reducible rfl); rotate_left; simp only [Act.put, q3s, q3z, q3n, i64_w, i32_w]; rfl; refine pure_ (i := 7) (N := some 19) (v := ?_) (a' := ?_) q3M8 rfl rfl (any_of HT_.out (by kernel_rfl)) (fun _ _ _ => id) (Or.inl ⟨by rfl, ?_⟩) ?_ ?_; rotate_left; intro w'; go_simp; (with_reducible rfl); rotate_left; simp only [Act.put, q3s, q3z, q3n, i64_w, i32_w]; rfl; refine pure_ (i := 8) (N := some 20) (v := ?_) (a' := ?_) q3M9 rfl rfl (any_of HT_.out (by kernel_rfl)) (fun _ _ _ => id) (Or.inl ⟨by rfl, ?_⟩) ?_ ?_; rotate_left; intro w'; go_simp; (with_reducible rfl); rotate_left; simp only [Act.put, q3s, q3z, q3n, i64_w, i32_w]; rfl; refine pure_ (i := 9) (N := some 21) (v := ?_) (a' := ?_) q3M10 rfl rfl (any_of HT_.out (by kernel_rfl)) (fun _ _ _ => id) (Or.inl ⟨by rfl, ?_⟩) ?_ ?_; rotate_left; intro w'; go_simp; (with_reducible rfl); rotate_left; simp only [Act.put, q3s, q3z, q3n, i64_w, i32_w]; rfl; refine pure_ (i := 10) (N := some 22) (v := ?_) (a' := ?_) q3M11 rfl rfl (any_of HT_.out (by kernel_rfl)) (fun _ _ _ => id) (Or.inl ⟨by rfl, ?_⟩) ?_ ?_; rotate_left; intro w'; go_simp; (with_reducible rfl); rotate_left; simp only [Act.put, q3s, q3z, q3n, i64_w, i32_w]; rfl; refine pure_ (i := 11) (N := some 23) (v := ?_) (a' := ?_) q3M12 rfl rfl (any_of HT_.out (by kernel_rfl)) (fun _ _ _ => id) (Or.inl ⟨by rfl, ?_⟩) ?_ ?_; rotate_left; intro w'; go_simp; (with_reducible rfl); rotate_left; simp only [Act.put, q3s, q3z, q3n, i64_w, i32_w]; rfl; refine pure_ (i := 12) (N := some 24) (v := ?_) (a' := ?_) q3M13 rfl rfl (any_of HT_.out (by kernel_rfl)) (fun _ _ _ => id) (Or.inl ⟨by rfl, ?_⟩) ?_ ?_; rotate_left; intro w'; go_simp; (with_reducible rfl); rotate_left; simp only [Act.put, q3s, q3z, q3n, i64_w, i32_w]; rfl; refine pure_ (i := 13) (N := some 25) (v := ?_) (a' := ?_) q3M14 rfl rfl (any_of HT_.out (by kernel_rfl)) (fun _ _ _ => id) (Or.inl ⟨by rfl, ?_⟩) ?_ ?_; rotate_left; intro w'; go_simp; (with_reducible rfl); rotate_left; simp only [Act.put, q3s, q3z, q3n, i64_w, i32_w]; rfl; refine pure_ (i := 14) (N := some 26) (v := ?_) (a' := ?_) q3M15 rfl rfl (any_of HT_.out (by kernel_rfl)) (fun _ _ _ => id) (Or.inl ⟨by rfl, ?_⟩) ?_ ?_; rotate_left; intro w'; go_simp; (with_reducible rfl); rotate_left; simp only [Act.put, q3s, q3z, q3n, i64_w, i32_w]; rfl; refine pure_ (i := 15) (N := some 27) (v := ?_) (a' := ?_) q3M16 rfl rfl (any_of HT_.out (by kernel_rfl)) (fun _ _ _ => id) (Or.inl ⟨by rfl, ?_⟩) ?_ ?_; rotate_left; intro w'; go_simp; (with_reducible rfl); rotate_left; simp only [Act.put, q3s, q3z, q3n, i64_w, i32_w]; rfl; refine pure_ (i := 17) (N := some 29) (v := ?_) (a' := ?_) q3M17 rfl rfl (any_of HT_.out (by kernel_rfl)) (fun _ _ _ => id) (Or.inl ⟨by rfl, ?_⟩) ?_ ?_; rotate_left; intro w'; go_simp; (with_reducible rfl); rotate_left; simp only [Act.put, q3s, q3z, q3n, i64_w, i32_w]; rfl; refine pure_ (i := 18) (N := some 30) (v := ?_) (a' := ?_) q3M18 rfl rfl (any_of HT_.out (by kernel_rfl)) (fun _ _ _ => id) (Or.inl ⟨by rfl, ?_⟩) ?_ ?_; rotate_left; intro w'; go_simp; (with_reducible rfl); rotate_left; simp only [Act.put, q3s, q3z, q3n, i64_w, i32_w]; rfl; refine pure_ (i := 19) (N := some 31) (v := ?_) (a' := ?_) q3M19 rfl rfl (any_of HT_.out (by kernel_rfl)) (fun _ _ _ => id) (Or.inl ⟨by rfl, ?_⟩) ?_ ?_; rotate_left; intro w'; go_simp; (with_reducible rfl); rotate_left; simp only [Act.put, q3s, q3z, q3n, i64_w, i32_w]; rfl; refine pure_ (i := 20) (N := some 32) (v := ?_) (a' := ?_) q3M20 rfl rfl (any_of HT_.out (by kernel_rfl)) (fun _ _ _ => id) (Or.inl ⟨by rfl, ?_⟩) ?_ ?_; rotate_left; intro w'; go_simp; (with_reducible rfl); rotate_left; simp only [Act.put, q3s, q3z, q3n, i64_w, i32_w]; rfl; refine take_ (i := 16) (N := some 28) (v := ?_) (a' := ?_) q3M21 rfl rfl (take_ofW HT_.out HW_.out (by kernel_rfl)) (fun _ _ _ => id) (Or.inl ⟨by rfl, ?_⟩) hHeld ?_ ?_
          rotate_left
          ·
           rintro w' ⟨s0, s1, s2, s3, s4, s5, s6, s7, s8, s9, s10, s11⟩; go_simp; with_reducible rfl
          rotate_left
          · simp only [Act.put, q3s, q3z, q3n, i64_w, i32_w]; rfl
          refine take_ (i := 21) (N := some 33) (v := ?_) (a' := ?_) q3M22 rfl rfl (take_ofW HT_.out HW_.out (by kernel_rfl)) (fun _ _ _ => id) (Or.inl ⟨by rfl, ?_⟩) hHeld ?_ ?_; rotate_left
          ·
           rintro w' ⟨s0, s1, s2, s3, s4, s5, s6, s7, s8, s9, s10, s11⟩; go_simp; with_reducible rfl
          rotate_left
          · simp only [Act.put, q3s, q3z, q3n, i64_w, i32_w]; rfl
          refine pure_ (i := 22) (N := some 34) (v := ?_) (a' := ?_) q3M23 rfl rfl (any_of HT_.out (by kernel_rfl)) (fun _ _ _ => id) (Or.inl ⟨by rfl, ?_⟩) ?_ ?_; rotate_left; intro w'; go_simp; (with_reducible rfl); rotate_left; simp only [Act.put, q3s, q3z, q3n, i64_w, i32_w]; rfl; refine pure_ (i := 23) (N := some 35) (v := ?_) (a' := ?_) q3M24 rfl rfl (any_of HT_.out (by kernel_rfl)) (fun _ _ _ => id) (Or.inl ⟨by rfl, ?_⟩) ?_ ?_; rotate_left; intro w'; go_simp; (with_reducible rfl); rotate_left; simp only [Act.put, q3s, q3z, q3n, i64_w, i32_w]; rfl; refine pure_ (i := 24) (N := some 36) (v := ?_) (a' := ?_) q3M25 rfl rfl (any_of HT_.out (by kernel_rfl)) (fun _ _ _ => id) (Or.inl ⟨by rfl, ?_⟩) ?_ ?_; rotate_left; intro w'; go_simp; (with_reducible rfl); rotate_left; simp only [Act.put, q3s, q3z, q3n, i64_w, i32_w]; rfl; refine done_ (done_of HT_.out (by kernel_rfl)) ?_; (try go_wp2); go_roundg k1
          case measure => have := HK1.out; omega
          case rel => exact ⟨(wrap64 (x5_1 + 1)), zB, H', ⟨zE HK1.out⟩, ⟨zA HB.out⟩⟩
        ·
         rw [if_neg c10] at H; exact absurd H (by simp)
       ·
        rw [if_neg c9] at H; exact absurd H (by simp)
      ·
       rw [if_neg c7] at H; have c7b0 : decide (0 < x5_1) = false := decide_eq_false c7; clear c7; have H' := az H; clear H; (try go_wp2); have n0_ := az (below_drew1 HB.out); clear HB; have HB := n0_; clear n0_; have p113 : 0 ≤ (x5_1 : Int) := of_decide_eq_true (by assumption); have q113 : x5_1 < (l0.length : Int) := of_decide_eq_true (by assumption); obtain ⟨ad113, e113, hx113_0, hx113_1, hx113_2, hx113_3⟩ := at_T50 HR0.out x5_1 p113 q113; have hw113_3 := hx113_3; have hw113_2 := hx113_2; have hw113_1 := hx113_1; have hw113_0 := hx113_0
       cases e113
       replace hx113_0 := (HB.out.cell (World.block_lt_of_cell? w _ hx113_0)).trans hx113_0; replace hx113_1 := (HB.out.cell (World.block_lt_of_cell? w _ hx113_1)).trans hx113_1; replace hx113_2 := (HB.out.cell (World.block_lt_of_cell? w _ hx113_2)).trans hx113_2; replace hx113_3 := (HB.out.cell (World.block_lt_of_cell? w _ hx113_3)).trans hx113_3; replace p113 := eq_true p113; replace q113 := eq_true q113; refine start_ (n := 25) (S := fun w' => w'.cell? (ad113.add ((x5_1).toNat * 4)) = some (.int .i64 ((rd_T50 l0 x5_1).f0)) ∧ w'.cell? ⟨(ad113.add ((x5_1).toNat * 4)).block, (ad113.add ((x5_1).toNat * 4)).off + 1, none⟩ = some (.int .i64 ((rd_T50 l0 x5_1).f1)) ∧ w'.cell? ⟨(ad113.add ((x5_1).toNat * 4)).block, (ad113.add ((x5_1).toNat * 4)).off + 2, none⟩ = some (.int .i64 ((rd_T50 l0 x5_1).f2)) ∧ w'.cell? ⟨(ad113.add ((x5_1).toNat * 4)).block, (ad113.add ((x5_1).toNat * 4)).off + 3, none⟩ = some (.int .i64 ((rd_T50 l0 x5_1).f3))) (ds := []) q3M0 (by kernel_rfl) rfl rfl ⟨((HB.out.cell (World.block_lt_of_cell? w _ hw113_0)).trans hw113_0), ((HB.out.cell (World.block_lt_of_cell? w _ hw113_1)).trans hw113_1), ((HB.out.cell (World.block_lt_of_cell? w _ hw113_2)).trans hw113_2), ((HB.out.cell (World.block_lt_of_cell? w _ hw113_3)).trans hw113_3)⟩ (fun hHeld => ?_); refine with_tabW spec_SpansOk.tab4 spec_SpansOk.bits4 (fun HT_ HW_ => ?_); generalize wr.drew = w16 at HB hx113_0 hx113_1 hx113_2 hx113_3 hHeld ⊢; refine pure_ (i := 0) (N := some 12) (v := ?_) (a' := ?_) q3M1 rfl rfl (any_of HT_.out (by kernel_rfl)) (fun _ _ _ => id) (Or.inl ⟨by rfl, ?_⟩) ?_ ?_; rotate_left; intro w'; go_simp; (with_reducible rfl); rotate_left; simp only [Act.put, q3s, q3z, q3n, i64_w, i32_w]; rfl; refine pure_ (i := 1) (N := some 13) (v := ?_) (a' := ?_) q3M2 rfl rfl (any_of HT_.out (by kernel_rfl)) (fun _ _ _ => id) (Or.inl ⟨by rfl, ?_⟩) ?_ ?_; rotate_left; intro w'; go_simp; (with_reducible rfl); rotate_left; simp only [Act.put, q3s, q3z, q3n, i64_w, i32_w]; rfl; refine pure_ (i := 2) (N := some 14) (v := ?_) (a' := ?_) q3M3 rfl rfl (any_of HT_.out (by kernel_rfl)) (fun _ _ _ => id) (Or.inl ⟨by rfl, ?_⟩) ?_ ?_; rotate_left; intro w'; go_simp; (with_reducible rfl); rotate_left; simp only [Act.put, q3s, q3z, q3n, i64_w, i32_w]; rfl; refine pure_ (i := 4) (N := some 16) (v := ?_) (a' := ?_) q3M4 rfl rfl (any_of HT_.out (by kernel_rfl)) (fun _ _ _ => id) (Or.inl ⟨by rfl, ?_⟩) ?_ ?_; rotate_left; intro w'; go_simp; (with_reducible rfl); rotate_left; simp only [Act.put, q3s, q3z, q3n, i64_w, i32_w]; rfl; refine take_ (i := 3) (N := some 15) (v := ?_) (a' := ?_) q3M5 rfl rfl (take_ofW HT_.out HW_.out (by kernel_rfl)) (fun _ _ _ => id) (Or.inl ⟨by rfl, ?_⟩) hHeld ?_ ?_; rotate_left
       ·
        rintro w' ⟨s0, s1, s2, s3⟩; go_simp; with_reducible rfl
       rotate_left
       · simp only [Act.put, q3s, q3z, q3n, i64_w, i32_w]; rfl
       refine one_ (i := 5) (N := some 17) q3M6 rfl rfl (one_of HT_.out (by kernel_rfl)) (by decide) (fun K hK => ?_); refine goes_ Tryz.func96 (by kernel_rfl) rfl #[.agg #[.int .i64 ((rd_T50 l0 x5_1).f0), .int .i64 ((rd_T50 l0 x5_1).f1), .int .i64 ((rd_T50 l0 x5_1).f2), .int .i64 ((rd_T50 l0 x5_1).f3)], .int .i64 a1] (by rfl) rfl rfl zC ?_; with_reducible refine (spec_l6Ok.calls ((rd_T50 l0 x5_1).f0) ((rd_T50 l0 x5_1).f1) ((rd_T50 l0 x5_1).f2) ((rd_T50 l0 x5_1).f3) a1 true _ A5.out).mono ?_
       rintro e w17 ⟨rfl, hb⟩; refine ⟨_, rfl, ?_⟩; have n0_ := az (below_step (zA HB.out) hb); clear HB; have HB := n0_; clear n0_; (try clear hb); (try clear hb2); (try clear hk); (try clear hi); refine hK.out _ _ ⟨((HB.out.cell (World.block_lt_of_cell? w _ hw113_0)).trans hw113_0), ((HB.out.cell (World.block_lt_of_cell? w _ hw113_1)).trans hw113_1), ((HB.out.cell (World.block_lt_of_cell? w _ hw113_2)).trans hw113_2), ((HB.out.cell (World.block_lt_of_cell? w _ hw113_3)).trans hw113_3)⟩ (fun hHeld => ?_); clear hK K; refine norm_ (a' := ?_) ?_ ?_; rotate_left
       ·
        show Act.put _ (some 17) _ = _; simp only [Act.put, q3s, q3z, q3n, i64_w, i32_w]; rfl
       refine pure_ (i := 6) (N := some 18) (v := ?_) (a' := ?_) q3M7 rfl rfl (any_of HT_.out (by kernel_rfl)) (fun _ _ _ => id) (Or.inl ⟨by rfl, ?_⟩) ?_ ?_; rotate_left; intro w'; go_simp; (with_reducible rfl); rotate_left; simp only [Act.put, q3s, q3z, q3n, i64_w, i32_w]; rfl; refine pure_ (i := 7) (N := some 19) (v := ?_) (a' := ?_) q3M8 rfl rfl (any_of HT_.out (by kernel_rfl)) (fun _ _ _ => id) (Or.inl ⟨by rfl, ?_⟩) ?_ ?_; rotate_left; intro w'; go_simp; (with_reducible rfl); rotate_left; simp only [Act.put, q3s, q3z, q3n, i64_w, i32_w]; rfl; refine pure_ (i := 8) (N := some 20) (v := ?_) (a' := ?_) q3M9 rfl rfl (any_of HT_.out (by kernel_rfl)) (fun _ _ _ => id) (Or.inl ⟨by rfl, ?_⟩) ?_ ?_; rotate_left; intro w'; go_simp; (with_reducible rfl); rotate_left; simp only [Act.put, q3s, q3z, q3n, i64_w, i32_w]; rfl; refine pure_ (i := 9) (N := some 21) (v := ?_) (a' := ?_) q3M10 rfl rfl (any_of HT_.out (by kernel_rfl)) (fun _ _ _ => id) (Or.inl ⟨by rfl, ?_⟩) ?_ ?_; rotate_left; intro w'; go_simp; (with_reducible rfl); rotate_left; simp only [Act.put, q3s, q3z, q3n, i64_w, i32_w]; rfl; refine pure_ (i := 10) (N := some 22) (v := ?_) (a' := ?_) q3M11 rfl rfl (any_of HT_.out (by kernel_rfl)) (fun _ _ _ => id) (Or.inl ⟨by rfl, ?_⟩) ?_ ?_; rotate_left; intro w'; go_simp; (with_reducible rfl); rotate_left; simp only [Act.put, q3s, q3z, q3n, i64_w, i32_w]; rfl; refine pure_ (i := 11) (N := some 23) (v := undef) (a' := ?_) q3M12 rfl rfl (any_of HT_.out (by kernel_rfl)) (fun _ _ _ => id) (Or.inr ⟨by rfl, rfl⟩) ?_ ?_; rotate_left
       · simp only [Act.put, q3s, q3z, q3n, i64_w, i32_w]; rfl
       refine pure_ (i := 12) (N := some 24) (v := undef) (a' := ?_) q3M13 rfl rfl (any_of HT_.out (by kernel_rfl)) (fun _ _ _ => id) (Or.inr ⟨by rfl, rfl⟩) ?_ ?_; rotate_left
       · simp only [Act.put, q3s, q3z, q3n, i64_w, i32_w]; rfl
       refine pure_ (i := 13) (N := some 25) (v := undef) (a' := ?_) q3M14 rfl rfl (any_of HT_.out (by kernel_rfl)) (fun _ _ _ => id) (Or.inr ⟨by rfl, rfl⟩) ?_ ?_; rotate_left
       · simp only [Act.put, q3s, q3z, q3n, i64_w, i32_w]; rfl
       refine pure_ (i := 14) (N := some 26) (v := undef) (a' := ?_) q3M15 rfl rfl (any_of HT_.out (by kernel_rfl)) (fun _ _ _ => id) (Or.inr ⟨by rfl, rfl⟩) ?_ ?_; rotate_left
       · simp only [Act.put, q3s, q3z, q3n, i64_w, i32_w]; rfl
       refine pure_ (i := 15) (N := some 27) (v := undef) (a' := ?_) q3M16 rfl rfl (any_of HT_.out (by kernel_rfl)) (fun _ _ _ => id) (Or.inr ⟨by rfl, rfl⟩) ?_ ?_; rotate_left
       · simp only [Act.put, q3s, q3z, q3n, i64_w, i32_w]; rfl
       refine pure_ (i := 16) (N := some 28) (v := undef) (a' := ?_) q3M26 rfl rfl (any_of HT_.out (by kernel_rfl)) (fun _ _ _ => id) (Or.inr ⟨by rfl, rfl⟩) ?_ ?_; rotate_left
       · simp only [Act.put, q3s, q3z, q3n, i64_w, i32_w]; rfl
       refine pure_ (i := 17) (N := some 29) (v := undef) (a' := ?_) q3M27 rfl rfl (any_of HT_.out (by kernel_rfl)) (fun _ _ _ => id) (Or.inr ⟨by rfl, rfl⟩) ?_ ?_; rotate_left
       · simp only [Act.put, q3s, q3z, q3n, i64_w, i32_w]; rfl
       refine pure_ (i := 18) (N := some 30) (v := undef) (a' := ?_) q3M28 rfl rfl (any_of HT_.out (by kernel_rfl)) (fun _ _ _ => id) (Or.inr ⟨by rfl, rfl⟩) ?_ ?_; rotate_left
       · simp only [Act.put, q3s, q3z, q3n, i64_w, i32_w]; rfl
       refine pure_ (i := 19) (N := some 31) (v := undef) (a' := ?_) q3M29 rfl rfl (any_of HT_.out (by kernel_rfl)) (fun _ _ _ => id) (Or.inr ⟨by rfl, rfl⟩) ?_ ?_; rotate_left
       · simp only [Act.put, q3s, q3z, q3n, i64_w, i32_w]; rfl
       refine pure_ (i := 20) (N := some 32) (v := undef) (a' := ?_) q3M21 rfl rfl (any_of HT_.out (by kernel_rfl)) (fun _ _ _ => id) (Or.inr ⟨by rfl, rfl⟩) ?_ ?_; rotate_left
       · simp only [Act.put, q3s, q3z, q3n, i64_w, i32_w]; rfl
       refine pure_ (i := 21) (N := some 33) (v := undef) (a' := ?_) q3M22 rfl rfl (any_of HT_.out (by kernel_rfl)) (fun _ _ _ => id) (Or.inr ⟨by rfl, rfl⟩) ?_ ?_; rotate_left
       · simp only [Act.put, q3s, q3z, q3n, i64_w, i32_w]; rfl
       refine pure_ (i := 22) (N := some 34) (v := undef) (a' := ?_) q3M23 rfl rfl (any_of HT_.out (by kernel_rfl)) (fun _ _ _ => id) (Or.inr ⟨by rfl, rfl⟩) ?_ ?_; rotate_left
       · simp only [Act.put, q3s, q3z, q3n, i64_w, i32_w]; rfl
       refine pure_ (i := 23) (N := some 35) (v := ?_) (a' := ?_) q3M24 rfl rfl (any_of HT_.out (by kernel_rfl)) (fun _ _ _ => id) (Or.inl ⟨by rfl, ?_⟩) ?_ ?_; rotate_left; intro w'; go_simp; (with_reducible rfl); rotate_left; simp only [Act.put, q3s, q3z, q3n, i64_w, i32_w]; rfl; refine pure_ (i := 24) (N := some 36) (v := ?_) (a' := ?_) q3M25 rfl rfl (any_of HT_.out (by kernel_rfl)) (fun _ _ _ => id) (Or.inl ⟨by rfl, ?_⟩) ?_ ?_; rotate_left; intro w'; go_simp; (with_reducible rfl); rotate_left; simp only [Act.put, q3s, q3z, q3n, i64_w, i32_w]; rfl; refine done_ (done_of HT_.out (by kernel_rfl)) ?_; (try go_wp2); go_roundg k1
       case measure => have := HK1.out; omega
       case rel => exact ⟨(wrap64 (x5_1 + 1)), zB, H', ⟨zE HK1.out⟩, ⟨zA HB.out⟩⟩
     ·
      replace c6 := Bool.eq_false_iff.mpr c6; subst c6; have H1 : (some false) = some r := by rw [if_neg (show ¬ (false = true) by decide)] at H; exact H
      clear H; have H := H1; clear H1; obtain rfl := Option.some.inj H; (try go_wp2); have n0_ := az (below_drew1 HB.out); clear HB; have HB := n0_; clear n0_; have p113 : 0 ≤ (x5_1 : Int) := of_decide_eq_true (by assumption); have q113 : x5_1 < (l0.length : Int) := of_decide_eq_true (by assumption); obtain ⟨ad113, e113, hx113_0, hx113_1, hx113_2, hx113_3⟩ := at_T50 HR0.out x5_1 p113 q113; have hw113_3 := hx113_3; have hw113_2 := hx113_2; have hw113_1 := hx113_1; have hw113_0 := hx113_0
      cases e113
      replace hx113_0 := (HB.out.cell (World.block_lt_of_cell? w _ hx113_0)).trans hx113_0; replace hx113_1 := (HB.out.cell (World.block_lt_of_cell? w _ hx113_1)).trans hx113_1; replace hx113_2 := (HB.out.cell (World.block_lt_of_cell? w _ hx113_2)).trans hx113_2; replace hx113_3 := (HB.out.cell (World.block_lt_of_cell? w _ hx113_3)).trans hx113_3; replace p113 := eq_true p113; replace q113 := eq_true q113; refine start_ (n := 25) (S := fun w' => w'.cell? (ad113.add ((x5_1).toNat * 4)) = some (.int .i64 ((rd_T50 l0 x5_1).f0)) ∧ w'.cell? ⟨(ad113.add ((x5_1).toNat * 4)).block, (ad113.add ((x5_1).toNat * 4)).off + 1, none⟩ = some (.int .i64 ((rd_T50 l0 x5_1).f1)) ∧ w'.cell? ⟨(ad113.add ((x5_1).toNat * 4)).block, (ad113.add ((x5_1).toNat * 4)).off + 2, none⟩ = some (.int .i64 ((rd_T50 l0 x5_1).f2)) ∧ w'.cell? ⟨(ad113.add ((x5_1).toNat * 4)).block, (ad113.add ((x5_1).toNat * 4)).off + 3, none⟩ = some (.int .i64 ((rd_T50 l0 x5_1).f3))) (ds := []) q3M0 (by kernel_rfl) rfl rfl ⟨((HB.out.cell (World.block_lt_of_cell? w _ hw113_0)).trans hw113_0), ((HB.out.cell (World.block_lt_of_cell? w _ hw113_1)).trans hw113_1), ((HB.out.cell (World.block_lt_of_cell? w _ hw113_2)).trans hw113_2), ((HB.out.cell (World.block_lt_of_cell? w _ hw113_3)).trans hw113_3)⟩ (fun hHeld => ?_); refine with_tabW spec_SpansOk.tab4 spec_SpansOk.bits4 (fun HT_ HW_ => ?_); generalize wr.drew = w18 at HB hx113_0 hx113_1 hx113_2 hx113_3 hHeld ⊢; refine pure_ (i := 0) (N := some 12) (v := ?_) (a' := ?_) q3M1 rfl rfl (any_of HT_.out (by kernel_rfl)) (fun _ _ _ => id) (Or.inl ⟨by rfl, ?_⟩) ?_ ?_; rotate_left; intro w'; go_simp; (with_reducible rfl); rotate_left; simp only [Act.put, q3s, q3z, q3n, i64_w, i32_w]; rfl; refine pure_ (i := 1) (N := some 13) (v := ?_) (a' := ?_) q3M2 rfl rfl (any_of HT_.out (by kernel_rfl)) (fun _ _ _ => id) (Or.inl ⟨by rfl, ?_⟩) ?_ ?_; rotate_left; intro w'; go_simp; (with_reducible rfl); rotate_left; simp only [Act.put, q3s, q3z, q3n, i64_w, i32_w]; rfl; refine pure_ (i := 2) (N := some 14) (v := ?_) (a' := ?_) q3M3 rfl rfl (any_of HT_.out (by kernel_rfl)) (fun _ _ _ => id) (Or.inl ⟨by rfl, ?_⟩) ?_ ?_; rotate_left; intro w'; go_simp; (with_reducible rfl); rotate_left; simp only [Act.put, q3s, q3z, q3n, i64_w, i32_w]; rfl; refine pure_ (i := 4) (N := some 16) (v := ?_) (a' := ?_) q3M4 rfl rfl (any_of HT_.out (by kernel_rfl)) (fun _ _ _ => id) (Or.inl ⟨by rfl, ?_⟩) ?_ ?_; rotate_left; intro w'; go_simp; (with_reducible rfl); rotate_left; simp only [Act.put, q3s, q3z, q3n, i64_w, i32_w]; rfl; refine take_ (i := 3) (N := some 15) (v := ?_) (a' := ?_) q3M5 rfl rfl (take_ofW HT_.out HW_.out (by kernel_rfl)) (fun _ _ _ => id) (Or.inl ⟨by rfl, ?_⟩) hHeld ?_ ?_; rotate_left
      ·
       rintro w' ⟨s0, s1, s2, s3⟩; go_simp; with_reducible rfl
      rotate_left
      · simp only [Act.put, q3s, q3z, q3n, i64_w, i32_w]; rfl
      refine one_ (i := 5) (N := some 17) q3M6 rfl rfl (one_of HT_.out (by kernel_rfl)) (by decide) (fun K hK => ?_); refine goes_ Tryz.func96 (by kernel_rfl) rfl #[.agg #[.int .i64 ((rd_T50 l0 x5_1).f0), .int .i64 ((rd_T50 l0 x5_1).f1), .int .i64 ((rd_T50 l0 x5_1).f2), .int .i64 ((rd_T50 l0 x5_1).f3)], .int .i64 a1] (by rfl) rfl rfl zC ?_; with_reducible refine (spec_l6Ok.calls ((rd_T50 l0 x5_1).f0) ((rd_T50 l0 x5_1).f1) ((rd_T50 l0 x5_1).f2) ((rd_T50 l0 x5_1).f3) a1 false _ A5.out).mono ?_
      rintro e w19 ⟨rfl, hb⟩; refine ⟨_, rfl, ?_⟩; have n0_ := az (below_step (zA HB.out) hb); clear HB; have HB := n0_; clear n0_; (try clear hb); (try clear hb2); (try clear hk); (try clear hi); refine hK.out _ _ ⟨((HB.out.cell (World.block_lt_of_cell? w _ hw113_0)).trans hw113_0), ((HB.out.cell (World.block_lt_of_cell? w _ hw113_1)).trans hw113_1), ((HB.out.cell (World.block_lt_of_cell? w _ hw113_2)).trans hw113_2), ((HB.out.cell (World.block_lt_of_cell? w _ hw113_3)).trans hw113_3)⟩ (fun hHeld => ?_); clear hK K; refine norm_ (a' := ?_) ?_ ?_; rotate_left
      ·
       show Act.put _ (some 17) _ = _; simp only [Act.put, q3s, q3z, q3n, i64_w, i32_w]; rfl
      refine pure_ (i := 6) (N := some 18) (v := ?_) (a' := ?_) q3M7 rfl rfl (any_of HT_.out (by kernel_rfl)) (fun _ _ _ => id) (Or.inl ⟨by rfl, ?_⟩) ?_ ?_; rotate_left; intro w'; go_simp; (with_reducible rfl); rotate_left; simp only [Act.put, q3s, q3z, q3n, i64_w, i32_w]; rfl; refine pure_ (i := 7) (N := some 19) (v := ?_) (a' := ?_) q3M8 rfl rfl (any_of HT_.out (by kernel_rfl)) (fun _ _ _ => id) (Or.inl ⟨by rfl, ?_⟩) ?_ ?_; rotate_left; intro w'; go_simp; (with_reducible rfl); rotate_left; simp only [Act.put, q3s, q3z, q3n, i64_w, i32_w]; rfl; refine pure_ (i := 8) (N := some 20) (v := undef) (a' := ?_) q3M9 rfl rfl (any_of HT_.out (by kernel_rfl)) (fun _ _ _ => id) (Or.inr ⟨by rfl, rfl⟩) ?_ ?_; rotate_left
      · simp only [Act.put, q3s, q3z, q3n, i64_w, i32_w]; rfl
      refine pure_ (i := 9) (N := some 21) (v := undef) (a' := ?_) q3M10 rfl rfl (any_of HT_.out (by kernel_rfl)) (fun _ _ _ => id) (Or.inr ⟨by rfl, rfl⟩) ?_ ?_; rotate_left
      · simp only [Act.put, q3s, q3z, q3n, i64_w, i32_w]; rfl
      refine pure_ (i := 10) (N := some 22) (v := undef) (a' := ?_) q3M11 rfl rfl (any_of HT_.out (by kernel_rfl)) (fun _ _ _ => id) (Or.inr ⟨by rfl, rfl⟩) ?_ ?_; rotate_left
      · simp only [Act.put, q3s, q3z, q3n, i64_w, i32_w]; rfl
      refine pure_ (i := 11) (N := some 23) (v := undef) (a' := ?_) q3M12 rfl rfl (any_of HT_.out (by kernel_rfl)) (fun _ _ _ => id) (Or.inr ⟨by rfl, rfl⟩) ?_ ?_; rotate_left
      · simp only [Act.put, q3s, q3z, q3n, i64_w, i32_w]; rfl
      refine pure_ (i := 12) (N := some 24) (v := undef) (a' := ?_) q3M13 rfl rfl (any_of HT_.out (by kernel_rfl)) (fun _ _ _ => id) (Or.inr ⟨by rfl, rfl⟩) ?_ ?_; rotate_left
      · simp only [Act.put, q3s, q3z, q3n, i64_w, i32_w]; rfl
      refine pure_ (i := 13) (N := some 25) (v := undef) (a' := ?_) q3M14 rfl rfl (any_of HT_.out (by kernel_rfl)) (fun _ _ _ => id) (Or.inr ⟨by rfl, rfl⟩) ?_ ?_; rotate_left
      · simp only [Act.put, q3s, q3z, q3n, i64_w, i32_w]; rfl
      refine pure_ (i := 14) (N := some 26) (v := undef) (a' := ?_) q3M15 rfl rfl (any_of HT_.out (by kernel_rfl)) (fun _ _ _ => id) (Or.inr ⟨by rfl, rfl⟩) ?_ ?_; rotate_left
      · simp only [Act.put, q3s, q3z, q3n, i64_w, i32_w]; rfl
      refine pure_ (i := 15) (N := some 27) (v := undef) (a' := ?_) q3M16 rfl rfl (any_of HT_.out (by kernel_rfl)) (fun _ _ _ => id) (Or.inr ⟨by rfl, rfl⟩) ?_ ?_; rotate_left
      · simp only [Act.put, q3s, q3z, q3n, i64_w, i32_w]; rfl
      refine pure_ (i := 16) (N := some 28) (v := undef) (a' := ?_) q3M26 rfl rfl (any_of HT_.out (by kernel_rfl)) (fun _ _ _ => id) (Or.inr ⟨by rfl, rfl⟩) ?_ ?_; rotate_left
      · simp only [Act.put, q3s, q3z, q3n, i64_w, i32_w]; rfl
      refine pure_ (i := 17) (N := some 29) (v := undef) (a' := ?_) q3M27 rfl rfl (any_of HT_.out (by kernel_rfl)) (fun _ _ _ => id) (Or.inr ⟨by rfl, rfl⟩) ?_ ?_; rotate_left
      · simp only [Act.put, q3s, q3z, q3n, i64_w, i32_w]; rfl
      refine pure_ (i := 18) (N := some 30) (v := undef) (a' := ?_) q3M28 rfl rfl (any_of HT_.out (by kernel_rfl)) (fun _ _ _ => id) (Or.inr ⟨by rfl, rfl⟩) ?_ ?_; rotate_left
      · simp only [Act.put, q3s, q3z, q3n, i64_w, i32_w]; rfl
      refine pure_ (i := 19) (N := some 31) (v := undef) (a' := ?_) q3M29 rfl rfl (any_of HT_.out (by kernel_rfl)) (fun _ _ _ => id) (Or.inr ⟨by rfl, rfl⟩) ?_ ?_; rotate_left
      · simp only [Act.put, q3s, q3z, q3n, i64_w, i32_w]; rfl
      refine pure_ (i := 20) (N := some 32) (v := undef) (a' := ?_) q3M21 rfl rfl (any_of HT_.out (by kernel_rfl)) (fun _ _ _ => id) (Or.inr ⟨by rfl, rfl⟩) ?_ ?_; rotate_left
      · simp only [Act.put, q3s, q3z, q3n, i64_w, i32_w]; rfl
      refine pure_ (i := 21) (N := some 33) (v := undef) (a' := ?_) q3M22 rfl rfl (any_of HT_.out (by kernel_rfl)) (fun _ _ _ => id) (Or.inr ⟨by rfl, rfl⟩) ?_ ?_; rotate_left
      · simp only [Act.put, q3s, q3z, q3n, i64_w, i32_w]; rfl
      refine pure_ (i := 22) (N := some 34) (v := undef) (a' := ?_) q3M23 rfl rfl (any_of HT_.out (by kernel_rfl)) (fun _ _ _ => id) (Or.inr ⟨by rfl, rfl⟩) ?_ ?_; rotate_left
      · simp only [Act.put, q3s, q3z, q3n, i64_w, i32_w]; rfl
      refine pure_ (i := 23) (N := some 35) (v := undef) (a' := ?_) q3M24 rfl rfl (any_of HT_.out (by kernel_rfl)) (fun _ _ _ => id) (Or.inr ⟨by rfl, rfl⟩) ?_ ?_; rotate_left
      · simp only [Act.put, q3s, q3z, q3n, i64_w, i32_w]; rfl
      refine pure_ (i := 24) (N := some 36) (v := ?_) (a' := ?_) q3M25 rfl rfl (any_of HT_.out (by kernel_rfl)) (fun _ _ _ => id) (Or.inl ⟨by rfl, ?_⟩) ?_ ?_; rotate_left; intro w'; go_simp; (with_reducible rfl); rotate_left; simp only [Act.put, q3s, q3z, q3n, i64_w, i32_w]; rfl; refine done_ (done_of HT_.out (by kernel_rfl)) ?_; (try go_wp2); go_ret; exact ⟨zG, zA HB.out⟩
    ·
     rw [if_neg c4] at H; exact absurd H (by simp)
   ·
    rw [if_neg c3] at H; have c3b0 : decide (x5_1 < (l0.length : Int)) = false := decide_eq_false c3; clear c3; by_cases c20 : (l0.length : Int) ≤ 12
    ·
     rw [if_pos c20] at H; have c20b0 : decide ((l0.length : Int) ≤ 12) = true := decide_eq_true c20; have c20b1 : decide (l0.length ≤ 12) = true := decide_eq_true (by omega); clear c20; replace H := Option.bind_eq_some_iff.mp H; obtain ⟨t117, A210, H⟩ := H; replace H : (some t117) = some r := H; have A21 := az A210; clear A210; obtain rfl := Option.some.inj H; go_wp2_with (first | (go_at_call 36; (with_reducible refine (spec_l1In.calls a1 0 80 t117 _ A21.out).mono ?_); rintro e w' ⟨rfl, ⟨nd, rfl⟩⟩)); go_ret; exact ⟨zG, zA HB.out⟩
    ·
     rw [if_neg c20] at H; have c20b0 : decide ((l0.length : Int) ≤ 12) = false := decide_eq_false c20; have c20b1 : decide (l0.length ≤ 12) = false := decide_eq_false (by omega); clear c20; obtain rfl := Option.some.inj H; go_wp2; go_ret; exact ⟨zG, zA HB.out⟩
def spec_l7All.f (k : Nat) (l0 : List Int) (l1 : List (S50)) (a2 : Int) : Option (Bool) := (spec_l1Ok.f k l0).bind fun t118 => (if t118 = true then ((spec_SpansOk.f k l1 (l0.length : Int)).bind fun t119 => (if t119 = true then ((spec_l1In.f a2 0 20000).bind fun t120 => (some t120)) else (some false))) else (some false))
theorem spec_l7All.mono : ∀ a0 a1 a2 k, LeO (spec_l7All.f k a0 a1 a2) (spec_l7All.f (k + 1) a0 a1 a2) := by
 intro a0 a1 a2 k; unfold spec_l7All.f
 repeat' first
   | (with_reducible exact spec_SpansOk.mono _ _ _)
   | (with_reducible exact spec_l1Ok.mono _ _)
   | (with_reducible exact LeO.refl _)
   | (with_reducible exact LeO.none _)
   | (with_reducible refine LeO.ite ?_ ?_)
   | (with_reducible refine LeO.bind ?_ (fun _ => ?_))
   | exact spec_SpansOk.mono _ _ _
   | exact spec_l1Ok.mono _ _
   | exact LeO.none _
   | refine LeO.ite ?_ ?_
   | refine LeO.bind ?_ (fun _ => ?_)
theorem spec_l7All.calls (k : Nat) (A0 : Option Addr) (c0 : Nat) (l0 : List Int) (A1 : Option Addr) (c1 : Nat) (l1 : List (S50)) (a2 : Int) (r : Bool) (w : World) (hr0 : Kd.C (Kd.int .i64) w A0 l0.length l0) (hc0 : l0.length ≤ c0) (hr1 : Kd.C k50 w A1 l1.length l1) (hc1 : l1.length ≤ c1) (h : spec_l7All.f k l0 l1 a2 = some r) :
  Calls Tryz.prog 35 #[.slice A0 l0.length c0, .slice A1 l1.length c1, .int .i64 a2] w fun e w' => e = .returned (.bool r) ∧ Below w.heap.size w w' := by
 have HR0 := az hr0; have HC0 := az hc0; clear hr0 hc0; have HR1 := az hr1; have HC1 := az hc1; clear hr1 hc1; have HB := az (Below.refl w.heap.size w); have H : ((spec_l1Ok.f k l0).bind fun t118 => (if t118 = true then ((spec_SpansOk.f k l1 (l0.length : Int)).bind fun t119 => (if t119 = true then ((spec_l1In.f a2 0 20000).bind fun t120 => (some t120)) else (some false))) else (some false))) = some r := h; clear h; replace H := Option.bind_eq_some_iff.mp H; obtain ⟨t118, A40, H⟩ := H; replace H : (if t118 = true then ((spec_SpansOk.f k l1 (l0.length : Int)).bind fun t119 => (if t119 = true then ((spec_l1In.f a2 0 20000).bind fun t120 => (some t120)) else (some false))) else (some false)) = some r := H; have A4 := az A40; clear A40; by_cases c5 : t118 = true
 ·
  subst c5; have H1 : ((spec_SpansOk.f k l1 (l0.length : Int)).bind fun t119 => (if t119 = true then ((spec_l1In.f a2 0 20000).bind fun t120 => (some t120)) else (some false))) = some r := by rw [if_pos rfl] at H; exact H
  clear H; have H := H1; clear H1; replace H := Option.bind_eq_some_iff.mp H; obtain ⟨t119, A60, H⟩ := H; replace H : (if t119 = true then ((spec_l1In.f a2 0 20000).bind fun t120 => (some t120)) else (some false)) = some r := H; have A6 := az A60; clear A60; by_cases c7 : t119 = true
  ·
   subst c7; have H1 : ((spec_l1In.f a2 0 20000).bind fun t120 => (some t120)) = some r := by rw [if_pos rfl] at H; exact H
   clear H; have H := H1; clear H1; replace H := Option.bind_eq_some_iff.mp H; obtain ⟨t120, A80, H⟩ := H; replace H : (some t120) = some r := H; have A8 := az A80; clear A80; obtain rfl := Option.some.inj H; go_enter Tryz.func35, Tryz.ntmps35; go_wp2_with (first | ((with_reducible refine gate_callee (f := 68) rfl ?_); refine goesL_ (some 8) rfl rfl Tryz.func68 (by kernel_rfl) rfl #[.slice A0 l0.length c0] rfl zC ?_; (with_reducible refine (spec_l1Ok.calls k _ _ l0 true _ ?side1 ?side2 A4.out).mono ?_); (case side1 => exact (zP HR0.out)); (case side2 => exact HC0.out); rintro e w' ⟨rfl, ⟨nd, rfl⟩⟩; refine ⟨_, rfl, ?_⟩) | (go_at_call 69; (with_reducible refine (spec_SpansOk.calls k _ _ l1 (l0.length : Int) true _ ?side1 ?side2 A6.out).mono ?_); (case side1 => exact (zP HR1.out)); (case side2 => exact HC1.out); rintro e w9 ⟨rfl, hb⟩; have n0_ := az (below_step (zA HB.out) hb); clear HB; have HB := n0_; clear n0_; (try clear hb); (try clear hb2); (try clear hk); (try clear hi)) | (go_at_call 36; (with_reducible refine (spec_l1In.calls a2 0 20000 t120 _ A8.out).mono ?_); rintro e w' ⟨rfl, ⟨nd, rfl⟩⟩)); go_ret; exact ⟨zG, zA HB.out⟩
  ·
   replace c7 := Bool.eq_false_iff.mpr c7; subst c7; have H1 : (some false) = some r := by rw [if_neg (show ¬ (false = true) by decide)] at H; exact H
   clear H; have H := H1; clear H1; obtain rfl := Option.some.inj H; go_enter Tryz.func35, Tryz.ntmps35; go_wp2_with (first | ((with_reducible refine gate_callee (f := 68) rfl ?_); refine goesL_ (some 8) rfl rfl Tryz.func68 (by kernel_rfl) rfl #[.slice A0 l0.length c0] rfl zC ?_; (with_reducible refine (spec_l1Ok.calls k _ _ l0 true _ ?side1 ?side2 A4.out).mono ?_); (case side1 => exact (zP HR0.out)); (case side2 => exact HC0.out); rintro e w' ⟨rfl, ⟨nd, rfl⟩⟩; refine ⟨_, rfl, ?_⟩) | (go_at_call 69; (with_reducible refine (spec_SpansOk.calls k _ _ l1 (l0.length : Int) false _ ?side1 ?side2 A6.out).mono ?_); (case side1 => exact (zP HR1.out)); (case side2 => exact HC1.out); rintro e w10 ⟨rfl, hb⟩; have n0_ := az (below_step (zA HB.out) hb); clear HB; have HB := n0_; clear n0_; (try clear hb); (try clear hb2); (try clear hk); (try clear hi))); go_ret; exact ⟨zG, zA HB.out⟩
 ·
  replace c5 := Bool.eq_false_iff.mpr c5; subst c5; have H1 : (some false) = some r := by rw [if_neg (show ¬ (false = true) by decide)] at H; exact H
  clear H; have H := H1; clear H1; obtain rfl := Option.some.inj H; go_enter Tryz.func35, Tryz.ntmps35; go_wp2_with (first | ((with_reducible refine gate_callee (f := 68) rfl ?_); refine goesL_ (some 8) rfl rfl Tryz.func68 (by kernel_rfl) rfl #[.slice A0 l0.length c0] rfl zC ?_; (with_reducible refine (spec_l1Ok.calls k _ _ l0 false _ ?side1 ?side2 A4.out).mono ?_); (case side1 => exact (zP HR0.out)); (case side2 => exact HC0.out); rintro e w' ⟨rfl, ⟨nd, rfl⟩⟩; refine ⟨_, rfl, ?_⟩)); go_ret; exact ⟨zG, zA HB.out⟩
def spec_l1Moves.l0 : Nat → Int → List Int → Int → Option (Int)
 | 0, _, _, _ => none
 | k + 1, x0, x3, x4 => if x4 < (x3.length : Int) then (if 0 ≤ x4 then (if (rd x3 x4) = x0 then (some (wrap64 (14 + x4))) else (spec_l1Moves.l0 k x0 x3 (wrap64 (x4 + 1)))) else (none)) else (some 13)
def spec_l1Moves.f (k : Nat) (a0 : Int) : Option (Int) := spec_l1Moves.l0 k a0 (([8234, 8235, 8236, 8237, 8238, 8294, 8295, 8296, 8297] : List Int)) 0
theorem spec_l1Moves.mono_l : ∀ k, (∀ y0 y1 y2, LeO (spec_l1Moves.l0 k y0 y1 y2) (spec_l1Moves.l0 (k + 1) y0 y1 y2))
 | 0 => fun _ _ _ r h => by simp [spec_l1Moves.l0] at h
 | k + 1 => by
  have ih0 := spec_l1Moves.mono_l k
  ·
   intro y0 y1 y2; unfold spec_l1Moves.l0
   repeat' first
   | (with_reducible exact ih0 _ _ _)
   | (with_reducible exact LeO.refl _)
   | (with_reducible exact LeO.none _)
   | (with_reducible refine LeO.ite ?_ ?_)
   | (with_reducible refine LeO.bind ?_ (fun _ => ?_))
   | exact ih0 _ _ _
   | exact LeO.none _
   | refine LeO.ite ?_ ?_
   | refine LeO.bind ?_ (fun _ => ?_)
theorem spec_l1Moves.mono : ∀ a0 k, LeO (spec_l1Moves.f k a0) (spec_l1Moves.f (k + 1) a0) := by
 intro a0 k; have ih0 := spec_l1Moves.mono_l k; unfold spec_l1Moves.f
 repeat' first
   | (with_reducible exact ih0 _ _ _)
   | (with_reducible exact LeO.refl _)
   | (with_reducible exact LeO.none _)
   | (with_reducible refine LeO.ite ?_ ?_)
   | (with_reducible refine LeO.bind ?_ (fun _ => ?_))
   | exact ih0 _ _ _
   | exact LeO.none _
   | refine LeO.ite ?_ ?_
   | refine LeO.bind ?_ (fun _ => ?_)
theorem spec_l1Moves.calls (k : Nat) (a0 : Int) (r : Int) (w : World) (h : spec_l1Moves.f k a0 = some r) :
  Calls Tryz.prog 146 #[.int .i64 a0] w fun e w' => e = .returned (.int .i64 r) ∧ Below w.heap.size w w' := by
 have HB := az (Below.refl w.heap.size w); have H : (spec_l1Moves.l0 k a0 (([8234, 8235, 8236, 8237, 8238, 8294, 8295, 8296, 8297] : List Int)) 0) = some r := h; clear h; obtain ⟨y121, hy121⟩ : ∃ y_ : List Int, y_ = (([8234, 8235, 8236, 8237, 8238, 8294, 8295, 8296, 8297] : List Int)) := ⟨_, rfl⟩; replace H : (spec_l1Moves.l0 k a0 y121 0) = some r := by first | (rw [hy121]; with_reducible exact H) | (have H2_ := (Option.bind_some _ _).symm.trans H; rw [hy121]; with_reducible exact H2_) | (have H2_ := (Option.bind_some _ _).symm.trans H; with_reducible exact H2_) | with_reducible exact H | (rw [hy121]; exact H) | exact H
 have Ny121 := az hy121; clear hy121; have H' := az H; clear H; go_enter Tryz.func146, Tryz.ntmps146; go_wp2_with (first | ((with_reducible refine gate_dst (N := 5) rfl ?_); refine Kd.R_lit (Kd.int .i64) _ 3 ?hg (N := 5) ?hd (xs := ([8234, 8235, 8236, 8237, 8238, 8294, 8295, 8296, 8297] : List Int)) (inner := [.int .i64 8234, .int .i64 8235, .int .i64 8236, .int .i64 8237, .int .i64 8238, .int .i64 8294, .int .i64 8295, .int .i64 8296, .int .i64 8297]) (ok := fun _ => True) (okp := fun _ => True) ?hr ?hp (fun _ hk => hk) trivial (Below.refl _ _) (Nat.le_refl _) (by simp) ?_; (case hd => rfl); (case hg => rfl); (case hr => first | (go_simp; done) | (go_simp; rfl)); (case hp => exact (Reps.one (show Kd.M (Kd.int .i64) _ _ _ 8234 [.int .i64 8234] from rfl) (Reps.one (show Kd.M (Kd.int .i64) _ _ _ 8235 [.int .i64 8235] from rfl) (Reps.one (show Kd.M (Kd.int .i64) _ _ _ 8236 [.int .i64 8236] from rfl) (Reps.one (show Kd.M (Kd.int .i64) _ _ _ 8237 [.int .i64 8237] from rfl) (Reps.one (show Kd.M (Kd.int .i64) _ _ _ 8238 [.int .i64 8238] from rfl) (Reps.one (show Kd.M (Kd.int .i64) _ _ _ 8294 [.int .i64 8294] from rfl) (Reps.one (show Kd.M (Kd.int .i64) _ _ _ 8295 [.int .i64 8295] from rfl) (Reps.one (show Kd.M (Kd.int .i64) _ _ _ 8296 [.int .i64 8296] from rfl) (Reps.one (show Kd.M (Kd.int .i64) _ _ _ 8297 [.int .i64 8297] from rfl) (Reps.none _ _))))))))))); intro v122 w2 ho3 hb hg_ hnew_; clear hg_ hnew_; (first | rw [← Ny121.out] at ho3 | (simp only [Int.reduceToNat] at ho3; rw [← Ny121.out] at ho3)); have n0_ := az (Kd.R_lower ho3 (below_size (zA HB.out))); have n1_ := az (below_step (zA HB.out) hb); clear HB; have HO123 := n0_; have HB := n1_; clear n0_ n1_; clear hb ho3)); go_loopg [4] k (fun kq v4 w' => ∃ (x4_1 : Int), v4 = .int .i64 x4_1 ∧ Aside0 (spec_l1Moves.l0 kq a0 y121 x4_1 = some r) ∧ Aside0 (kq ≤ k) ∧ Aside0 (Kd.R (Kd.int .i64) 3 w' w.heap.size (fun _ => True) v122 y121) ∧ Aside0 (Below w.heap.size w w'))
 case atStart => exact ⟨(0), zB, H', ⟨Nat.le_refl _⟩, ⟨zF HO123.out⟩, ⟨zA HB.out⟩⟩
 case round =>
  clear H'; (try clear c1); (try clear p2); obtain ⟨x4_1, rfl, HA, HK1, HO_3, HB⟩ := hrel
  cases gk with
  | zero => exact absurd HA.out (by simp [spec_l1Moves.l0])
  | succ k1 =>
   have H := HA.out; clear HA; simp only [spec_l1Moves.l0] at H; by_cases c4 : x4_1 < (y121.length : Int)
   ·
    rw [if_pos c4] at H; have c4b0 : decide (x4_1 < (y121.length : Int)) = true := decide_eq_true c4; clear c4; by_cases c5 : 0 ≤ x4_1
    ·
     rw [if_pos c5] at H; have c5b0 : decide (0 ≤ x4_1) = true := decide_eq_true c5; clear c5; by_cases c6 : (rd y121 x4_1) = a0
     ·
      rw [if_pos c6] at H; have c6b0 : ((rd y121 x4_1) == a0) = true := beq_iff_eq.mpr c6; have c6b1 : ((rd y121 x4_1) != a0) = false := bne_eq_false_iff_eq.mpr c6; clear c6; obtain rfl := Option.some.inj H; obtain ⟨Ao7, co7, eo7⟩ := Kd.R_slice HO_3.out; subst eo7; have p124 : 0 ≤ (x4_1 : Int) := of_decide_eq_true (by assumption); have q124 : x4_1 < (y121.length : Int) := of_decide_eq_true (by assumption); obtain ⟨ad124, e124, hx124_0⟩ := Kd.at_int (Kd.R_reads' HO_3.out).2.2 x4_1 p124 q124
      cases e124
      replace p124 := eq_true p124; replace q124 := eq_true q124; go_wp2; go_ret; exact ⟨zG, zA HB.out⟩
     ·
      rw [if_neg c6] at H; have c6b0 : ((rd y121 x4_1) == a0) = false := beq_eq_false_iff_ne.mpr c6; have c6b1 : ((rd y121 x4_1) != a0) = true := bne_iff_ne.mpr c6; have H' := az H; clear H; obtain ⟨Ao8, co8, eo8⟩ := Kd.R_slice HO_3.out; subst eo8; have p124 : 0 ≤ (x4_1 : Int) := of_decide_eq_true (by assumption); have q124 : x4_1 < (y121.length : Int) := of_decide_eq_true (by assumption); obtain ⟨ad124, e124, hx124_0⟩ := Kd.at_int (Kd.R_reads' HO_3.out).2.2 x4_1 p124 q124
      cases e124
      replace p124 := eq_true p124; replace q124 := eq_true q124; go_wp2; go_roundg k1
      case measure => have := HK1.out; omega
      case rel => exact ⟨(wrap64 (x4_1 + 1)), zB, H', ⟨zE HK1.out⟩, ⟨zF HO_3.out⟩, ⟨zA HB.out⟩⟩
    ·
     rw [if_neg c5] at H; exact absurd H (by simp)
   ·
    rw [if_neg c4] at H; have c4b0 : decide (x4_1 < (y121.length : Int)) = false := decide_eq_false c4; clear c4; obtain rfl := Option.some.inj H; obtain ⟨Ao9, co9, eo9⟩ := Kd.R_slice HO_3.out; subst eo9; go_wp2; go_ret; exact ⟨zG, zA HB.out⟩
mutual
def spec_l1Signs.j0 : Nat → Int → Bool → Option (Int)
 | 0, _, _ => none
 | k + 1, x0, x3 => if x3 = true then (some 5) else ((spec_l1In.f x0 35 37).bind fun t125 => (if t125 = true then (some 6) else (if x0 = 44 then (spec_l1Signs.j1 k x0 true) else (if x0 = 46 then (spec_l1Signs.j1 k x0 true) else (if x0 = 47 then (spec_l1Signs.j1 k x0 true) else (spec_l1Signs.j1 k x0 (x0 == 58)))))))
def spec_l1Signs.j1 : Nat → Int → Bool → Option (Int)
 | 0, _, _ => none
 | k + 1, x0, x13 => if x13 = true then (some 8) else ((spec_l1In.f x0 768 879).bind fun t126 => (if t126 = true then (some 9) else (if x0 = 8203 then (spec_l1Signs.j2 k x0 true) else (if x0 = 8205 then (spec_l1Signs.j2 k x0 true) else (spec_l1Signs.j2 k x0 (x0 == 173))))))
def spec_l1Signs.j2 : Nat → Int → Bool → Option (Int)
 | 0, _, _ => none
 | k + 1, x0, x31 => if x31 = true then (some 10) else (if x0 = 9 then (some 11) else (if x0 = 32 then (some 12) else ((spec_l1Moves.f k x0).bind fun t127 => (some t127))))
end
def spec_l1Signs.f (k : Nat) (a0 : Int) : Option (Int) := if a0 = 43 then (spec_l1Signs.j0 k a0 true) else (spec_l1Signs.j0 k a0 (a0 == 45))
theorem spec_l1Signs.mono_l : ∀ k, (∀ y0 y1, LeO (spec_l1Signs.j0 k y0 y1) (spec_l1Signs.j0 (k + 1) y0 y1)) ∧ (∀ y0 y1, LeO (spec_l1Signs.j1 k y0 y1) (spec_l1Signs.j1 (k + 1) y0 y1)) ∧ (∀ y0 y1, LeO (spec_l1Signs.j2 k y0 y1) (spec_l1Signs.j2 (k + 1) y0 y1))
 | 0 => ⟨fun _ _ r h => by simp [spec_l1Signs.j0] at h, fun _ _ r h => by simp [spec_l1Signs.j1] at h, fun _ _ r h => by simp [spec_l1Signs.j2] at h⟩
 | k + 1 => by
  obtain ⟨ih0, ih1, ih2⟩ := spec_l1Signs.mono_l k; refine ⟨?_, ?_, ?_⟩
  ·
   intro y0 y1; unfold spec_l1Signs.j0
   repeat' first
   | (with_reducible exact ih0 _ _)
   | (with_reducible exact ih1 _ _)
   | (with_reducible exact ih2 _ _)
   | (with_reducible exact spec_l1Moves.mono _ _)
   | (with_reducible exact LeO.refl _)
   | (with_reducible exact LeO.none _)
   | (with_reducible refine LeO.ite ?_ ?_)
   | (with_reducible refine LeO.bind ?_ (fun _ => ?_))
   | exact ih0 _ _
   | exact ih1 _ _
   | exact ih2 _ _
   | exact spec_l1Moves.mono _ _
   | exact LeO.none _
   | refine LeO.ite ?_ ?_
   | refine LeO.bind ?_ (fun _ => ?_)
  ·
   intro y0 y1; unfold spec_l1Signs.j1
   repeat' first
   | (with_reducible exact ih0 _ _)
   | (with_reducible exact ih1 _ _)
   | (with_reducible exact ih2 _ _)
   | (with_reducible exact spec_l1Moves.mono _ _)
   | (with_reducible exact LeO.refl _)
   | (with_reducible exact LeO.none _)
   | (with_reducible refine LeO.ite ?_ ?_)
   | (with_reducible refine LeO.bind ?_ (fun _ => ?_))
   | exact ih0 _ _
   | exact ih1 _ _
   | exact ih2 _ _
   | exact spec_l1Moves.mono _ _
   | exact LeO.none _
   | refine LeO.ite ?_ ?_
   | refine LeO.bind ?_ (fun _ => ?_)
  ·
   intro y0 y1; unfold spec_l1Signs.j2
   repeat' first
   | (with_reducible exact ih0 _ _)
   | (with_reducible exact ih1 _ _)
   | (with_reducible exact ih2 _ _)
   | (with_reducible exact spec_l1Moves.mono _ _)
   | (with_reducible exact LeO.refl _)
   | (with_reducible exact LeO.none _)
   | (with_reducible refine LeO.ite ?_ ?_)
   | (with_reducible refine LeO.bind ?_ (fun _ => ?_))
   | exact ih0 _ _
   | exact ih1 _ _
   | exact ih2 _ _
   | exact spec_l1Moves.mono _ _
   | exact LeO.none _
   | refine LeO.ite ?_ ?_
   | refine LeO.bind ?_ (fun _ => ?_)
theorem spec_l1Signs.mono : ∀ a0 k, LeO (spec_l1Signs.f k a0) (spec_l1Signs.f (k + 1) a0) := by
 intro a0 k; obtain ⟨ih0, ih1, ih2⟩ := spec_l1Signs.mono_l k; unfold spec_l1Signs.f
 repeat' first
   | (with_reducible exact ih0 _ _)
   | (with_reducible exact ih1 _ _)
   | (with_reducible exact ih2 _ _)
   | (with_reducible exact spec_l1Moves.mono _ _)
   | (with_reducible exact LeO.refl _)
   | (with_reducible exact LeO.none _)
   | (with_reducible refine LeO.ite ?_ ?_)
   | (with_reducible refine LeO.bind ?_ (fun _ => ?_))
   | exact ih0 _ _
   | exact ih1 _ _
   | exact ih2 _ _
   | exact spec_l1Moves.mono _ _
   | exact LeO.none _
   | refine LeO.ite ?_ ?_
   | refine LeO.bind ?_ (fun _ => ?_)
theorem spec_l1Signs.calls (k : Nat) (a0 : Int) (r : Int) (w : World) (h : spec_l1Signs.f k a0 = some r) :
  Calls Tryz.prog 144 #[.int .i64 a0] w fun e w' => e = .returned (.int .i64 r) ∧ Below w.heap.size w w' := by
 have HB := az (Below.refl w.heap.size w); have H : (if a0 = 43 then (spec_l1Signs.j0 k a0 true) else (spec_l1Signs.j0 k a0 (a0 == 45))) = some r := h; clear h; have HC2 := az H; clear H; go_enter Tryz.func144, Tryz.ntmps144; go_upto_region 1 with (fail)
 go_cut [3] (fun v3 wc => ∃ (kq : Nat) (x3_1 : Bool), v3 = .bool x3_1 ∧ Aside0 (spec_l1Signs.j0 kq a0 x3_1 = some r) ∧ Aside0 (kq ≤ k) ∧ Aside0 (Below w.heap.size w wc))
 case first =>
  have H := HC2.out; clear HC2; by_cases c3 : a0 = 43
  ·
   rw [if_pos c3] at H; have c3b0 : (a0 == 43) = true := beq_iff_eq.mpr c3; have c3b1 : (a0 != 43) = false := bne_eq_false_iff_eq.mpr c3; clear c3; (first | rw [c3b0] | (simp only [i64_w, i32_w]; rw [c3b0]) | skip); have H' := az H; clear H; go_wp2; go_meet
   case rel => exact ⟨_, (true), zB, H', ⟨zJ⟩, ⟨zA HB.out⟩⟩
  ·
   rw [if_neg c3] at H; have c3b0 : (a0 == 43) = false := beq_eq_false_iff_ne.mpr c3; have c3b1 : (a0 != 43) = true := bne_iff_ne.mpr c3; (first | rw [c3b0] | (simp only [i64_w, i32_w]; rw [c3b0]) | skip); have H' := az H; clear H; go_wp2; go_meet
   case rel => exact ⟨_, ((a0 == 45)), zB, H', ⟨zJ⟩, ⟨zA HB.out⟩⟩
 case rest =>
  clear HC2; (try clear c1); (try clear p2); (try clear c3); (try clear c3b0); (try clear c3b1); obtain ⟨kq, x3_1, rfl, HA, HJ1, HB⟩ := hcut
  cases kq with
  | zero => exact absurd HA.out (by simp [spec_l1Signs.j0])
  | succ kj1 =>
   have H := HA.out; clear HA; simp only [spec_l1Signs.j0] at H; by_cases c4 : x3_1 = true
   ·
    subst c4; have H1 : (some 5) = some r := by rw [if_pos rfl] at H; exact H
    clear H; have H := H1; clear H1; obtain rfl := Option.some.inj H; go_wp2; go_ret; exact ⟨zG, zA HB.out⟩
   ·
    replace c4 := Bool.eq_false_iff.mpr c4; subst c4; have H1 : ((spec_l1In.f a0 35 37).bind fun t125 => (if t125 = true then (some 6) else (if a0 = 44 then (spec_l1Signs.j1 kj1 a0 true) else (if a0 = 46 then (spec_l1Signs.j1 kj1 a0 true) else (if a0 = 47 then (spec_l1Signs.j1 kj1 a0 true) else (spec_l1Signs.j1 kj1 a0 (a0 == 58))))))) = some r := by rw [if_neg (show ¬ (false = true) by decide)] at H; exact H
    clear H; have H := H1; clear H1; replace H := Option.bind_eq_some_iff.mp H; obtain ⟨t125, A50, H⟩ := H; replace H : (if t125 = true then (some 6) else (if a0 = 44 then (spec_l1Signs.j1 kj1 a0 true) else (if a0 = 46 then (spec_l1Signs.j1 kj1 a0 true) else (if a0 = 47 then (spec_l1Signs.j1 kj1 a0 true) else (spec_l1Signs.j1 kj1 a0 (a0 == 58)))))) = some r := H; have A5 := az A50; clear A50; by_cases c6 : t125 = true
    ·
     subst c6; have H1 : (some 6) = some r := by rw [if_pos rfl] at H; exact H
     clear H; have H := H1; clear H1; obtain rfl := Option.some.inj H; go_wp2_with (first | ((with_reducible refine gate_callee (f := 36) rfl ?_); refine goesL_ (some 12) rfl rfl Tryz.func36 (by kernel_rfl) rfl #[.int .i64 a0, .int .i64 35, .int .i64 37] rfl zC ?_; (with_reducible refine (spec_l1In.calls a0 35 37 true _ A5.out).mono ?_); rintro e w' ⟨rfl, ⟨nd, rfl⟩⟩; refine ⟨_, rfl, ?_⟩)); go_ret; exact ⟨zG, zA HB.out⟩
    ·
     replace c6 := Bool.eq_false_iff.mpr c6; subst c6; have H1 : (if a0 = 44 then (spec_l1Signs.j1 kj1 a0 true) else (if a0 = 46 then (spec_l1Signs.j1 kj1 a0 true) else (if a0 = 47 then (spec_l1Signs.j1 kj1 a0 true) else (spec_l1Signs.j1 kj1 a0 (a0 == 58))))) = some r := by rw [if_neg (show ¬ (false = true) by decide)] at H; exact H
     clear H; have H := H1; clear H1; have HC7 := az H; clear H; go_upto_region 5 with (first | ((with_reducible refine gate_callee (f := 36) rfl ?_); refine goesL_ (some 12) rfl rfl Tryz.func36 (by kernel_rfl) rfl #[.int .i64 a0, .int .i64 35, .int .i64 37] rfl zC ?_; (with_reducible refine (spec_l1In.calls a0 35 37 false _ A5.out).mono ?_); rintro e w' ⟨rfl, ⟨nd, rfl⟩⟩; refine ⟨_, rfl, ?_⟩))
     (try simp only [Act.put, List.setIfInBounds_toArray, List.set_cons_zero, List.set_cons_succ]); go_cut [13] (fun v13 wc => ∃ (kq : Nat) (x13_6 : Bool), v13 = .bool x13_6 ∧ Aside0 (spec_l1Signs.j1 kq a0 x13_6 = some r) ∧ Aside0 (kq ≤ kj1) ∧ Aside0 (Below w.heap.size w wc))
     case first =>
      have H := HC7.out; clear HC7; by_cases c8 : a0 = 44
      ·
       rw [if_pos c8] at H; have c8b0 : (a0 == 44) = true := beq_iff_eq.mpr c8; have c8b1 : (a0 != 44) = false := bne_eq_false_iff_eq.mpr c8; clear c8; (first | rw [c8b0] | (simp only [i64_w, i32_w]; rw [c8b0]) | skip); have H' := az H; clear H; go_wp2; go_meet
       case rel => exact ⟨_, (true), zB, H', ⟨zK HJ1.out⟩, ⟨zA HB.out⟩⟩
      ·
       rw [if_neg c8] at H; have c8b0 : (a0 == 44) = false := beq_eq_false_iff_ne.mpr c8; have c8b1 : (a0 != 44) = true := bne_iff_ne.mpr c8; (first | rw [c8b0] | (simp only [i64_w, i32_w]; rw [c8b0]) | skip); by_cases c9 : a0 = 46
       ·
        rw [if_pos c9] at H; have c9b0 : (a0 == 46) = true := beq_iff_eq.mpr c9; have c9b1 : (a0 != 46) = false := bne_eq_false_iff_eq.mpr c9; clear c9; have H' := az H; clear H; go_wp2; go_meet
        case rel => exact ⟨_, (true), zB, H', ⟨zK HJ1.out⟩, ⟨zA HB.out⟩⟩
       ·
        rw [if_neg c9] at H; have c9b0 : (a0 == 46) = false := beq_eq_false_iff_ne.mpr c9; have c9b1 : (a0 != 46) = true := bne_iff_ne.mpr c9; by_cases c10 : a0 = 47
        ·
         rw [if_pos c10] at H; have c10b0 : (a0 == 47) = true := beq_iff_eq.mpr c10; have c10b1 : (a0 != 47) = false := bne_eq_false_iff_eq.mpr c10; clear c10; have H' := az H; clear H; go_wp2; go_meet
         case rel => exact ⟨_, (true), zB, H', ⟨zK HJ1.out⟩, ⟨zA HB.out⟩⟩
        ·
         rw [if_neg c10] at H; have c10b0 : (a0 == 47) = false := beq_eq_false_iff_ne.mpr c10; have c10b1 : (a0 != 47) = true := bne_iff_ne.mpr c10; have H' := az H; clear H; go_wp2; go_meet
         case rel => exact ⟨_, ((a0 == 58)), zB, H', ⟨zK HJ1.out⟩, ⟨zA HB.out⟩⟩
     case rest =>
      clear HC7; (try clear c1); (try clear p2); (try clear c3); (try clear c3b0); (try clear c3b1); (try clear c4); (try clear c6); (try clear c8); (try clear c8b0); (try clear c8b1); (try clear c9); (try clear c9b0); (try clear c9b1); (try clear c10); (try clear c10b0); (try clear c10b1); (try clear p2); obtain ⟨kq, x13_6, rfl, HA, HJ6, HB⟩ := hcut
      cases kq with
      | zero => exact absurd HA.out (by simp [spec_l1Signs.j1])
      | succ kj6 =>
       have H := HA.out; clear HA; simp only [spec_l1Signs.j1] at H; by_cases c11 : x13_6 = true
       ·
        subst c11; have H1 : (some 8) = some r := by rw [if_pos rfl] at H; exact H
        clear H; have H := H1; clear H1; obtain rfl := Option.some.inj H; go_wp2; go_ret; exact ⟨zG, zA HB.out⟩
       ·
        replace c11 := Bool.eq_false_iff.mpr c11; subst c11; have H1 : ((spec_l1In.f a0 768 879).bind fun t126 => (if t126 = true then (some 9) else (if a0 = 8203 then (spec_l1Signs.j2 kj6 a0 true) else (if a0 = 8205 then (spec_l1Signs.j2 kj6 a0 true) else (spec_l1Signs.j2 kj6 a0 (a0 == 173)))))) = some r := by rw [if_neg (show ¬ (false = true) by decide)] at H; exact H
        clear H; have H := H1; clear H1; replace H := Option.bind_eq_some_iff.mp H; obtain ⟨t126, A120, H⟩ := H; replace H : (if t126 = true then (some 9) else (if a0 = 8203 then (spec_l1Signs.j2 kj6 a0 true) else (if a0 = 8205 then (spec_l1Signs.j2 kj6 a0 true) else (spec_l1Signs.j2 kj6 a0 (a0 == 173))))) = some r := H; have A12 := az A120; clear A120; by_cases c13 : t126 = true
        ·
         subst c13; have H1 : (some 9) = some r := by rw [if_pos rfl] at H; exact H
         clear H; have H := H1; clear H1; obtain rfl := Option.some.inj H; go_wp2_with (first | ((with_reducible refine gate_callee (f := 36) rfl ?_); refine goesL_ (some 30) rfl rfl Tryz.func36 (by kernel_rfl) rfl #[.int .i64 a0, .int .i64 768, .int .i64 879] rfl zC ?_; (with_reducible refine (spec_l1In.calls a0 768 879 true _ A12.out).mono ?_); rintro e w' ⟨rfl, ⟨nd, rfl⟩⟩; refine ⟨_, rfl, ?_⟩)); go_ret; exact ⟨zG, zA HB.out⟩
        ·
         replace c13 := Bool.eq_false_iff.mpr c13; subst c13; have H1 : (if a0 = 8203 then (spec_l1Signs.j2 kj6 a0 true) else (if a0 = 8205 then (spec_l1Signs.j2 kj6 a0 true) else (spec_l1Signs.j2 kj6 a0 (a0 == 173)))) = some r := by rw [if_neg (show ¬ (false = true) by decide)] at H; exact H
         clear H; have H := H1; clear H1; have HC14 := az H; clear H; go_upto_region 9 with (first | ((with_reducible refine gate_callee (f := 36) rfl ?_); refine goesL_ (some 30) rfl rfl Tryz.func36 (by kernel_rfl) rfl #[.int .i64 a0, .int .i64 768, .int .i64 879] rfl zC ?_; (with_reducible refine (spec_l1In.calls a0 768 879 false _ A12.out).mono ?_); rintro e w' ⟨rfl, ⟨nd, rfl⟩⟩; refine ⟨_, rfl, ?_⟩))
         (try simp only [Act.put, List.setIfInBounds_toArray, List.set_cons_zero, List.set_cons_succ]); go_cut [31] (fun v31 wc => ∃ (kq : Nat) (x31_13 : Bool), v31 = .bool x31_13 ∧ Aside0 (spec_l1Signs.j2 kq a0 x31_13 = some r) ∧ Aside0 (kq ≤ kj6) ∧ Aside0 (Below w.heap.size w wc))
         case first =>
          have H := HC14.out; clear HC14; by_cases c15 : a0 = 8203
          ·
           rw [if_pos c15] at H; have c15b0 : (a0 == 8203) = true := beq_iff_eq.mpr c15; have c15b1 : (a0 != 8203) = false := bne_eq_false_iff_eq.mpr c15; clear c15; (first | rw [c15b0] | (simp only [i64_w, i32_w]; rw [c15b0]) | skip); have H' := az H; clear H; go_wp2; go_meet
           case rel => exact ⟨_, (true), zB, H', ⟨zM HJ1.out HJ6.out⟩, ⟨zA HB.out⟩⟩
          ·
           rw [if_neg c15] at H; have c15b0 : (a0 == 8203) = false := beq_eq_false_iff_ne.mpr c15; have c15b1 : (a0 != 8203) = true := bne_iff_ne.mpr c15; (first | rw [c15b0] | (simp only [i64_w, i32_w]; rw [c15b0]) | skip); by_cases c16 : a0 = 8205
           ·
            rw [if_pos c16] at H; have c16b0 : (a0 == 8205) = true := beq_iff_eq.mpr c16; have c16b1 : (a0 != 8205) = false := bne_eq_false_iff_eq.mpr c16; clear c16; have H' := az H; clear H; go_wp2; go_meet
            case rel => exact ⟨_, (true), zB, H', ⟨zM HJ1.out HJ6.out⟩, ⟨zA HB.out⟩⟩
           ·
            rw [if_neg c16] at H; have c16b0 : (a0 == 8205) = false := beq_eq_false_iff_ne.mpr c16; have c16b1 : (a0 != 8205) = true := bne_iff_ne.mpr c16; have H' := az H; clear H; go_wp2; go_meet
            case rel => exact ⟨_, ((a0 == 173)), zB, H', ⟨zM HJ1.out HJ6.out⟩, ⟨zA HB.out⟩⟩
         case rest =>
          clear HC14; (try clear c1); (try clear p2); (try clear c3); (try clear c3b0); (try clear c3b1); (try clear c4); (try clear c6); (try clear c8); (try clear c8b0); (try clear c8b1); (try clear c9); (try clear c9b0); (try clear c9b1); (try clear c10); (try clear c10b0); (try clear c10b1); (try clear c11); (try clear c13); (try clear c14); (try clear c15); (try clear c15b0); (try clear c15b1); (try clear c16); (try clear c16b0); (try clear c16b1); (try clear p2); obtain ⟨kq, x31_13, rfl, HA, HJ13, HB⟩ := hcut
          cases kq with
          | zero => exact absurd HA.out (by simp [spec_l1Signs.j2])
          | succ kj13 =>
           have H := HA.out; clear HA; simp only [spec_l1Signs.j2] at H; by_cases c17 : x31_13 = true
           ·
            subst c17; have H1 : (some 10) = some r := by rw [if_pos rfl] at H; exact H
            clear H; have H := H1; clear H1; obtain rfl := Option.some.inj H; go_wp2; go_ret; exact ⟨zG, zA HB.out⟩
           ·
            replace c17 := Bool.eq_false_iff.mpr c17; subst c17; have H1 : (if a0 = 9 then (some 11) else (if a0 = 32 then (some 12) else ((spec_l1Moves.f kj13 a0).bind fun t127 => (some t127)))) = some r := by rw [if_neg (show ¬ (false = true) by decide)] at H; exact H
            clear H; have H := H1; clear H1; by_cases c18 : a0 = 9
            ·
             rw [if_pos c18] at H; have c18b0 : (a0 == 9) = true := beq_iff_eq.mpr c18; have c18b1 : (a0 != 9) = false := bne_eq_false_iff_eq.mpr c18; clear c18; obtain rfl := Option.some.inj H; go_wp2; go_ret; exact ⟨zG, zA HB.out⟩
            ·
             rw [if_neg c18] at H; have c18b0 : (a0 == 9) = false := beq_eq_false_iff_ne.mpr c18; have c18b1 : (a0 != 9) = true := bne_iff_ne.mpr c18; by_cases c19 : a0 = 32
             ·
              rw [if_pos c19] at H; have c19b0 : (a0 == 32) = true := beq_iff_eq.mpr c19; have c19b1 : (a0 != 32) = false := bne_eq_false_iff_eq.mpr c19; clear c19; obtain rfl := Option.some.inj H; go_wp2; go_ret; exact ⟨zG, zA HB.out⟩
             ·
              rw [if_neg c19] at H; have c19b0 : (a0 == 32) = false := beq_eq_false_iff_ne.mpr c19; have c19b1 : (a0 != 32) = true := bne_iff_ne.mpr c19; replace H := Option.bind_eq_some_iff.mp H; obtain ⟨t127, A200, H⟩ := H; replace H : (some t127) = some r := H; have A20 := az A200; clear A200; obtain rfl := Option.some.inj H; go_wp2_with (first | ((with_reducible refine gate_callee (f := 146) rfl ?_); refine goesL_ (some 49) rfl rfl Tryz.func146 (by kernel_rfl) rfl #[.int .i64 a0] rfl zC ?_; (with_reducible refine (spec_l1Moves.calls kj13 a0 t127 _ A20.out).mono ?_); rintro e w21 ⟨rfl, hb⟩; refine ⟨_, rfl, ?_⟩; have n0_ := az (below_step (zA HB.out) hb); clear HB; have HB := n0_; clear n0_; (try clear hb); (try clear hb2); (try clear hk); (try clear hi))); go_ret; exact ⟨zG, zA HB.out⟩
def spec_RuneBidi.j0 : Nat → Int → Bool → Option (Int)
 | 0, _, _ => none
 | k + 1, x0, x3 => if x3 = true then (some 1) else ((spec_l1In.f x0 1488 1514).bind fun t131 => (if t131 = true then (some 2) else ((spec_l1In.f x0 1569 1610).bind fun t132 => (if t132 = true then (some 3) else ((spec_l1In.f x0 48 57).bind fun t133 => (if t133 = true then (some 4) else ((spec_l1In.f x0 1632 1641).bind fun t134 => (if t134 = true then (some 7) else ((spec_l1Signs.f k x0).bind fun t135 => (some t135))))))))))
def spec_RuneBidi.f (k : Nat) (a0 : Int) : Option (Int) := (spec_l1In.f a0 97 122).bind fun t128 => (if t128 = true then (spec_RuneBidi.j0 k a0 true) else ((spec_l1In.f a0 65 90).bind fun t129 => (if t129 = true then (spec_RuneBidi.j0 k a0 true) else ((spec_l1In.f a0 19968 40959).bind fun t130 => (spec_RuneBidi.j0 k a0 t130)))))
theorem spec_RuneBidi.mono_l : ∀ k, (∀ y0 y1, LeO (spec_RuneBidi.j0 k y0 y1) (spec_RuneBidi.j0 (k + 1) y0 y1))
 | 0 => fun _ _ r h => by simp [spec_RuneBidi.j0] at h
 | k + 1 => by
  have ih0 := spec_RuneBidi.mono_l k
  ·
   intro y0 y1; unfold spec_RuneBidi.j0
   repeat' first
   | (with_reducible exact ih0 _ _)
   | (with_reducible exact spec_l1Signs.mono _ _)
   | (with_reducible exact LeO.refl _)
   | (with_reducible exact LeO.none _)
   | (with_reducible refine LeO.ite ?_ ?_)
   | (with_reducible refine LeO.bind ?_ (fun _ => ?_))
   | exact ih0 _ _
   | exact spec_l1Signs.mono _ _
   | exact LeO.none _
   | refine LeO.ite ?_ ?_
   | refine LeO.bind ?_ (fun _ => ?_)
theorem spec_RuneBidi.mono : ∀ a0 k, LeO (spec_RuneBidi.f k a0) (spec_RuneBidi.f (k + 1) a0) := by
 intro a0 k; have ih0 := spec_RuneBidi.mono_l k; unfold spec_RuneBidi.f
 repeat' first
   | (with_reducible exact ih0 _ _)
   | (with_reducible exact spec_l1Signs.mono _ _)
   | (with_reducible exact LeO.refl _)
   | (with_reducible exact LeO.none _)
   | (with_reducible refine LeO.ite ?_ ?_)
   | (with_reducible refine LeO.bind ?_ (fun _ => ?_))
   | exact ih0 _ _
   | exact spec_l1Signs.mono _ _
   | exact LeO.none _
   | refine LeO.ite ?_ ?_
   | refine LeO.bind ?_ (fun _ => ?_)
theorem spec_RuneBidi.calls (k : Nat) (a0 : Int) (r : Int) (w : World) (h : spec_RuneBidi.f k a0 = some r) :
  Calls Tryz.prog 137 #[.int .i64 a0] w fun e w' => e = .returned (.int .i64 r) ∧ Below w.heap.size w w' := by
 have HB := az (Below.refl w.heap.size w); have H : ((spec_l1In.f a0 97 122).bind fun t128 => (if t128 = true then (spec_RuneBidi.j0 k a0 true) else ((spec_l1In.f a0 65 90).bind fun t129 => (if t129 = true then (spec_RuneBidi.j0 k a0 true) else ((spec_l1In.f a0 19968 40959).bind fun t130 => (spec_RuneBidi.j0 k a0 t130)))))) = some r := h; clear h; have HC2 := az H; clear H; go_enter Tryz.func137, Tryz.ntmps137; go_upto_region 1 with (fail)
 go_cut [3] (fun v3 wc => ∃ (kq : Nat) (x3_1 : Bool), v3 = .bool x3_1 ∧ Aside0 (spec_RuneBidi.j0 kq a0 x3_1 = some r) ∧ Aside0 (kq ≤ k) ∧ Aside0 (Below w.heap.size w wc))
 case first =>
  have H := HC2.out; clear HC2; replace H := Option.bind_eq_some_iff.mp H; obtain ⟨t128, A30, H⟩ := H; replace H : (if t128 = true then (spec_RuneBidi.j0 k a0 true) else ((spec_l1In.f a0 65 90).bind fun t129 => (if t129 = true then (spec_RuneBidi.j0 k a0 true) else ((spec_l1In.f a0 19968 40959).bind fun t130 => (spec_RuneBidi.j0 k a0 t130))))) = some r := H; have A3 := az A30; clear A30; by_cases c4 : t128 = true
  ·
   subst c4; have H1 : (spec_RuneBidi.j0 k a0 true) = some r := by rw [if_pos rfl] at H; exact H
   clear H; have H := H1; clear H1; have H' := az H; clear H; go_wp2_with (first | ((with_reducible refine gate_callee (f := 36) rfl ?_); refine goesL_ (some 5) rfl rfl Tryz.func36 (by kernel_rfl) rfl #[.int .i64 a0, .int .i64 97, .int .i64 122] rfl zC ?_; (with_reducible refine (spec_l1In.calls a0 97 122 true _ A3.out).mono ?_); rintro e w' ⟨rfl, ⟨nd, rfl⟩⟩; refine ⟨_, rfl, ?_⟩)); go_meet
   case rel => exact ⟨_, (true), zB, H', ⟨zJ⟩, ⟨zA HB.out⟩⟩
  ·
   replace c4 := Bool.eq_false_iff.mpr c4; subst c4; have H1 : ((spec_l1In.f a0 65 90).bind fun t129 => (if t129 = true then (spec_RuneBidi.j0 k a0 true) else ((spec_l1In.f a0 19968 40959).bind fun t130 => (spec_RuneBidi.j0 k a0 t130)))) = some r := by rw [if_neg (show ¬ (false = true) by decide)] at H; exact H
   clear H; have H := H1; clear H1; replace H := Option.bind_eq_some_iff.mp H; obtain ⟨t129, A50, H⟩ := H; replace H : (if t129 = true then (spec_RuneBidi.j0 k a0 true) else ((spec_l1In.f a0 19968 40959).bind fun t130 => (spec_RuneBidi.j0 k a0 t130))) = some r := H; have A5 := az A50; clear A50; by_cases c6 : t129 = true
   ·
    subst c6; have H1 : (spec_RuneBidi.j0 k a0 true) = some r := by rw [if_pos rfl] at H; exact H
    clear H; have H := H1; clear H1; have H' := az H; clear H; go_wp2_with (first | ((with_reducible refine gate_callee (f := 36) rfl ?_); refine goesL_ (some 5) rfl rfl Tryz.func36 (by kernel_rfl) rfl #[.int .i64 a0, .int .i64 97, .int .i64 122] rfl zC ?_; (with_reducible refine (spec_l1In.calls a0 97 122 false _ A3.out).mono ?_); rintro e w' ⟨rfl, ⟨nd, rfl⟩⟩; refine ⟨_, rfl, ?_⟩) | (go_at_call 36; (with_reducible refine (spec_l1In.calls a0 65 90 true _ A5.out).mono ?_); rintro e w' ⟨rfl, ⟨nd, rfl⟩⟩)); go_meet
    case rel => exact ⟨_, (true), zB, H', ⟨zJ⟩, ⟨zA HB.out⟩⟩
   ·
    replace c6 := Bool.eq_false_iff.mpr c6; subst c6; have H1 : ((spec_l1In.f a0 19968 40959).bind fun t130 => (spec_RuneBidi.j0 k a0 t130)) = some r := by rw [if_neg (show ¬ (false = true) by decide)] at H; exact H
    clear H; have H := H1; clear H1; replace H := Option.bind_eq_some_iff.mp H; obtain ⟨t130, A70, H⟩ := H; replace H : (spec_RuneBidi.j0 k a0 t130) = some r := H; have A7 := az A70; clear A70; have H' := az H; clear H; go_wp2_with (first | ((with_reducible refine gate_callee (f := 36) rfl ?_); refine goesL_ (some 5) rfl rfl Tryz.func36 (by kernel_rfl) rfl #[.int .i64 a0, .int .i64 97, .int .i64 122] rfl zC ?_; (with_reducible refine (spec_l1In.calls a0 97 122 false _ A3.out).mono ?_); rintro e w' ⟨rfl, ⟨nd, rfl⟩⟩; refine ⟨_, rfl, ?_⟩) | (go_at_call 36; (with_reducible refine (spec_l1In.calls a0 65 90 false _ A5.out).mono ?_); rintro e w' ⟨rfl, ⟨nd, rfl⟩⟩) | (go_at_call 36; (with_reducible refine (spec_l1In.calls a0 19968 40959 t130 _ A7.out).mono ?_); rintro e w' ⟨rfl, ⟨nd, rfl⟩⟩)); go_meet
    case rel => exact ⟨_, (t130), zB, H', ⟨zJ⟩, ⟨zA HB.out⟩⟩
 case rest =>
  clear HC2; (try clear c1); (try clear p2); (try clear c3); (try clear c4); (try clear c6); obtain ⟨kq, x3_1, rfl, HA, HJ1, HB⟩ := hcut
  cases kq with
  | zero => exact absurd HA.out (by simp [spec_RuneBidi.j0])
  | succ kj1 =>
   have H := HA.out; clear HA; simp only [spec_RuneBidi.j0] at H; by_cases c8 : x3_1 = true
   ·
    subst c8; have H1 : (some 1) = some r := by rw [if_pos rfl] at H; exact H
    clear H; have H := H1; clear H1; obtain rfl := Option.some.inj H; go_wp2; go_ret; exact ⟨zG, zA HB.out⟩
   ·
    replace c8 := Bool.eq_false_iff.mpr c8; subst c8; have H1 : ((spec_l1In.f a0 1488 1514).bind fun t131 => (if t131 = true then (some 2) else ((spec_l1In.f a0 1569 1610).bind fun t132 => (if t132 = true then (some 3) else ((spec_l1In.f a0 48 57).bind fun t133 => (if t133 = true then (some 4) else ((spec_l1In.f a0 1632 1641).bind fun t134 => (if t134 = true then (some 7) else ((spec_l1Signs.f kj1 a0).bind fun t135 => (some t135)))))))))) = some r := by rw [if_neg (show ¬ (false = true) by decide)] at H; exact H
    clear H; have H := H1; clear H1; replace H := Option.bind_eq_some_iff.mp H; obtain ⟨t131, A90, H⟩ := H; replace H : (if t131 = true then (some 2) else ((spec_l1In.f a0 1569 1610).bind fun t132 => (if t132 = true then (some 3) else ((spec_l1In.f a0 48 57).bind fun t133 => (if t133 = true then (some 4) else ((spec_l1In.f a0 1632 1641).bind fun t134 => (if t134 = true then (some 7) else ((spec_l1Signs.f kj1 a0).bind fun t135 => (some t135))))))))) = some r := H; have A9 := az A90; clear A90; by_cases c10 : t131 = true
    ·
     subst c10; have H1 : (some 2) = some r := by rw [if_pos rfl] at H; exact H
     clear H; have H := H1; clear H1; obtain rfl := Option.some.inj H; go_wp2_with (first | ((with_reducible refine gate_callee (f := 36) rfl ?_); refine goesL_ (some 16) rfl rfl Tryz.func36 (by kernel_rfl) rfl #[.int .i64 a0, .int .i64 1488, .int .i64 1514] rfl zC ?_; (with_reducible refine (spec_l1In.calls a0 1488 1514 true _ A9.out).mono ?_); rintro e w' ⟨rfl, ⟨nd, rfl⟩⟩; refine ⟨_, rfl, ?_⟩)); go_ret; exact ⟨zG, zA HB.out⟩
    ·
     replace c10 := Bool.eq_false_iff.mpr c10; subst c10; have H1 : ((spec_l1In.f a0 1569 1610).bind fun t132 => (if t132 = true then (some 3) else ((spec_l1In.f a0 48 57).bind fun t133 => (if t133 = true then (some 4) else ((spec_l1In.f a0 1632 1641).bind fun t134 => (if t134 = true then (some 7) else ((spec_l1Signs.f kj1 a0).bind fun t135 => (some t135)))))))) = some r := by rw [if_neg (show ¬ (false = true) by decide)] at H; exact H
     clear H; have H := H1; clear H1; replace H := Option.bind_eq_some_iff.mp H; obtain ⟨t132, A110, H⟩ := H; replace H : (if t132 = true then (some 3) else ((spec_l1In.f a0 48 57).bind fun t133 => (if t133 = true then (some 4) else ((spec_l1In.f a0 1632 1641).bind fun t134 => (if t134 = true then (some 7) else ((spec_l1Signs.f kj1 a0).bind fun t135 => (some t135))))))) = some r := H; have A11 := az A110; clear A110; by_cases c12 : t132 = true
     ·
      subst c12; have H1 : (some 3) = some r := by rw [if_pos rfl] at H; exact H
      clear H; have H := H1; clear H1; obtain rfl := Option.some.inj H; go_wp2_with (first | ((with_reducible refine gate_callee (f := 36) rfl ?_); refine goesL_ (some 16) rfl rfl Tryz.func36 (by kernel_rfl) rfl #[.int .i64 a0, .int .i64 1488, .int .i64 1514] rfl zC ?_; (with_reducible refine (spec_l1In.calls a0 1488 1514 false _ A9.out).mono ?_); rintro e w' ⟨rfl, ⟨nd, rfl⟩⟩; refine ⟨_, rfl, ?_⟩) | ((with_reducible refine gate_callee (f := 36) rfl ?_); refine goesL_ (some 19) rfl rfl Tryz.func36 (by kernel_rfl) rfl #[.int .i64 a0, .int .i64 1569, .int .i64 1610] rfl zC ?_; (with_reducible refine (spec_l1In.calls a0 1569 1610 true _ A11.out).mono ?_); rintro e w' ⟨rfl, ⟨nd, rfl⟩⟩; refine ⟨_, rfl, ?_⟩)); go_ret; exact ⟨zG, zA HB.out⟩
     ·
      replace c12 := Bool.eq_false_iff.mpr c12; subst c12; have H1 : ((spec_l1In.f a0 48 57).bind fun t133 => (if t133 = true then (some 4) else ((spec_l1In.f a0 1632 1641).bind fun t134 => (if t134 = true then (some 7) else ((spec_l1Signs.f kj1 a0).bind fun t135 => (some t135)))))) = some r := by rw [if_neg (show ¬ (false = true) by decide)] at H; exact H
      clear H; have H := H1; clear H1; replace H := Option.bind_eq_some_iff.mp H; obtain ⟨t133, A130, H⟩ := H; replace H : (if t133 = true then (some 4) else ((spec_l1In.f a0 1632 1641).bind fun t134 => (if t134 = true then (some 7) else ((spec_l1Signs.f kj1 a0).bind fun t135 => (some t135))))) = some r := H; have A13 := az A130; clear A130; by_cases c14 : t133 = true
      ·
       subst c14; have H1 : (some 4) = some r := by rw [if_pos rfl] at H; exact H
       clear H; have H := H1; clear H1; obtain rfl := Option.some.inj H; go_wp2_with (first | ((with_reducible refine gate_callee (f := 36) rfl ?_); refine goesL_ (some 16) rfl rfl Tryz.func36 (by kernel_rfl) rfl #[.int .i64 a0, .int .i64 1488, .int .i64 1514] rfl zC ?_; (with_reducible refine (spec_l1In.calls a0 1488 1514 false _ A9.out).mono ?_); rintro e w' ⟨rfl, ⟨nd, rfl⟩⟩; refine ⟨_, rfl, ?_⟩) | ((with_reducible refine gate_callee (f := 36) rfl ?_); refine goesL_ (some 19) rfl rfl Tryz.func36 (by kernel_rfl) rfl #[.int .i64 a0, .int .i64 1569, .int .i64 1610] rfl zC ?_; (with_reducible refine (spec_l1In.calls a0 1569 1610 false _ A11.out).mono ?_); rintro e w' ⟨rfl, ⟨nd, rfl⟩⟩; refine ⟨_, rfl, ?_⟩) | ((with_reducible refine gate_callee (f := 36) rfl ?_); refine goesL_ (some 22) rfl rfl Tryz.func36 (by kernel_rfl) rfl #[.int .i64 a0, .int .i64 48, .int .i64 57] rfl zC ?_; (with_reducible refine (spec_l1In.calls a0 48 57 true _ A13.out).mono ?_); rintro e w' ⟨rfl, ⟨nd, rfl⟩⟩; refine ⟨_, rfl, ?_⟩)); go_ret; exact ⟨zG, zA HB.out⟩
      ·
       replace c14 := Bool.eq_false_iff.mpr c14; subst c14; have H1 : ((spec_l1In.f a0 1632 1641).bind fun t134 => (if t134 = true then (some 7) else ((spec_l1Signs.f kj1 a0).bind fun t135 => (some t135)))) = some r := by rw [if_neg (show ¬ (false = true) by decide)] at H; exact H
       clear H; have H := H1; clear H1; replace H := Option.bind_eq_some_iff.mp H; obtain ⟨t134, A150, H⟩ := H; replace H : (if t134 = true then (some 7) else ((spec_l1Signs.f kj1 a0).bind fun t135 => (some t135))) = some r := H; have A15 := az A150; clear A150; by_cases c16 : t134 = true
       ·
        subst c16; have H1 : (some 7) = some r := by rw [if_pos rfl] at H; exact H
        clear H; have H := H1; clear H1; obtain rfl := Option.some.inj H; go_wp2_with (first | ((with_reducible refine gate_callee (f := 36) rfl ?_); refine goesL_ (some 16) rfl rfl Tryz.func36 (by kernel_rfl) rfl #[.int .i64 a0, .int .i64 1488, .int .i64 1514] rfl zC ?_; (with_reducible refine (spec_l1In.calls a0 1488 1514 false _ A9.out).mono ?_); rintro e w' ⟨rfl, ⟨nd, rfl⟩⟩; refine ⟨_, rfl, ?_⟩) | ((with_reducible refine gate_callee (f := 36) rfl ?_); refine goesL_ (some 19) rfl rfl Tryz.func36 (by kernel_rfl) rfl #[.int .i64 a0, .int .i64 1569, .int .i64 1610] rfl zC ?_; (with_reducible refine (spec_l1In.calls a0 1569 1610 false _ A11.out).mono ?_); rintro e w' ⟨rfl, ⟨nd, rfl⟩⟩; refine ⟨_, rfl, ?_⟩) | ((with_reducible refine gate_callee (f := 36) rfl ?_); refine goesL_ (some 22) rfl rfl Tryz.func36 (by kernel_rfl) rfl #[.int .i64 a0, .int .i64 48, .int .i64 57] rfl zC ?_; (with_reducible refine (spec_l1In.calls a0 48 57 false _ A13.out).mono ?_); rintro e w' ⟨rfl, ⟨nd, rfl⟩⟩; refine ⟨_, rfl, ?_⟩) | ((with_reducible refine gate_callee (f := 36) rfl ?_); refine goesL_ (some 25) rfl rfl Tryz.func36 (by kernel_rfl) rfl #[.int .i64 a0, .int .i64 1632, .int .i64 1641] rfl zC ?_; (with_reducible refine (spec_l1In.calls a0 1632 1641 true _ A15.out).mono ?_); rintro e w' ⟨rfl, ⟨nd, rfl⟩⟩; refine ⟨_, rfl, ?_⟩)); go_ret; exact ⟨zG, zA HB.out⟩
       ·
        replace c16 := Bool.eq_false_iff.mpr c16; subst c16; have H1 : ((spec_l1Signs.f kj1 a0).bind fun t135 => (some t135)) = some r := by rw [if_neg (show ¬ (false = true) by decide)] at H; exact H
        clear H; have H := H1; clear H1; replace H := Option.bind_eq_some_iff.mp H; obtain ⟨t135, A170, H⟩ := H; replace H : (some t135) = some r := H; have A17 := az A170; clear A170; obtain rfl := Option.some.inj H; go_wp2_with (first | ((with_reducible refine gate_callee (f := 36) rfl ?_); refine goesL_ (some 16) rfl rfl Tryz.func36 (by kernel_rfl) rfl #[.int .i64 a0, .int .i64 1488, .int .i64 1514] rfl zC ?_; (with_reducible refine (spec_l1In.calls a0 1488 1514 false _ A9.out).mono ?_); rintro e w' ⟨rfl, ⟨nd, rfl⟩⟩; refine ⟨_, rfl, ?_⟩) | ((with_reducible refine gate_callee (f := 36) rfl ?_); refine goesL_ (some 19) rfl rfl Tryz.func36 (by kernel_rfl) rfl #[.int .i64 a0, .int .i64 1569, .int .i64 1610] rfl zC ?_; (with_reducible refine (spec_l1In.calls a0 1569 1610 false _ A11.out).mono ?_); rintro e w' ⟨rfl, ⟨nd, rfl⟩⟩; refine ⟨_, rfl, ?_⟩) | ((with_reducible refine gate_callee (f := 36) rfl ?_); refine goesL_ (some 22) rfl rfl Tryz.func36 (by kernel_rfl) rfl #[.int .i64 a0, .int .i64 48, .int .i64 57] rfl zC ?_; (with_reducible refine (spec_l1In.calls a0 48 57 false _ A13.out).mono ?_); rintro e w' ⟨rfl, ⟨nd, rfl⟩⟩; refine ⟨_, rfl, ?_⟩) | ((with_reducible refine gate_callee (f := 36) rfl ?_); refine goesL_ (some 25) rfl rfl Tryz.func36 (by kernel_rfl) rfl #[.int .i64 a0, .int .i64 1632, .int .i64 1641] rfl zC ?_; (with_reducible refine (spec_l1In.calls a0 1632 1641 false _ A15.out).mono ?_); rintro e w' ⟨rfl, ⟨nd, rfl⟩⟩; refine ⟨_, rfl, ?_⟩) | ((with_reducible refine gate_callee (f := 144) rfl ?_); refine goesL_ (some 27) rfl rfl Tryz.func144 (by kernel_rfl) rfl #[.int .i64 a0] rfl zC ?_; (with_reducible refine (spec_l1Signs.calls kj1 a0 t135 _ A17.out).mono ?_); rintro e w18 ⟨rfl, hb⟩; refine ⟨_, rfl, ?_⟩; have n0_ := az (below_step (zA HB.out) hb); clear HB; have HB := n0_; clear n0_; (try clear hb); (try clear hb2); (try clear hk); (try clear hi))); go_ret; exact ⟨zG, zA HB.out⟩
def spec_l2Flag.f (a0 : Int) : Option (Bool) := (spec_l1In.f a0 127462 127487).bind fun t136 => (some t136)
theorem spec_l2Flag.calls (a0 : Int) (r : Bool) (w : World) (h : spec_l2Flag.f a0 = some r) :
  Calls Tryz.prog 138 #[.int .i64 a0] w fun e w' => e = .returned (.bool r) ∧ Drawn0 w w' := by
 have H : ((spec_l1In.f a0 127462 127487).bind fun t136 => (some t136)) = some r := h
 clear h
 replace H := Option.bind_eq_some_iff.mp H
 obtain ⟨t136, A20, H⟩ := H
 replace H : (some t136) = some r := H
 have A2 := az A20
 clear A20
 obtain rfl := Option.some.inj H
 go_enter Tryz.func138, Tryz.ntmps138
 go_wp2_with (first | ((with_reducible refine gate_callee (f := 36) rfl ?_); refine goesL_ (some 4) rfl rfl Tryz.func36 (by kernel_rfl) rfl #[.int .i64 a0, .int .i64 127462, .int .i64 127487] rfl (by (try simp only [List.map_toArray, List.map_cons, List.map_nil]); first | done | rfl | (simp only [List.length_drop, List.length_take]; rfl)) ?_; (with_reducible refine (spec_l1In.calls a0 127462 127487 t136 _ A2.out).mono ?_); rintro e w' ⟨rfl, ⟨nd, rfl⟩⟩; refine ⟨_, rfl, ?_⟩))
 go_ret
 exact ⟨zB, zD⟩
mutual
def spec_l2Joins.j0 : Nat → List Int → Int → Int → Bool → Option (Bool)
 | 0, _, _, _, _ => none
 | k + 1, x0, x1, x5, x21 => if x21 = true then (if 0 ≤ (wrap64 (x1 - 1)) then (if (wrap64 (x1 - 1)) < (x0.length : Int) then (if (rd x0 (wrap64 (x1 - 1))) = 13 then (some (x5 == 10)) else (some false)) else (none)) else (none)) else ((spec_RuneBidi.f k x5).bind fun t140 => (if t140 = 9 then (spec_l2Joins.j1 k x0 x1 x5 true) else (spec_l2Joins.j1 k x0 x1 x5 (x5 == 8205))))
def spec_l2Joins.j1 : Nat → List Int → Int → Int → Bool → Option (Bool)
 | 0, _, _, _, _ => none
 | k + 1, x0, x1, x5, x38 => if x38 = true then (some true) else (spec_l2Joins.l0 k x0 x5 0 (wrap64 (x1 - 1)))
def spec_l2Joins.l0 : Nat → List Int → Int → Int → Int → Option (Bool)
 | 0, _, _, _, _ => none
 | k + 1, x0, x5, x6, x7 => if x7 ≥ 0 then (if 0 ≤ x7 then (if x7 < (x0.length : Int) then ((spec_l2Flag.f (rd x0 x7)).bind fun t142 => (if t142 = true then (spec_l2Joins.l0 k x0 x5 (wrap64 (x6 + 1)) (wrap64 (x7 - 1))) else ((spec_l2Flag.f x5).bind fun t143 => (if t143 = true then (some ((Int.tmod x6 2) == 1)) else (some false))))) else (none)) else (none)) else ((spec_l2Flag.f x5).bind fun t144 => (if t144 = true then (some ((Int.tmod x6 2) == 1)) else (some false)))
end
def spec_l2Joins.f (k : Nat) (l0 : List Int) (a1 : Int) : Option (Bool) := if 0 ≤ a1 then (if a1 < (l0.length : Int) then (if (rd l0 a1) = 10 then (spec_l2Joins.j0 k l0 a1 (rd l0 a1) true) else (if 0 ≤ (wrap64 (a1 - 1)) then (if (wrap64 (a1 - 1)) < (l0.length : Int) then (spec_l2Joins.j0 k l0 a1 (rd l0 a1) ((rd l0 (wrap64 (a1 - 1))) == 10)) else (none)) else (none))) else (none)) else (none)
theorem spec_l2Joins.mono_l : ∀ k, (∀ y0 y1 y2 y3, LeO (spec_l2Joins.j0 k y0 y1 y2 y3) (spec_l2Joins.j0 (k + 1) y0 y1 y2 y3)) ∧ (∀ y0 y1 y2 y3, LeO (spec_l2Joins.j1 k y0 y1 y2 y3) (spec_l2Joins.j1 (k + 1) y0 y1 y2 y3)) ∧ (∀ y0 y1 y2 y3, LeO (spec_l2Joins.l0 k y0 y1 y2 y3) (spec_l2Joins.l0 (k + 1) y0 y1 y2 y3))
 | 0 => ⟨fun _ _ _ _ r h => by simp [spec_l2Joins.j0] at h, fun _ _ _ _ r h => by simp [spec_l2Joins.j1] at h, fun _ _ _ _ r h => by simp [spec_l2Joins.l0] at h⟩
 | k + 1 => by
  obtain ⟨ih0, ih1, ih2⟩ := spec_l2Joins.mono_l k; refine ⟨?_, ?_, ?_⟩
  ·
   intro y0 y1 y2 y3; unfold spec_l2Joins.j0
   repeat' first
   | (with_reducible exact ih0 _ _ _ _)
   | (with_reducible exact ih1 _ _ _ _)
   | (with_reducible exact ih2 _ _ _ _)
   | (with_reducible exact spec_RuneBidi.mono _ _)
   | (with_reducible exact LeO.refl _)
   | (with_reducible exact LeO.none _)
   | (with_reducible refine LeO.ite ?_ ?_)
   | (with_reducible refine LeO.bind ?_ (fun _ => ?_))
   | exact ih0 _ _ _ _
   | exact ih1 _ _ _ _
   | exact ih2 _ _ _ _
   | exact spec_RuneBidi.mono _ _
   | exact LeO.none _
   | refine LeO.ite ?_ ?_
   | refine LeO.bind ?_ (fun _ => ?_)
  ·
   intro y0 y1 y2 y3; unfold spec_l2Joins.j1
   repeat' first
   | (with_reducible exact ih0 _ _ _ _)
   | (with_reducible exact ih1 _ _ _ _)
   | (with_reducible exact ih2 _ _ _ _)
   | (with_reducible exact spec_RuneBidi.mono _ _)
   | (with_reducible exact LeO.refl _)
   | (with_reducible exact LeO.none _)
   | (with_reducible refine LeO.ite ?_ ?_)
   | (with_reducible refine LeO.bind ?_ (fun _ => ?_))
   | exact ih0 _ _ _ _
   | exact ih1 _ _ _ _
   | exact ih2 _ _ _ _
   | exact spec_RuneBidi.mono _ _
   | exact LeO.none _
   | refine LeO.ite ?_ ?_
   | refine LeO.bind ?_ (fun _ => ?_)
  ·
   intro y0 y1 y2 y3; unfold spec_l2Joins.l0
   repeat' first
   | (with_reducible exact ih0 _ _ _ _)
   | (with_reducible exact ih1 _ _ _ _)
   | (with_reducible exact ih2 _ _ _ _)
   | (with_reducible exact spec_RuneBidi.mono _ _)
   | (with_reducible exact LeO.refl _)
   | (with_reducible exact LeO.none _)
   | (with_reducible refine LeO.ite ?_ ?_)
   | (with_reducible refine LeO.bind ?_ (fun _ => ?_))
   | exact ih0 _ _ _ _
   | exact ih1 _ _ _ _
   | exact ih2 _ _ _ _
   | exact spec_RuneBidi.mono _ _
   | exact LeO.none _
   | refine LeO.ite ?_ ?_
   | refine LeO.bind ?_ (fun _ => ?_)
theorem spec_l2Joins.mono : ∀ a0 a1 k, LeO (spec_l2Joins.f k a0 a1) (spec_l2Joins.f (k + 1) a0 a1) := by
 intro a0 a1 k; obtain ⟨ih0, ih1, ih2⟩ := spec_l2Joins.mono_l k; unfold spec_l2Joins.f
 repeat' first
   | (with_reducible exact ih0 _ _ _ _)
   | (with_reducible exact ih1 _ _ _ _)
   | (with_reducible exact ih2 _ _ _ _)
   | (with_reducible exact spec_RuneBidi.mono _ _)
   | (with_reducible exact LeO.refl _)
   | (with_reducible exact LeO.none _)
   | (with_reducible refine LeO.ite ?_ ?_)
   | (with_reducible refine LeO.bind ?_ (fun _ => ?_))
   | exact ih0 _ _ _ _
   | exact ih1 _ _ _ _
   | exact ih2 _ _ _ _
   | exact spec_RuneBidi.mono _ _
   | exact LeO.none _
   | refine LeO.ite ?_ ?_
   | refine LeO.bind ?_ (fun _ => ?_)
theorem spec_l2Joins.calls (k : Nat) (A0 : Option Addr) (c0 : Nat) (l0 : List Int) (a1 : Int) (r : Bool) (w : World) (hr0 : Kd.C (Kd.int .i64) w A0 l0.length l0) (hc0 : l0.length ≤ c0) (h : spec_l2Joins.f k l0 a1 = some r) :
  Calls Tryz.prog 124 #[.slice A0 l0.length c0, .int .i64 a1] w fun e w' => e = .returned (.bool r) ∧ Below w.heap.size w w' := by
 have HR0 := az hr0; have HC0 := az hc0; clear hr0 hc0; have HB := az (Below.refl w.heap.size w); have H : (if 0 ≤ a1 then (if a1 < (l0.length : Int) then (if (rd l0 a1) = 10 then (spec_l2Joins.j0 k l0 a1 (rd l0 a1) true) else (if 0 ≤ (wrap64 (a1 - 1)) then (if (wrap64 (a1 - 1)) < (l0.length : Int) then (spec_l2Joins.j0 k l0 a1 (rd l0 a1) ((rd l0 (wrap64 (a1 - 1))) == 10)) else (none)) else (none))) else (none)) else (none)) = some r := h; clear h; by_cases c3 : 0 ≤ a1
 ·
  rw [if_pos c3] at H; have c3b0 : decide (0 ≤ a1) = true := decide_eq_true c3; clear c3; by_cases c4 : a1 < (l0.length : Int)
  ·
   rw [if_pos c4] at H; have c4b0 : decide (a1 < (l0.length : Int)) = true := decide_eq_true c4; clear c4; have HC5 := az H; clear H; have p137 : 0 ≤ (a1 : Int) := of_decide_eq_true (by assumption); have q137 : a1 < (l0.length : Int) := of_decide_eq_true (by assumption); obtain ⟨ad137, e137, hx137_0⟩ := Kd.at_int HR0.out a1 p137 q137
   cases e137
   replace p137 := eq_true p137; replace q137 := eq_true q137; go_enter Tryz.func124, Tryz.ntmps124; go_upto_region 2 with (fail)
   go_cut [21] (fun v21 wc => ∃ (kq : Nat) (x21_4 : Bool), v21 = .bool x21_4 ∧ Aside0 (spec_l2Joins.j0 kq l0 a1 (rd l0 a1) x21_4 = some r) ∧ Aside0 (kq ≤ k) ∧ Aside0 (Below w.heap.size w wc))
   case first =>
    have H := HC5.out; clear HC5; by_cases c6 : (rd l0 a1) = 10
    ·
     rw [if_pos c6] at H; have c6b0 : ((rd l0 a1) == 10) = true := beq_iff_eq.mpr c6; have c6b1 : ((rd l0 a1) != 10) = false := bne_eq_false_iff_eq.mpr c6; clear c6; (first | rw [c6b0] | (simp only [i64_w, i32_w]; rw [c6b0]) | skip); have H' := az H; clear H; go_wp2; go_meet
     case rel => exact ⟨_, (true), zB, H', ⟨zJ⟩, ⟨zA HB.out⟩⟩
    ·
     rw [if_neg c6] at H; have c6b0 : ((rd l0 a1) == 10) = false := beq_eq_false_iff_ne.mpr c6; have c6b1 : ((rd l0 a1) != 10) = true := bne_iff_ne.mpr c6; (first | rw [c6b0] | (simp only [i64_w, i32_w]; rw [c6b0]) | skip); obtain ⟨ji7, hji7⟩ : ∃ j_ : Int, (wrap64 (a1 - 1)) = j_ := ⟨_, rfl⟩; replace H : (if 0 ≤ (ji7) then (if (ji7) < (l0.length : Int) then (spec_l2Joins.j0 k l0 a1 (rd l0 a1) ((rd l0 (ji7)) == 10)) else (none)) else (none)) = some r := by first | (rw [hji7] at H; exact H) | (simp only [hji7] at H ⊢; exact H)
     have hji7w : (IntKind.i64.wrap (a1 - 1)) = ji7 := (i64_w _).trans hji7; by_cases c8 : 0 ≤ (ji7)
     ·
      rw [if_pos c8] at H; have c8b0 : decide (0 ≤ (ji7)) = true := decide_eq_true c8; clear c8; by_cases c9 : (ji7) < (l0.length : Int)
      ·
       rw [if_pos c9] at H; have c9b0 : decide ((ji7) < (l0.length : Int)) = true := decide_eq_true c9; clear c9; have H' := az H; clear H; have p138 : 0 ≤ ((ji7) : Int) := of_decide_eq_true (by assumption); have q138 : (ji7) < (l0.length : Int) := of_decide_eq_true (by assumption); obtain ⟨ad138, e138, hx138_0⟩ := Kd.at_int HR0.out (ji7) p138 q138; obtain rfl : ad137 = ad138 := (by injection e138); replace hx138_0 := (HB.out.cell (World.block_lt_of_cell? w _ hx138_0)).trans hx138_0; replace p138 := eq_true p138; replace q138 := eq_true q138; go_wp2; go_meet
       case rel => exact ⟨_, (((rd l0 (ji7)) == 10)), (by first | rfl | (simp; done) | (simp only [← hji7] <;> (first | rfl | simp)) | (simp [*]; done)), H', ⟨zJ⟩, ⟨zA HB.out⟩⟩
      ·
       rw [if_neg c9] at H; exact absurd H (by simp)
     ·
      rw [if_neg c8] at H; exact absurd H (by simp)
   case rest =>
    clear HC5; (try clear c1); (try clear p1); (try clear q1); (try clear hx1); (try clear p2); (try clear c3); (try clear c3b0); (try clear c4); (try clear c4b0); (try clear c6); (try clear c6b0); (try clear c6b1); (try clear p6); (try clear c8); (try clear c8b0); (try clear c9); (try clear c9b0); (try clear hx137_0); (try clear hx138_0); (try clear p137); (try clear p138); (try clear q137); (try clear q138); obtain ⟨kq, x21_4, rfl, HA, HJ4, HB⟩ := hcut
    cases kq with
    | zero => exact absurd HA.out (by simp [spec_l2Joins.j0])
    | succ kj4 =>
     have H := HA.out; clear HA; simp only [spec_l2Joins.j0] at H; by_cases c10 : x21_4 = true
     ·
      subst c10; have H1 : (if 0 ≤ (wrap64 (a1 - 1)) then (if (wrap64 (a1 - 1)) < (l0.length : Int) then (if (rd l0 (wrap64 (a1 - 1))) = 13 then (some ((rd l0 a1) == 10)) else (some false)) else (none)) else (none)) = some r := by rw [if_pos rfl] at H; exact H
      clear H; have H := H1; clear H1; obtain ⟨ji11, hji11⟩ : ∃ j_ : Int, (wrap64 (a1 - 1)) = j_ := ⟨_, rfl⟩; replace H : (if 0 ≤ (ji11) then (if (ji11) < (l0.length : Int) then (if (rd l0 (ji11)) = 13 then (some ((rd l0 a1) == 10)) else (some false)) else (none)) else (none)) = some r := by first | (rw [hji11] at H; exact H) | (simp only [hji11] at H ⊢; exact H)
      have hji11w : (IntKind.i64.wrap (a1 - 1)) = ji11 := (i64_w _).trans hji11; by_cases c12 : 0 ≤ (ji11)
      ·
       rw [if_pos c12] at H; have c12b0 : decide (0 ≤ (ji11)) = true := decide_eq_true c12; clear c12; by_cases c13 : (ji11) < (l0.length : Int)
       ·
        rw [if_pos c13] at H; have c13b0 : decide ((ji11) < (l0.length : Int)) = true := decide_eq_true c13; clear c13; by_cases c14 : (rd l0 (ji11)) = 13
        ·
         rw [if_pos c14] at H; have c14b0 : ((rd l0 (ji11)) == 13) = true := beq_iff_eq.mpr c14; have c14b1 : ((rd l0 (ji11)) != 13) = false := bne_eq_false_iff_eq.mpr c14; clear c14; obtain rfl := Option.some.inj H; have p139 : 0 ≤ ((ji11) : Int) := of_decide_eq_true (by assumption); have q139 : (ji11) < (l0.length : Int) := of_decide_eq_true (by assumption); obtain ⟨ad139, e139, hx139_0⟩ := Kd.at_int HR0.out (ji11) p139 q139; obtain rfl : ad137 = ad139 := (by injection e139); replace hx139_0 := (HB.out.cell (World.block_lt_of_cell? w _ hx139_0)).trans hx139_0; replace p139 := eq_true p139; replace q139 := eq_true q139; go_wp2; go_ret; exact ⟨by first | rfl | (simp [errW_none, errW_some] <;> rfl) | (simp only [← hji11]; first | rfl | (simp [errW_none, errW_some] <;> rfl)) | (simp [*, errW_none, errW_some] <;> rfl), zA HB.out⟩
        ·
         rw [if_neg c14] at H; have c14b0 : ((rd l0 (ji11)) == 13) = false := beq_eq_false_iff_ne.mpr c14; have c14b1 : ((rd l0 (ji11)) != 13) = true := bne_iff_ne.mpr c14; obtain rfl := Option.some.inj H; have p139 : 0 ≤ ((ji11) : Int) := of_decide_eq_true (by assumption); have q139 : (ji11) < (l0.length : Int) := of_decide_eq_true (by assumption); obtain ⟨ad139, e139, hx139_0⟩ := Kd.at_int HR0.out (ji11) p139 q139; obtain rfl : ad137 = ad139 := (by injection e139); replace hx139_0 := (HB.out.cell (World.block_lt_of_cell? w _ hx139_0)).trans hx139_0; replace p139 := eq_true p139; replace q139 := eq_true q139; go_wp2; go_ret; exact ⟨by first | rfl | (simp [errW_none, errW_some] <;> rfl) | (simp only [← hji11]; first | rfl | (simp [errW_none, errW_some] <;> rfl)) | (simp [*, errW_none, errW_some] <;> rfl), zA HB.out⟩
       ·
        rw [if_neg c13] at H; exact absurd H (by simp)
      ·
       rw [if_neg c12] at H; exact absurd H (by simp)
     ·
      replace c10 := Bool.eq_false_iff.mpr c10; subst c10; have H1 : ((spec_RuneBidi.f kj4 (rd l0 a1)).bind fun t140 => (if t140 = 9 then (spec_l2Joins.j1 kj4 l0 a1 (rd l0 a1) true) else (spec_l2Joins.j1 kj4 l0 a1 (rd l0 a1) ((rd l0 a1) == 8205)))) = some r := by rw [if_neg (show ¬ (false = true) by decide)] at H; exact H
      clear H; have H := H1; clear H1; have HC15 := az H; clear H; go_upto_region 4 with (fail)
      go_cut [38] (fun v38 wc => ∃ (kq : Nat) (x38_14 : Bool), v38 = .bool x38_14 ∧ Aside0 (spec_l2Joins.j1 kq l0 a1 (rd l0 a1) x38_14 = some r) ∧ Aside0 (kq ≤ kj4) ∧ Aside0 (Below w.heap.size w wc))
      case first =>
       have H := HC15.out; clear HC15; replace H := Option.bind_eq_some_iff.mp H; obtain ⟨t140, A160, H⟩ := H; replace H : (if t140 = 9 then (spec_l2Joins.j1 kj4 l0 a1 (rd l0 a1) true) else (spec_l2Joins.j1 kj4 l0 a1 (rd l0 a1) ((rd l0 a1) == 8205))) = some r := H; have A16 := az A160; clear A160; by_cases c17 : t140 = 9
       ·
        rw [if_pos c17] at H; have c17b0 : (t140 == 9) = true := beq_iff_eq.mpr c17; have c17b1 : (t140 != 9) = false := bne_eq_false_iff_eq.mpr c17; clear c17; (first | rw [c17b0] | (simp only [i64_w, i32_w]; rw [c17b0]) | skip); have H' := az H; clear H; go_wp2_with (first | ((with_reducible refine gate_callee (f := 137) rfl ?_); refine goesL_ (some 33) rfl rfl Tryz.func137 (by kernel_rfl) rfl #[.int .i64 (rd l0 a1)] rfl zC ?_; (with_reducible refine (spec_RuneBidi.calls kj4 (rd l0 a1) t140 _ A16.out).mono ?_); rintro e w18 ⟨rfl, hb⟩; refine ⟨_, rfl, ?_⟩; have n0_ := az (below_step (zA HB.out) hb); clear HB; have HB := n0_; clear n0_; (try clear hb); (try clear hb2); (try clear hk); (try clear hi))); go_meet
        case rel => exact ⟨_, (true), zB, H', ⟨zK HJ4.out⟩, ⟨zA HB.out⟩⟩
       ·
        rw [if_neg c17] at H; have c17b0 : (t140 == 9) = false := beq_eq_false_iff_ne.mpr c17; have c17b1 : (t140 != 9) = true := bne_iff_ne.mpr c17; (first | rw [c17b0] | (simp only [i64_w, i32_w]; rw [c17b0]) | skip); have H' := az H; clear H; go_wp2_with (first | ((with_reducible refine gate_callee (f := 137) rfl ?_); refine goesL_ (some 33) rfl rfl Tryz.func137 (by kernel_rfl) rfl #[.int .i64 (rd l0 a1)] rfl zC ?_; (with_reducible refine (spec_RuneBidi.calls kj4 (rd l0 a1) t140 _ A16.out).mono ?_); rintro e w19 ⟨rfl, hb⟩; refine ⟨_, rfl, ?_⟩; have n0_ := az (below_step (zA HB.out) hb); clear HB; have HB := n0_; clear n0_; (try clear hb); (try clear hb2); (try clear hk); (try clear hi))); go_meet
        case rel => exact ⟨_, (((rd l0 a1) == 8205)), zB, H', ⟨zK HJ4.out⟩, ⟨zA HB.out⟩⟩
      case rest =>
       clear HC15; (try clear c1); (try clear p1); (try clear q1); (try clear hx1); (try clear p2); (try clear c3); (try clear c3b0); (try clear c4); (try clear c4b0); (try clear c6); (try clear c6b0); (try clear c6b1); (try clear p6); (try clear c8); (try clear c8b0); (try clear c9); (try clear c9b0); (try clear c10); (try clear c12); (try clear c12b0); (try clear c13); (try clear c13b0); (try clear p13); (try clear q13); (try clear hx13); (try clear c14); (try clear c14b0); (try clear c14b1); (try clear c17); (try clear c17b0); (try clear c17b1); (try clear hx137_0); (try clear hx138_0); (try clear hx139_0); (try clear p1); (try clear p137); (try clear p138); (try clear p139); (try clear p2); (try clear p6); (try clear q1); (try clear q137); (try clear q138); (try clear q139); obtain ⟨kq, x38_14, rfl, HA, HJ14, HB⟩ := hcut
       cases kq with
       | zero => exact absurd HA.out (by simp [spec_l2Joins.j1])
       | succ kj14 =>
        have H := HA.out; clear HA; simp only [spec_l2Joins.j1] at H; by_cases c20 : x38_14 = true
        ·
         subst c20; have H1 : (some true) = some r := by rw [if_pos rfl] at H; exact H
         clear H; have H := H1; clear H1; obtain rfl := Option.some.inj H; go_wp2; go_ret; exact ⟨zG, zA HB.out⟩
        ·
         replace c20 := Bool.eq_false_iff.mpr c20; subst c20; have H1 : (spec_l2Joins.l0 kj14 l0 (rd l0 a1) 0 (wrap64 (a1 - 1))) = some r := by rw [if_neg (show ¬ (false = true) by decide)] at H; exact H
         clear H; have H := H1; clear H1; have H' := az H; clear H; go_wp2; go_loopg [6, 7] kj14 (fun kq v6 v7 w' => ∃ (x6_3 : Int) (x7_3 : Int), v6 = .int .i64 x6_3 ∧ v7 = .int .i64 x7_3 ∧ Aside0 (spec_l2Joins.l0 kq l0 (rd l0 a1) x6_3 x7_3 = some r) ∧ Aside0 (kq ≤ kj14) ∧ Aside0 (Below w.heap.size w w'))
         case atStart => exact ⟨(0), (wrap64 (a1 - 1)), zB, zB, H', ⟨Nat.le_refl _⟩, ⟨zA HB.out⟩⟩
         case round =>
          clear H'; (try clear c1); (try clear p1); (try clear q1); (try clear hx1); (try clear c2); (try clear p2); (try clear c3); (try clear c3b0); (try clear c4); (try clear c4b0); (try clear c6); (try clear c6b0); (try clear c6b1); (try clear p6); (try clear c8); (try clear c8b0); (try clear c9); (try clear c9b0); (try clear c10); (try clear c12); (try clear c12b0); (try clear c13); (try clear c13b0); (try clear p13); (try clear q13); (try clear hx13); (try clear c14); (try clear c14b0); (try clear c14b1); (try clear c17); (try clear c17b0); (try clear c17b1); (try clear c20); (try clear hx137_0); (try clear hx138_0); (try clear hx139_0); (try clear p1); (try clear p13); (try clear p137); (try clear p138); (try clear p139); (try clear p2); (try clear p6); (try clear q1); (try clear q13); (try clear q137); (try clear q138); (try clear q139); obtain ⟨x6_3, x7_3, rfl, rfl, HA, HK3, HB⟩ := hrel
          cases gk with
          | zero => exact absurd HA.out (by simp [spec_l2Joins.l0])
          | succ k3 =>
           have H := HA.out; clear HA; simp only [spec_l2Joins.l0] at H; by_cases c21 : x7_3 ≥ 0
           ·
            rw [if_pos c21] at H; have c21b0 : decide (0 ≤ x7_3) = true := decide_eq_true c21; clear c21; by_cases c22 : 0 ≤ x7_3
            ·
             rw [if_pos c22] at H; have c22b0 : decide (0 ≤ x7_3) = true := decide_eq_true c22; clear c22; by_cases c23 : x7_3 < (l0.length : Int)
             ·
              rw [if_pos c23] at H; have c23b0 : decide (x7_3 < (l0.length : Int)) = true := decide_eq_true c23; clear c23; replace H := Option.bind_eq_some_iff.mp H; obtain ⟨t142, A240, H⟩ := H; replace H : (if t142 = true then (spec_l2Joins.l0 k3 l0 (rd l0 a1) (wrap64 (x6_3 + 1)) (wrap64 (x7_3 - 1))) else ((spec_l2Flag.f (rd l0 a1)).bind fun t143 => (if t143 = true then (some ((Int.tmod x6_3 2) == 1)) else (some false)))) = some r := H; have A24 := az A240; clear A240; by_cases c25 : t142 = true
              ·
               subst c25; have H1 : (spec_l2Joins.l0 k3 l0 (rd l0 a1) (wrap64 (x6_3 + 1)) (wrap64 (x7_3 - 1))) = some r := by rw [if_pos rfl] at H; exact H
               clear H; have H := H1; clear H1; have H' := az H; clear H; have p141 : 0 ≤ (x7_3 : Int) := of_decide_eq_true (by assumption); have q141 : x7_3 < (l0.length : Int) := of_decide_eq_true (by assumption); obtain ⟨ad141, e141, hx141_0⟩ := Kd.at_int HR0.out x7_3 p141 q141; obtain rfl : ad137 = ad141 := (by injection e141); replace hx141_0 := (HB.out.cell (World.block_lt_of_cell? w _ hx141_0)).trans hx141_0; replace p141 := eq_true p141; replace q141 := eq_true q141; go_wp2_with (first | (go_at_call 138; (with_reducible refine (spec_l2Flag.calls (rd l0 x7_3) true _ A24.out).mono ?_); rintro e w' ⟨rfl, ⟨nd, rfl⟩⟩)); go_roundg k3
               case measure => have := HJ4.out; have := HJ14.out; have := HK3.out; omega
               case rel => exact ⟨(wrap64 (x6_3 + 1)), (wrap64 (x7_3 - 1)), zB, zB, H', ⟨by have := HJ4.out; have := HJ14.out; have := HK3.out; omega⟩, ⟨zA HB.out⟩⟩
              ·
               replace c25 := Bool.eq_false_iff.mpr c25; subst c25; have H1 : ((spec_l2Flag.f (rd l0 a1)).bind fun t143 => (if t143 = true then (some ((Int.tmod x6_3 2) == 1)) else (some false))) = some r := by rw [if_neg (show ¬ (false = true) by decide)] at H; exact H
               clear H; have H := H1; clear H1; replace H := Option.bind_eq_some_iff.mp H; obtain ⟨t143, A260, H⟩ := H; replace H : (if t143 = true then (some ((Int.tmod x6_3 2) == 1)) else (some false)) = some r := H; have A26 := az A260; clear A260; by_cases c27 : t143 = true
               ·
                subst c27; have H1 : (some ((Int.tmod x6_3 2) == 1)) = some r := by rw [if_pos rfl] at H; exact H
                clear H; have H := H1; clear H1; obtain rfl := Option.some.inj H; have p141 : 0 ≤ (x7_3 : Int) := of_decide_eq_true (by assumption); have q141 : x7_3 < (l0.length : Int) := of_decide_eq_true (by assumption); obtain ⟨ad141, e141, hx141_0⟩ := Kd.at_int HR0.out x7_3 p141 q141; obtain rfl : ad137 = ad141 := (by injection e141); replace hx141_0 := (HB.out.cell (World.block_lt_of_cell? w _ hx141_0)).trans hx141_0; replace p141 := eq_true p141; replace q141 := eq_true q141; go_wp2_with (first | (go_at_call 138; (with_reducible refine (spec_l2Flag.calls (rd l0 x7_3) false _ A24.out).mono ?_); rintro e w' ⟨rfl, ⟨nd, rfl⟩⟩) | ((with_reducible refine gate_callee (f := 138) rfl ?_); refine goesL_ (some 55) rfl rfl Tryz.func138 (by kernel_rfl) rfl #[.int .i64 (rd l0 a1)] rfl zC ?_; (with_reducible refine (spec_l2Flag.calls (rd l0 a1) true _ A26.out).mono ?_); rintro e w' ⟨rfl, ⟨nd, rfl⟩⟩; refine ⟨_, rfl, ?_⟩)); go_ret; exact ⟨zG, zA HB.out⟩
               ·
                replace c27 := Bool.eq_false_iff.mpr c27; subst c27; have H1 : (some false) = some r := by rw [if_neg (show ¬ (false = true) by decide)] at H; exact H
                clear H; have H := H1; clear H1; obtain rfl := Option.some.inj H; have p141 : 0 ≤ (x7_3 : Int) := of_decide_eq_true (by assumption); have q141 : x7_3 < (l0.length : Int) := of_decide_eq_true (by assumption); obtain ⟨ad141, e141, hx141_0⟩ := Kd.at_int HR0.out x7_3 p141 q141; obtain rfl : ad137 = ad141 := (by injection e141); replace hx141_0 := (HB.out.cell (World.block_lt_of_cell? w _ hx141_0)).trans hx141_0; replace p141 := eq_true p141; replace q141 := eq_true q141; go_wp2_with (first | (go_at_call 138; (with_reducible refine (spec_l2Flag.calls (rd l0 x7_3) false _ A24.out).mono ?_); rintro e w' ⟨rfl, ⟨nd, rfl⟩⟩) | ((with_reducible refine gate_callee (f := 138) rfl ?_); refine goesL_ (some 55) rfl rfl Tryz.func138 (by kernel_rfl) rfl #[.int .i64 (rd l0 a1)] rfl zC ?_; (with_reducible refine (spec_l2Flag.calls (rd l0 a1) false _ A26.out).mono ?_); rintro e w' ⟨rfl, ⟨nd, rfl⟩⟩; refine ⟨_, rfl, ?_⟩)); go_ret; exact ⟨zG, zA HB.out⟩
             ·
              rw [if_neg c23] at H; exact absurd H (by simp)
            ·
             rw [if_neg c22] at H; exact absurd H (by simp)
           ·
            rw [if_neg c21] at H; have c21b0 : decide (0 ≤ x7_3) = false := decide_eq_false c21; clear c21; replace H := Option.bind_eq_some_iff.mp H; obtain ⟨t144, A280, H⟩ := H; replace H : (if t144 = true then (some ((Int.tmod x6_3 2) == 1)) else (some false)) = some r := H; have A28 := az A280; clear A280; by_cases c29 : t144 = true
            ·
             subst c29; have H1 : (some ((Int.tmod x6_3 2) == 1)) = some r := by rw [if_pos rfl] at H; exact H
             clear H; have H := H1; clear H1; obtain rfl := Option.some.inj H; go_wp2_with (first | ((with_reducible refine gate_callee (f := 138) rfl ?_); refine goesL_ (some 55) rfl rfl Tryz.func138 (by kernel_rfl) rfl #[.int .i64 (rd l0 a1)] rfl zC ?_; (with_reducible refine (spec_l2Flag.calls (rd l0 a1) true _ A28.out).mono ?_); rintro e w' ⟨rfl, ⟨nd, rfl⟩⟩; refine ⟨_, rfl, ?_⟩)); go_ret; exact ⟨zG, zA HB.out⟩
            ·
             replace c29 := Bool.eq_false_iff.mpr c29; subst c29; have H1 : (some false) = some r := by rw [if_neg (show ¬ (false = true) by decide)] at H; exact H
             clear H; have H := H1; clear H1; obtain rfl := Option.some.inj H; go_wp2_with (first | ((with_reducible refine gate_callee (f := 138) rfl ?_); refine goesL_ (some 55) rfl rfl Tryz.func138 (by kernel_rfl) rfl #[.int .i64 (rd l0 a1)] rfl zC ?_; (with_reducible refine (spec_l2Flag.calls (rd l0 a1) false _ A28.out).mono ?_); rintro e w' ⟨rfl, ⟨nd, rfl⟩⟩; refine ⟨_, rfl, ?_⟩)); go_ret; exact ⟨zG, zA HB.out⟩
  ·
   rw [if_neg c4] at H; exact absurd H (by simp)
 ·
  rw [if_neg c3] at H; exact absurd H (by simp)
def spec_l2At.l0 : Nat → List Int → Int → Option (Int)
 | 0, _, _ => none
 | k + 1, x0, x1 => if x1 > 0 then ((spec_l2Joins.f k x0 x1).bind fun t145 => (if t145 = true then (spec_l2At.l0 k x0 (wrap64 (x1 - 1))) else (some x1))) else (some x1)
def spec_l2At.f (k : Nat) (l0 : List Int) (a1 : Int) : Option (Int) := spec_l2At.l0 k l0 a1
theorem spec_l2At.mono_l : ∀ k, (∀ y0 y1, LeO (spec_l2At.l0 k y0 y1) (spec_l2At.l0 (k + 1) y0 y1))
 | 0 => fun _ _ r h => by simp [spec_l2At.l0] at h
 | k + 1 => by
  have ih0 := spec_l2At.mono_l k
  ·
   intro y0 y1; unfold spec_l2At.l0
   repeat' first
   | (with_reducible exact ih0 _ _)
   | (with_reducible exact spec_l2Joins.mono _ _ _)
   | (with_reducible exact LeO.refl _)
   | (with_reducible exact LeO.none _)
   | (with_reducible refine LeO.ite ?_ ?_)
   | (with_reducible refine LeO.bind ?_ (fun _ => ?_))
   | exact ih0 _ _
   | exact spec_l2Joins.mono _ _ _
   | exact LeO.none _
   | refine LeO.ite ?_ ?_
   | refine LeO.bind ?_ (fun _ => ?_)
theorem spec_l2At.mono : ∀ a0 a1 k, LeO (spec_l2At.f k a0 a1) (spec_l2At.f (k + 1) a0 a1) := by
 intro a0 a1 k; have ih0 := spec_l2At.mono_l k; unfold spec_l2At.f
 repeat' first
   | (with_reducible exact ih0 _ _)
   | (with_reducible exact spec_l2Joins.mono _ _ _)
   | (with_reducible exact LeO.refl _)
   | (with_reducible exact LeO.none _)
   | (with_reducible refine LeO.ite ?_ ?_)
   | (with_reducible refine LeO.bind ?_ (fun _ => ?_))
   | exact ih0 _ _
   | exact spec_l2Joins.mono _ _ _
   | exact LeO.none _
   | refine LeO.ite ?_ ?_
   | refine LeO.bind ?_ (fun _ => ?_)
theorem spec_l2At.calls (k : Nat) (A0 : Option Addr) (c0 : Nat) (l0 : List Int) (a1 : Int) (r : Int) (w : World) (hr0 : Kd.C (Kd.int .i64) w A0 l0.length l0) (hc0 : l0.length ≤ c0) (h : spec_l2At.f k l0 a1 = some r) :
  Calls Tryz.prog 120 #[.slice A0 l0.length c0, .int .i64 a1] w fun e w' => e = .returned (.int .i64 r) ∧ Below w.heap.size w w' := by
 have HR0 := az hr0; have HC0 := az hc0; clear hr0 hc0; have HB := az (Below.refl w.heap.size w); have H : (spec_l2At.l0 k l0 a1) = some r := h; clear h; have H' := az H; clear H; go_enter Tryz.func120, Tryz.ntmps120; go_wp2; go_loopg [1] k (fun kq v1 w' => ∃ (x1_1 : Int), v1 = .int .i64 x1_1 ∧ Aside0 (spec_l2At.l0 kq l0 x1_1 = some r) ∧ Aside0 (kq ≤ k) ∧ Aside0 (Below w.heap.size w w'))
 case atStart => exact ⟨(a1), zB, H', ⟨Nat.le_refl _⟩, ⟨zA HB.out⟩⟩
 case round =>
  clear H'; (try clear c1); (try clear p2); obtain ⟨x1_1, rfl, HA, HK1, HB⟩ := hrel
  cases gk with
  | zero => exact absurd HA.out (by simp [spec_l2At.l0])
  | succ k1 =>
   have H := HA.out; clear HA; simp only [spec_l2At.l0] at H; by_cases c3 : x1_1 > 0
   ·
    rw [if_pos c3] at H; have c3b0 : decide (0 < x1_1) = true := decide_eq_true c3; clear c3; replace H := Option.bind_eq_some_iff.mp H; obtain ⟨t145, A40, H⟩ := H; replace H : (if t145 = true then (spec_l2At.l0 k1 l0 (wrap64 (x1_1 - 1))) else (some x1_1)) = some r := H; have A4 := az A40; clear A40; by_cases c5 : t145 = true
    ·
     subst c5; have H1 : (spec_l2At.l0 k1 l0 (wrap64 (x1_1 - 1))) = some r := by rw [if_pos rfl] at H; exact H
     clear H; have H := H1; clear H1; have H' := az H; clear H; go_wp2_with (first | (go_at_call 124; (with_reducible refine (spec_l2Joins.calls k1 _ _ l0 x1_1 true _ ?side1 ?side2 A4.out).mono ?_); (case side1 => exact (zO HR0.out HB.out)); (case side2 => exact HC0.out); rintro e w6 ⟨rfl, hb⟩; have n0_ := az (below_step (zA HB.out) hb); clear HB; have HB := n0_; clear n0_; (try clear hb); (try clear hb2); (try clear hk); (try clear hi))); go_roundg k1
     case measure => have := HK1.out; omega
     case rel => exact ⟨(wrap64 (x1_1 - 1)), zB, H', ⟨zE HK1.out⟩, ⟨zA HB.out⟩⟩
    ·
     replace c5 := Bool.eq_false_iff.mpr c5; subst c5; have H1 : (some x1_1) = some r := by rw [if_neg (show ¬ (false = true) by decide)] at H; exact H
     clear H; have H := H1; clear H1; obtain rfl := Option.some.inj H; go_wp2_with (first | (go_at_call 124; (with_reducible refine (spec_l2Joins.calls k1 _ _ l0 x1_1 false _ ?side1 ?side2 A4.out).mono ?_); (case side1 => exact (zO HR0.out HB.out)); (case side2 => exact HC0.out); rintro e w7 ⟨rfl, hb⟩; have n0_ := az (below_step (zA HB.out) hb); clear HB; have HB := n0_; clear n0_; (try clear hb); (try clear hb2); (try clear hk); (try clear hi))); go_ret; exact ⟨zG, zA HB.out⟩
   ·
    rw [if_neg c3] at H; have c3b0 : decide (0 < x1_1) = false := decide_eq_false c3; clear c3; obtain rfl := Option.some.inj H; go_wp2; go_ret; exact ⟨zG, zA HB.out⟩
def atV (at_ : Int) : List S50 → Int × Int
 | [] => (10, 0)
 | x :: r => if x.f0 ≤ at_ ∧ at_ ≤ wrap64 (x.f1 - 1) then (x.f2, x.f3) else atV at_ r
def spec_l6At.f (l0 : List S50) (a1 : Int) : Option (Int × Int) := some (atV a1 l0)
theorem atV_in (a b c : Int) : spec_l1In.f a b c = some (decide (b ≤ a ∧ a ≤ c)) := by
 unfold spec_l1In.f
 by_cases h : a ≥ b
 · simp [h]
 · simp [h]
theorem in_quiet {a b c : Int} {r : Bool} (h : spec_l1In.f a b c = some r) (w : World) (n : Nat) : Calls Tryz.prog 36 #[.int .i64 a, .int .i64 b, .int .i64 c] (w.drewN n) fun e w'' => e = .returned (.bool r) ∧ ∃ m, w'' = w.drewN m :=
 Calls.quiet_of ((spec_l1In.calls a b c r (w.drewN n) h).mono fun _ _ ⟨he, hd⟩ => ⟨he, hd.out⟩)
theorem spec_l6At.calls (A0 : Option Addr) (c0 : Nat) (l0 : List S50) (a1 : Int) (r1 r2 : Int) (w : World) (hr0 : Kd.C k50 w A0 l0.length l0) (hc0 : l0.length ≤ c0) (h : spec_l6At.f l0 a1 = some (r1, r2)) :
  Calls Tryz.prog 121 #[.slice A0 l0.length c0, .int .i64 a1] w fun e w' => e = .returned (.tuple #[.int .i64 r1, .int .i64 r2]) ∧ Drawn0 w w' := by
 have HR := az hr0
 have hmx := hr0.2.1
 have HMX := az hmx
 clear hr0 hc0 hmx
 have HF := az (Option.some.inj h)
 clear h
 go_enter Tryz.func121, Tryz.ntmps121
 go_wp2
 go_loopg [6] l0.length (fun gg s6 wr => ∃ i : Nat, s6 = .int .i64 i ∧ i ≤ l0.length ∧ l0.length - i ≤ gg ∧ Aside0 (atV a1 (l0.drop i) = (r1, r2)) ∧ Aside0 (Drawn0 w wr))
 case atStart => exact ⟨0, rfl, Nat.zero_le _, by omega, HF, ⟨Drawn0.refl _⟩⟩
 case round =>
  clear HF
  obtain ⟨i, rfl, hi, hg, HF, hdr⟩ := hrel
  have HDR := hdr
  clear hdr
  by_cases hlt : i < l0.length
  ·
   have hltz : (i : Int) < (l0.length : Int) := by omega
   have hi0 : (0 : Int) ≤ (i : Int) := by omega
   obtain ⟨ad, rfl, h0, h1, h2, h3⟩ := at_T50 (Kd.C_below HR.out HDR.out.below) (i : Int) hi0 hltz
   obtain ⟨x, hx⟩ : ∃ x, rd_T50 l0 (i : Int) = x := ⟨_, rfl⟩
   have hd : l0.drop i = x :: l0.drop (i + 1) := by
    rw [List.drop_eq_getElem_cons hlt, ← hx]
    simp [rd_T50, List.getD_eq_getElem?_getD, hlt]
   rw [hx] at h0 h1 h2 h3
   rw [Int.toNat_natCast] at h0 h1 h2 h3
   have hq := HF.out
   rw [hd, atV] at hq
   have hw1 : IntKind.i64.wrap (x.f1 - 1) = wrap64 (x.f1 - 1) := i64_w _
   obtain ⟨t, ht⟩ : ∃ t, wrap64 (x.f1 - 1) = t := ⟨_, rfl⟩
   rw [ht] at hq hw1
   have hw64 : IntKind.i64.wrap ((i : Int) + 1) = (i : Int) + 1 := by rw [i64_w]; unfold wrap64; have := HMX.out; omega
   have hw65 : wrap64 ((i : Int) + 1) = (i : Int) + 1 := by unfold wrap64; have := HMX.out; omega
   clear hx hd HF
   by_cases hc : x.f0 ≤ a1 ∧ a1 ≤ t
   ·
    rw [if_pos hc] at hq
    obtain ⟨rfl, rfl⟩ := Prod.mk.inj hq
    have HIN := az (show spec_l1In.f a1 x.f0 t = some true by rw [atV_in, decide_eq_true hc])
    clear hc hq
    go_upto_region 4 with fail
    go_quiet ((go_at_call 36; exact in_quiet HIN.out _ _))
    go_upto_region 5 with fail
    go_quiet (fail)
    go_wp2
    go_ret2
    exact ⟨rfl, by obtain ⟨⟨n0, e0⟩⟩ := HDR.out; subst e0; repeat (first | exact Drawn0.refl _ | apply Drawn0.step | exact ⟨⟨_, rfl⟩⟩)⟩
   ·
    rw [if_neg hc] at hq
    have HQ := az hq
    have HIN := az (show spec_l1In.f a1 x.f0 t = some false by rw [atV_in, decide_eq_false hc])
    clear hc hq
    go_upto_region 4 with fail
    go_quiet ((go_at_call 36; exact in_quiet HIN.out _ _))
    go_wp2
    go_roundg (l0.length - (i + 1))
    case measure => omega
    case rel => exact ⟨i + 1, by first | rfl | go_num, by omega, by omega, HQ, ⟨by obtain ⟨⟨n0, e0⟩⟩ := HDR.out; subst e0; repeat (first | exact Drawn0.refl _ | apply Drawn0.step | exact ⟨⟨_, rfl⟩⟩)⟩⟩
  ·
   have hltz : ¬ (i : Int) < (l0.length : Int) := by omega
   obtain rfl : i = l0.length := by omega
   have hq := HF.out
   rw [List.drop_length, atV] at hq
   obtain ⟨rfl, rfl⟩ := Prod.mk.inj hq
   clear hq HF
   go_wp2
   go_ret2
   exact ⟨rfl, HDR.out⟩
def spec_l1Has.l0 : Nat → List Int → Int → Int → Option (Bool)
 | 0, _, _, _ => none
 | k + 1, x0, x1, x5 => if x5 < (x0.length : Int) then (if 0 ≤ x5 then (if (rd x0 x5) = x1 then (some true) else (spec_l1Has.l0 k x0 x1 (wrap64 (x5 + 1)))) else (none)) else (some false)
def spec_l1Has.f (k : Nat) (l0 : List Int) (a1 : Int) : Option (Bool) := spec_l1Has.l0 k l0 a1 0
theorem spec_l1Has.mono_l : ∀ k, (∀ y0 y1 y2, LeO (spec_l1Has.l0 k y0 y1 y2) (spec_l1Has.l0 (k + 1) y0 y1 y2))
 | 0 => fun _ _ _ r h => by simp [spec_l1Has.l0] at h
 | k + 1 => by
  have ih0 := spec_l1Has.mono_l k
  ·
   intro y0 y1 y2; unfold spec_l1Has.l0
   repeat' first
   | (with_reducible exact ih0 _ _ _)
   | (with_reducible exact LeO.refl _)
   | (with_reducible exact LeO.none _)
   | (with_reducible refine LeO.ite ?_ ?_)
   | (with_reducible refine LeO.bind ?_ (fun _ => ?_))
   | exact ih0 _ _ _
   | exact LeO.none _
   | refine LeO.ite ?_ ?_
   | refine LeO.bind ?_ (fun _ => ?_)
theorem spec_l1Has.mono : ∀ a0 a1 k, LeO (spec_l1Has.f k a0 a1) (spec_l1Has.f (k + 1) a0 a1) := by
 intro a0 a1 k; have ih0 := spec_l1Has.mono_l k; unfold spec_l1Has.f
 repeat' first
   | (with_reducible exact ih0 _ _ _)
   | (with_reducible exact LeO.refl _)
   | (with_reducible exact LeO.none _)
   | (with_reducible refine LeO.ite ?_ ?_)
   | (with_reducible refine LeO.bind ?_ (fun _ => ?_))
   | exact ih0 _ _ _
   | exact LeO.none _
   | refine LeO.ite ?_ ?_
   | refine LeO.bind ?_ (fun _ => ?_)
theorem spec_l1Has.calls (k : Nat) (A0 : Option Addr) (c0 : Nat) (l0 : List Int) (a1 : Int) (r : Bool) (w : World) (hr0 : Kd.C (Kd.int .i64) w A0 l0.length l0) (hc0 : l0.length ≤ c0) (h : spec_l1Has.f k l0 a1 = some r) :
  Calls Tryz.prog 143 #[.slice A0 l0.length c0, .int .i64 a1] w fun e w' => e = .returned (.bool r) ∧ Drawn0 w w' := by
 have HR0 := az hr0; have HC0 := az hc0; clear hr0 hc0; have H : (spec_l1Has.l0 k l0 a1 0) = some r := h; clear h; have H' := az H; clear H; go_enter Tryz.func143, Tryz.ntmps143; go_wp2; go_loopg [5] k (fun kq v5 w' => ∃ (x5_1 : Int), v5 = .int .i64 x5_1 ∧ Aside0 (spec_l1Has.l0 kq l0 a1 x5_1 = some r) ∧ Aside0 (kq ≤ k) ∧ Drawn0 w w')
 case atStart => exact ⟨(0), zB, H', ⟨Nat.le_refl _⟩, zD⟩
 case round =>
  clear H'; (try clear c1); (try clear p2); obtain ⟨x5_1, rfl, HA, HK1, ⟨m1, rfl⟩⟩ := hrel
  cases gk with
  | zero => exact absurd HA.out (by simp [spec_l1Has.l0])
  | succ k1 =>
   have H := HA.out; clear HA; simp only [spec_l1Has.l0] at H; by_cases c3 : x5_1 < (l0.length : Int)
   ·
    rw [if_pos c3] at H; have c3b0 : decide (x5_1 < (l0.length : Int)) = true := decide_eq_true c3; clear c3; by_cases c4 : 0 ≤ x5_1
    ·
     rw [if_pos c4] at H; have c4b0 : decide (0 ≤ x5_1) = true := decide_eq_true c4; clear c4; by_cases c5 : (rd l0 x5_1) = a1
     ·
      rw [if_pos c5] at H; have c5b0 : ((rd l0 x5_1) == a1) = true := beq_iff_eq.mpr c5; have c5b1 : ((rd l0 x5_1) != a1) = false := bne_eq_false_iff_eq.mpr c5; clear c5; obtain rfl := Option.some.inj H; have p146 : 0 ≤ (x5_1 : Int) := of_decide_eq_true (by assumption); have q146 : x5_1 < (l0.length : Int) := of_decide_eq_true (by assumption); obtain ⟨ad146, e146, hx146_0⟩ := Kd.at_int HR0.out x5_1 p146 q146
      cases e146
      replace p146 := eq_true p146; replace q146 := eq_true q146; go_wp2; go_ret; exact ⟨zB, zD⟩
     ·
      rw [if_neg c5] at H; have c5b0 : ((rd l0 x5_1) == a1) = false := beq_eq_false_iff_ne.mpr c5; have c5b1 : ((rd l0 x5_1) != a1) = true := bne_iff_ne.mpr c5; have H' := az H; clear H; have p146 : 0 ≤ (x5_1 : Int) := of_decide_eq_true (by assumption); have q146 : x5_1 < (l0.length : Int) := of_decide_eq_true (by assumption); obtain ⟨ad146, e146, hx146_0⟩ := Kd.at_int HR0.out x5_1 p146 q146
      cases e146
      replace p146 := eq_true p146; replace q146 := eq_true q146; go_wp2; go_roundg k1
      case measure => have := HK1.out; omega
      case rel => exact ⟨(wrap64 (x5_1 + 1)), zB, H', ⟨zE HK1.out⟩, zD⟩
    ·
     rw [if_neg c4] at H; exact absurd H (by simp)
   ·
    rw [if_neg c3] at H; have c3b0 : decide (x5_1 < (l0.length : Int)) = false := decide_eq_false c3; clear c3; obtain rfl := Option.some.inj H; go_wp2; go_ret; exact ⟨zB, zD⟩
mutual
def spec_RuneWide.j0 : Nat → Int → Int → Bool → Option (Int)
 | 0, _, _, _ => none
 | k + 1, x0, x3, x6 => if x6 = true then (some 0) else ((spec_l1Has.f k (([105, 106, 108, 102, 116] : List Int)) x0).bind fun t151 => (if t151 = true then (some 6) else (if x0 = 109 then (spec_RuneWide.j1 k x0 x3 true) else (spec_RuneWide.j1 k x0 x3 (x0 == 119)))))
def spec_RuneWide.j1 : Nat → Int → Int → Bool → Option (Int)
 | 0, _, _, _ => none
 | k + 1, x0, x3, x29 => if x29 = true then (some 16) else ((spec_l1In.f x0 19968 40959).bind fun t152 => (if t152 = true then (some 20) else (if x3 = 2 then (spec_RuneWide.j2 k x3 true) else (spec_RuneWide.j2 k x3 (x3 == 3)))))
def spec_RuneWide.j2 : Nat → Int → Bool → Option (Int)
 | 0, _, _ => none
 | k + 1, x3, x39 => if x39 = true then (some 12) else (if x3 = 11 then (some 40) else (if x3 = 12 then (some 6) else (if x3 = 8 then (some 6) else (some 10))))
end
def spec_RuneWide.f (k : Nat) (a0 : Int) : Option (Int) := (spec_RuneBidi.f k a0).bind fun t147 => (if t147 = 9 then (spec_RuneWide.j0 k a0 t147 true) else (if t147 = 10 then (spec_RuneWide.j0 k a0 t147 true) else (if t147 ≥ 14 then (spec_RuneWide.j0 k a0 t147 true) else (if a0 = 10 then (spec_RuneWide.j0 k a0 t147 true) else (spec_RuneWide.j0 k a0 t147 (a0 == 13))))))
theorem spec_RuneWide.mono_l : ∀ k, (∀ y0 y1 y2, LeO (spec_RuneWide.j0 k y0 y1 y2) (spec_RuneWide.j0 (k + 1) y0 y1 y2)) ∧ (∀ y0 y1 y2, LeO (spec_RuneWide.j1 k y0 y1 y2) (spec_RuneWide.j1 (k + 1) y0 y1 y2)) ∧ (∀ y0 y1, LeO (spec_RuneWide.j2 k y0 y1) (spec_RuneWide.j2 (k + 1) y0 y1))
 | 0 => ⟨fun _ _ _ r h => by simp [spec_RuneWide.j0] at h, fun _ _ _ r h => by simp [spec_RuneWide.j1] at h, fun _ _ r h => by simp [spec_RuneWide.j2] at h⟩
 | k + 1 => by
  obtain ⟨ih0, ih1, ih2⟩ := spec_RuneWide.mono_l k; refine ⟨?_, ?_, ?_⟩
  ·
   intro y0 y1 y2; unfold spec_RuneWide.j0
   repeat' first
   | (with_reducible exact ih0 _ _ _)
   | (with_reducible exact ih1 _ _ _)
   | (with_reducible exact ih2 _ _)
   | (with_reducible exact spec_RuneBidi.mono _ _)
   | (with_reducible exact spec_l1Has.mono _ _ _)
   | (with_reducible exact LeO.refl _)
   | (with_reducible exact LeO.none _)
   | (with_reducible refine LeO.ite ?_ ?_)
   | (with_reducible refine LeO.bind ?_ (fun _ => ?_))
   | exact ih0 _ _ _
   | exact ih1 _ _ _
   | exact ih2 _ _
   | exact spec_RuneBidi.mono _ _
   | exact spec_l1Has.mono _ _ _
   | exact LeO.none _
   | refine LeO.ite ?_ ?_
   | refine LeO.bind ?_ (fun _ => ?_)
  ·
   intro y0 y1 y2; unfold spec_RuneWide.j1
   repeat' first
   | (with_reducible exact ih0 _ _ _)
   | (with_reducible exact ih1 _ _ _)
   | (with_reducible exact ih2 _ _)
   | (with_reducible exact spec_RuneBidi.mono _ _)
   | (with_reducible exact spec_l1Has.mono _ _ _)
   | (with_reducible exact LeO.refl _)
   | (with_reducible exact LeO.none _)
   | (with_reducible refine LeO.ite ?_ ?_)
   | (with_reducible refine LeO.bind ?_ (fun _ => ?_))
   | exact ih0 _ _ _
   | exact ih1 _ _ _
   | exact ih2 _ _
   | exact spec_RuneBidi.mono _ _
   | exact spec_l1Has.mono _ _ _
   | exact LeO.none _
   | refine LeO.ite ?_ ?_
   | refine LeO.bind ?_ (fun _ => ?_)
  ·
   intro y0 y1; unfold spec_RuneWide.j2
   repeat' first
   | (with_reducible exact ih0 _ _ _)
   | (with_reducible exact ih1 _ _ _)
   | (with_reducible exact ih2 _ _)
   | (with_reducible exact spec_RuneBidi.mono _ _)
   | (with_reducible exact spec_l1Has.mono _ _ _)
   | (with_reducible exact LeO.refl _)
   | (with_reducible exact LeO.none _)
   | (with_reducible refine LeO.ite ?_ ?_)
   | (with_reducible refine LeO.bind ?_ (fun _ => ?_))
   | exact ih0 _ _ _
   | exact ih1 _ _ _
   | exact ih2 _ _
   | exact spec_RuneBidi.mono _ _
   | exact spec_l1Has.mono _ _ _
   | exact LeO.none _
   | refine LeO.ite ?_ ?_
   | refine LeO.bind ?_ (fun _ => ?_)
theorem spec_RuneWide.mono : ∀ a0 k, LeO (spec_RuneWide.f k a0) (spec_RuneWide.f (k + 1) a0) := by
 intro a0 k; obtain ⟨ih0, ih1, ih2⟩ := spec_RuneWide.mono_l k; unfold spec_RuneWide.f
 repeat' first
   | (with_reducible exact ih0 _ _ _)
   | (with_reducible exact ih1 _ _ _)
   | (with_reducible exact ih2 _ _)
   | (with_reducible exact spec_RuneBidi.mono _ _)
   | (with_reducible exact spec_l1Has.mono _ _ _)
   | (with_reducible exact LeO.refl _)
   | (with_reducible exact LeO.none _)
   | (with_reducible refine LeO.ite ?_ ?_)
   | (with_reducible refine LeO.bind ?_ (fun _ => ?_))
   | exact ih0 _ _ _
   | exact ih1 _ _ _
   | exact ih2 _ _
   | exact spec_RuneBidi.mono _ _
   | exact spec_l1Has.mono _ _ _
   | exact LeO.none _
   | refine LeO.ite ?_ ?_
   | refine LeO.bind ?_ (fun _ => ?_)
theorem spec_RuneWide.calls (k : Nat) (a0 : Int) (r : Int) (w : World) (h : spec_RuneWide.f k a0 = some r) :
  Calls Tryz.prog 136 #[.int .i64 a0] w fun e w' => e = .returned (.int .i64 r) ∧ Below w.heap.size w w' := by
 have HB := az (Below.refl w.heap.size w); have H : ((spec_RuneBidi.f k a0).bind fun t147 => (if t147 = 9 then (spec_RuneWide.j0 k a0 t147 true) else (if t147 = 10 then (spec_RuneWide.j0 k a0 t147 true) else (if t147 ≥ 14 then (spec_RuneWide.j0 k a0 t147 true) else (if a0 = 10 then (spec_RuneWide.j0 k a0 t147 true) else (spec_RuneWide.j0 k a0 t147 (a0 == 13))))))) = some r := h; clear h; replace H := Option.bind_eq_some_iff.mp H; obtain ⟨t147, A20, H⟩ := H; replace H : (if t147 = 9 then (spec_RuneWide.j0 k a0 t147 true) else (if t147 = 10 then (spec_RuneWide.j0 k a0 t147 true) else (if t147 ≥ 14 then (spec_RuneWide.j0 k a0 t147 true) else (if a0 = 10 then (spec_RuneWide.j0 k a0 t147 true) else (spec_RuneWide.j0 k a0 t147 (a0 == 13)))))) = some r := H; have A2 := az A20; clear A20; have HC3 := az H; clear H; go_enter Tryz.func136, Tryz.ntmps136; go_upto_region 2 with (first | ((with_reducible refine gate_callee (f := 137) rfl ?_); refine goesL_ (some 5) rfl rfl Tryz.func137 (by kernel_rfl) rfl #[.int .i64 a0] rfl zC ?_; (with_reducible refine (spec_RuneBidi.calls k a0 t147 _ A2.out).mono ?_); rintro e w4 ⟨rfl, hb⟩; refine ⟨_, rfl, ?_⟩; have n0_ := az (below_step (zA HB.out) hb); clear HB; have HB := n0_; clear n0_; (try clear hb); (try clear hb2); (try clear hk); (try clear hi)))
 (try simp only [Act.put, List.setIfInBounds_toArray, List.set_cons_zero, List.set_cons_succ]); go_cut [6] (fun v6 wc => ∃ (kq : Nat) (x6_2 : Bool), v6 = .bool x6_2 ∧ Aside0 (spec_RuneWide.j0 kq a0 t147 x6_2 = some r) ∧ Aside0 (kq ≤ k) ∧ Aside0 (Below w.heap.size w wc))
 case first =>
  have H := HC3.out; clear HC3; by_cases c5 : t147 = 9
  ·
   rw [if_pos c5] at H; have c5b0 : (t147 == 9) = true := beq_iff_eq.mpr c5; have c5b1 : (t147 != 9) = false := bne_eq_false_iff_eq.mpr c5; clear c5; (first | rw [c5b0] | (simp only [i64_w, i32_w]; rw [c5b0]) | skip); have H' := az H; clear H; go_wp2; go_meet
   case rel => exact ⟨_, (true), zB, H', ⟨zJ⟩, ⟨zA HB.out⟩⟩
  ·
   rw [if_neg c5] at H; have c5b0 : (t147 == 9) = false := beq_eq_false_iff_ne.mpr c5; have c5b1 : (t147 != 9) = true := bne_iff_ne.mpr c5; (first | rw [c5b0] | (simp only [i64_w, i32_w]; rw [c5b0]) | skip); by_cases c6 : t147 = 10
   ·
    rw [if_pos c6] at H; have c6b0 : (t147 == 10) = true := beq_iff_eq.mpr c6; have c6b1 : (t147 != 10) = false := bne_eq_false_iff_eq.mpr c6; clear c6; have H' := az H; clear H; go_wp2; go_meet
    case rel => exact ⟨_, (true), zB, H', ⟨zJ⟩, ⟨zA HB.out⟩⟩
   ·
    rw [if_neg c6] at H; have c6b0 : (t147 == 10) = false := beq_eq_false_iff_ne.mpr c6; have c6b1 : (t147 != 10) = true := bne_iff_ne.mpr c6; by_cases c7 : t147 ≥ 14
    ·
     rw [if_pos c7] at H; have c7b0 : decide (14 ≤ t147) = true := decide_eq_true c7; clear c7; have H' := az H; clear H; go_wp2; go_meet
     case rel => exact ⟨_, (true), zB, H', ⟨zJ⟩, ⟨zA HB.out⟩⟩
    ·
     rw [if_neg c7] at H; have c7b0 : decide (14 ≤ t147) = false := decide_eq_false c7; clear c7; by_cases c8 : a0 = 10
     ·
      rw [if_pos c8] at H; have c8b0 : (a0 == 10) = true := beq_iff_eq.mpr c8; have c8b1 : (a0 != 10) = false := bne_eq_false_iff_eq.mpr c8; clear c8; have H' := az H; clear H; go_wp2; go_meet
      case rel => exact ⟨_, (true), zB, H', ⟨zJ⟩, ⟨zA HB.out⟩⟩
     ·
      rw [if_neg c8] at H; have c8b0 : (a0 == 10) = false := beq_eq_false_iff_ne.mpr c8; have c8b1 : (a0 != 10) = true := bne_iff_ne.mpr c8; have H' := az H; clear H; go_wp2; go_meet
      case rel => exact ⟨_, ((a0 == 13)), zB, H', ⟨zJ⟩, ⟨zA HB.out⟩⟩
 case rest =>
  clear HC3; (try clear c1); (try clear p2); (try clear c5); (try clear c5b0); (try clear c5b1); (try clear c6); (try clear c6b0); (try clear c6b1); (try clear c7); (try clear c7b0); (try clear c8); (try clear c8b0); (try clear c8b1); obtain ⟨kq, x6_2, rfl, HA, HJ2, HB⟩ := hcut
  cases kq with
  | zero => exact absurd HA.out (by simp [spec_RuneWide.j0])
  | succ kj2 =>
   have H := HA.out; clear HA; simp only [spec_RuneWide.j0] at H; by_cases c9 : x6_2 = true
   ·
    subst c9; have H1 : (some 0) = some r := by rw [if_pos rfl] at H; exact H
    clear H; have H := H1; clear H1; obtain rfl := Option.some.inj H; go_wp2; go_ret; exact ⟨zG, zA HB.out⟩
   ·
    replace c9 := Bool.eq_false_iff.mpr c9; subst c9; have H1 : ((spec_l1Has.f kj2 (([105, 106, 108, 102, 116] : List Int)) a0).bind fun t151 => (if t151 = true then (some 6) else (if a0 = 109 then (spec_RuneWide.j1 kj2 a0 t147 true) else (spec_RuneWide.j1 kj2 a0 t147 (a0 == 119))))) = some r := by rw [if_neg (show ¬ (false = true) by decide)] at H; exact H
    clear H; have H := H1; clear H1; obtain ⟨y148, hy148⟩ : ∃ y_ : List Int, y_ = (([105, 106, 108, 102, 116] : List Int)) := ⟨_, rfl⟩; replace H : ((spec_l1Has.f kj2 y148 a0).bind fun t151 => (if t151 = true then (some 6) else (if a0 = 109 then (spec_RuneWide.j1 kj2 a0 t147 true) else (spec_RuneWide.j1 kj2 a0 t147 (a0 == 119))))) = some r := by first | (rw [hy148]; with_reducible exact H) | (have H2_ := (Option.bind_some _ _).symm.trans H; rw [hy148]; with_reducible exact H2_) | (have H2_ := (Option.bind_some _ _).symm.trans H; with_reducible exact H2_) | with_reducible exact H | (rw [hy148]; exact H) | exact H
    have Ny148 := az hy148; clear hy148; replace H := Option.bind_eq_some_iff.mp H; obtain ⟨t151, A100, H⟩ := H; replace H : (if t151 = true then (some 6) else (if a0 = 109 then (spec_RuneWide.j1 kj2 a0 t147 true) else (spec_RuneWide.j1 kj2 a0 t147 (a0 == 119)))) = some r := H; have A10 := az A100; clear A100; by_cases c11 : t151 = true
    ·
     subst c11; have H1 : (some 6) = some r := by rw [if_pos rfl] at H; exact H
     clear H; have H := H1; clear H1; obtain rfl := Option.some.inj H; go_wp2_with (first | ((with_reducible refine gate_dst (N := 26) rfl ?_); refine Kd.R_lit (Kd.int .i64) _ 3 ?hg (N := 26) ?hd (xs := ([105, 106, 108, 102, 116] : List Int)) (inner := [.int .i64 105, .int .i64 106, .int .i64 108, .int .i64 102, .int .i64 116]) (ok := fun _ => True) (okp := fun _ => True) ?hr ?hp (fun _ hk => hk) trivial (Below.refl _ _) (Nat.le_refl _) (by simp) ?_; (case hd => rfl); (case hg => rfl); (case hr => first | (go_simp; done) | (go_simp; rfl)); (case hp => exact (Reps.one (show Kd.M (Kd.int .i64) _ _ _ 105 [.int .i64 105] from rfl) (Reps.one (show Kd.M (Kd.int .i64) _ _ _ 106 [.int .i64 106] from rfl) (Reps.one (show Kd.M (Kd.int .i64) _ _ _ 108 [.int .i64 108] from rfl) (Reps.one (show Kd.M (Kd.int .i64) _ _ _ 102 [.int .i64 102] from rfl) (Reps.one (show Kd.M (Kd.int .i64) _ _ _ 116 [.int .i64 116] from rfl) (Reps.none _ _))))))); intro v149 w12 ho13 hb hg_ hnew_; clear hg_ hnew_; (first | rw [← Ny148.out] at ho13 | (simp only [Int.reduceToNat] at ho13; rw [← Ny148.out] at ho13)); have n0_ := az (Kd.R_lower ho13 (below_size (zA HB.out))); have n1_ := az (below_step (zA HB.out) hb); clear HB; have HO150 := n0_; have HB := n1_; clear n0_ n1_; clear hb ho13; obtain ⟨Ao14, co14, eo14⟩ := Kd.R_slice HO150.out; subst eo14) | ((with_reducible refine gate_callee (f := 143) rfl ?_); refine goesL_ (some 28) rfl rfl Tryz.func143 (by kernel_rfl) rfl #[.slice Ao14 y148.length co14, .int .i64 a0] rfl zC ?_; (with_reducible refine (spec_l1Has.calls kj2 _ _ y148 a0 true _ ?side1 ?side2 A10.out).mono ?_); (case side1 => exact (zR HO150.out)); (case side2 => exact (Kd.R_reads' HO150.out).2.1); rintro e w' ⟨rfl, ⟨nd, rfl⟩⟩; refine ⟨_, rfl, ?_⟩)); go_ret; exact ⟨zG, zA HB.out⟩
    ·
     replace c11 := Bool.eq_false_iff.mpr c11; subst c11; have H1 : (if a0 = 109 then (spec_RuneWide.j1 kj2 a0 t147 true) else (spec_RuneWide.j1 kj2 a0 t147 (a0 == 119))) = some r := by rw [if_neg (show ¬ (false = true) by decide)] at H; exact H
     clear H; have H := H1; clear H1; have HC15 := az H; clear H; go_upto_region 6 with (first | ((with_reducible refine gate_dst (N := 26) rfl ?_); refine Kd.R_lit (Kd.int .i64) _ 3 ?hg (N := 26) ?hd (xs := ([105, 106, 108, 102, 116] : List Int)) (inner := [.int .i64 105, .int .i64 106, .int .i64 108, .int .i64 102, .int .i64 116]) (ok := fun _ => True) (okp := fun _ => True) ?hr ?hp (fun _ hk => hk) trivial (Below.refl _ _) (Nat.le_refl _) (by simp) ?_; (case hd => rfl); (case hg => rfl); (case hr => first | (go_simp; done) | (go_simp; rfl)); (case hp => exact (Reps.one (show Kd.M (Kd.int .i64) _ _ _ 105 [.int .i64 105] from rfl) (Reps.one (show Kd.M (Kd.int .i64) _ _ _ 106 [.int .i64 106] from rfl) (Reps.one (show Kd.M (Kd.int .i64) _ _ _ 108 [.int .i64 108] from rfl) (Reps.one (show Kd.M (Kd.int .i64) _ _ _ 102 [.int .i64 102] from rfl) (Reps.one (show Kd.M (Kd.int .i64) _ _ _ 116 [.int .i64 116] from rfl) (Reps.none _ _))))))); intro v149 w16 ho17 hb hg_ hnew_; clear hg_ hnew_; (first | rw [← Ny148.out] at ho17 | (simp only [Int.reduceToNat] at ho17; rw [← Ny148.out] at ho17)); have n0_ := az (Kd.R_lower ho17 (below_size (zA HB.out))); have n1_ := az (below_step (zA HB.out) hb); clear HB; have HO150 := n0_; have HB := n1_; clear n0_ n1_; clear hb ho17; obtain ⟨Ao18, co18, eo18⟩ := Kd.R_slice HO150.out; subst eo18) | ((with_reducible refine gate_callee (f := 143) rfl ?_); refine goesL_ (some 28) rfl rfl Tryz.func143 (by kernel_rfl) rfl #[.slice Ao18 y148.length co18, .int .i64 a0] rfl zC ?_; (with_reducible refine (spec_l1Has.calls kj2 _ _ y148 a0 false _ ?side1 ?side2 A10.out).mono ?_); (case side1 => exact (zR HO150.out)); (case side2 => exact (Kd.R_reads' HO150.out).2.1); rintro e w' ⟨rfl, ⟨nd, rfl⟩⟩; refine ⟨_, rfl, ?_⟩))
     (try simp only [Act.put, List.setIfInBounds_toArray, List.set_cons_zero, List.set_cons_succ]); go_cut [29] (fun v29 wc => ∃ (kq : Nat) (x29_14 : Bool), v29 = .bool x29_14 ∧ Aside0 (spec_RuneWide.j1 kq a0 t147 x29_14 = some r) ∧ Aside0 (kq ≤ kj2) ∧ Aside0 (Below w.heap.size w wc))
     case first =>
      have H := HC15.out; clear HC15; by_cases c19 : a0 = 109
      ·
       rw [if_pos c19] at H; have c19b0 : (a0 == 109) = true := beq_iff_eq.mpr c19; have c19b1 : (a0 != 109) = false := bne_eq_false_iff_eq.mpr c19; clear c19; (first | rw [c19b0] | (simp only [i64_w, i32_w]; rw [c19b0]) | skip); have H' := az H; clear H; go_wp2; go_meet
       case rel => exact ⟨_, (true), zB, H', ⟨zK HJ2.out⟩, ⟨zA HB.out⟩⟩
      ·
       rw [if_neg c19] at H; have c19b0 : (a0 == 109) = false := beq_eq_false_iff_ne.mpr c19; have c19b1 : (a0 != 109) = true := bne_iff_ne.mpr c19; (first | rw [c19b0] | (simp only [i64_w, i32_w]; rw [c19b0]) | skip); have H' := az H; clear H; go_wp2; go_meet
       case rel => exact ⟨_, ((a0 == 119)), zB, H', ⟨zK HJ2.out⟩, ⟨zA HB.out⟩⟩
     case rest =>
      clear HC15; (try clear c1); (try clear p2); (try clear c5); (try clear c5b0); (try clear c5b1); (try clear c6); (try clear c6b0); (try clear c6b1); (try clear c7); (try clear c7b0); (try clear c8); (try clear c8b0); (try clear c8b1); (try clear c9); (try clear c11); (try clear c13); (try clear c14); (try clear c19); (try clear c19b0); (try clear c19b1); (try clear p2); obtain ⟨kq, x29_14, rfl, HA, HJ14, HB⟩ := hcut
      cases kq with
      | zero => exact absurd HA.out (by simp [spec_RuneWide.j1])
      | succ kj14 =>
       have H := HA.out; clear HA; simp only [spec_RuneWide.j1] at H; by_cases c20 : x29_14 = true
       ·
        subst c20; have H1 : (some 16) = some r := by rw [if_pos rfl] at H; exact H
        clear H; have H := H1; clear H1; obtain rfl := Option.some.inj H; go_wp2; go_ret; exact ⟨zG, zA HB.out⟩
       ·
        replace c20 := Bool.eq_false_iff.mpr c20; subst c20; have H1 : ((spec_l1In.f a0 19968 40959).bind fun t152 => (if t152 = true then (some 20) else (if t147 = 2 then (spec_RuneWide.j2 kj14 t147 true) else (spec_RuneWide.j2 kj14 t147 (t147 == 3))))) = some r := by rw [if_neg (show ¬ (false = true) by decide)] at H; exact H
        clear H; have H := H1; clear H1; replace H := Option.bind_eq_some_iff.mp H; obtain ⟨t152, A210, H⟩ := H; replace H : (if t152 = true then (some 20) else (if t147 = 2 then (spec_RuneWide.j2 kj14 t147 true) else (spec_RuneWide.j2 kj14 t147 (t147 == 3)))) = some r := H; have A21 := az A210; clear A210; by_cases c22 : t152 = true
        ·
         subst c22; have H1 : (some 20) = some r := by rw [if_pos rfl] at H; exact H
         clear H; have H := H1; clear H1; obtain rfl := Option.some.inj H; go_wp2_with (first | ((with_reducible refine gate_callee (f := 36) rfl ?_); refine goesL_ (some 38) rfl rfl Tryz.func36 (by kernel_rfl) rfl #[.int .i64 a0, .int .i64 19968, .int .i64 40959] rfl zC ?_; (with_reducible refine (spec_l1In.calls a0 19968 40959 true _ A21.out).mono ?_); rintro e w' ⟨rfl, ⟨nd, rfl⟩⟩; refine ⟨_, rfl, ?_⟩)); go_ret; exact ⟨zG, zA HB.out⟩
        ·
         replace c22 := Bool.eq_false_iff.mpr c22; subst c22; have H1 : (if t147 = 2 then (spec_RuneWide.j2 kj14 t147 true) else (spec_RuneWide.j2 kj14 t147 (t147 == 3))) = some r := by rw [if_neg (show ¬ (false = true) by decide)] at H; exact H
         clear H; have H := H1; clear H1; have HC23 := az H; clear H; go_upto_region 10 with (first | ((with_reducible refine gate_callee (f := 36) rfl ?_); refine goesL_ (some 38) rfl rfl Tryz.func36 (by kernel_rfl) rfl #[.int .i64 a0, .int .i64 19968, .int .i64 40959] rfl zC ?_; (with_reducible refine (spec_l1In.calls a0 19968 40959 false _ A21.out).mono ?_); rintro e w' ⟨rfl, ⟨nd, rfl⟩⟩; refine ⟨_, rfl, ?_⟩))
         (try simp only [Act.put, List.setIfInBounds_toArray, List.set_cons_zero, List.set_cons_succ]); go_cut [39] (fun v39 wc => ∃ (kq : Nat) (x39_22 : Bool), v39 = .bool x39_22 ∧ Aside0 (spec_RuneWide.j2 kq t147 x39_22 = some r) ∧ Aside0 (kq ≤ kj14) ∧ Aside0 (Below w.heap.size w wc))
         case first =>
          have H := HC23.out; clear HC23; by_cases c24 : t147 = 2
          ·
           rw [if_pos c24] at H; have c24b0 : (t147 == 2) = true := beq_iff_eq.mpr c24; have c24b1 : (t147 != 2) = false := bne_eq_false_iff_eq.mpr c24; clear c24; (first | rw [c24b0] | (simp only [i64_w, i32_w]; rw [c24b0]) | skip); have H' := az H; clear H; go_wp2; go_meet
           case rel => exact ⟨_, (true), zB, H', ⟨zM HJ2.out HJ14.out⟩, ⟨zA HB.out⟩⟩
          ·
           rw [if_neg c24] at H; have c24b0 : (t147 == 2) = false := beq_eq_false_iff_ne.mpr c24; have c24b1 : (t147 != 2) = true := bne_iff_ne.mpr c24; (first | rw [c24b0] | (simp only [i64_w, i32_w]; rw [c24b0]) | skip); have H' := az H; clear H; go_wp2; go_meet
           case rel => exact ⟨_, ((t147 == 3)), zB, H', ⟨zM HJ2.out HJ14.out⟩, ⟨zA HB.out⟩⟩
         case rest =>
          clear HC23; (try clear c1); (try clear c2); (try clear p2); (try clear c3); (try clear c5); (try clear c5b0); (try clear c5b1); (try clear c6); (try clear c6b0); (try clear c6b1); (try clear c7); (try clear c7b0); (try clear c8); (try clear c8b0); (try clear c8b1); (try clear c9); (try clear c11); (try clear c13); (try clear c14); (try clear c19); (try clear c19b0); (try clear c19b1); (try clear c20); (try clear c22); (try clear c24); (try clear c24b0); (try clear c24b1); (try clear p2); obtain ⟨kq, x39_22, rfl, HA, HJ22, HB⟩ := hcut
          cases kq with
          | zero => exact absurd HA.out (by simp [spec_RuneWide.j2])
          | succ kj22 =>
           have H := HA.out; clear HA; simp only [spec_RuneWide.j2] at H; by_cases c25 : x39_22 = true
           ·
            subst c25; have H1 : (some 12) = some r := by rw [if_pos rfl] at H; exact H
            clear H; have H := H1; clear H1; obtain rfl := Option.some.inj H; go_wp2; go_ret; exact ⟨zG, zA HB.out⟩
           ·
            replace c25 := Bool.eq_false_iff.mpr c25; subst c25; have H1 : (if t147 = 11 then (some 40) else (if t147 = 12 then (some 6) else (if t147 = 8 then (some 6) else (some 10)))) = some r := by rw [if_neg (show ¬ (false = true) by decide)] at H; exact H
            clear H; have H := H1; clear H1; by_cases c26 : t147 = 11
            ·
             rw [if_pos c26] at H; have c26b0 : (t147 == 11) = true := beq_iff_eq.mpr c26; have c26b1 : (t147 != 11) = false := bne_eq_false_iff_eq.mpr c26; clear c26; obtain rfl := Option.some.inj H; go_wp2; go_ret; exact ⟨zG, zA HB.out⟩
            ·
             rw [if_neg c26] at H; have c26b0 : (t147 == 11) = false := beq_eq_false_iff_ne.mpr c26; have c26b1 : (t147 != 11) = true := bne_iff_ne.mpr c26; by_cases c27 : t147 = 12
             ·
              rw [if_pos c27] at H; have c27b0 : (t147 == 12) = true := beq_iff_eq.mpr c27; have c27b1 : (t147 != 12) = false := bne_eq_false_iff_eq.mpr c27; clear c27; obtain rfl := Option.some.inj H; go_wp2; go_ret; exact ⟨zG, zA HB.out⟩
             ·
              rw [if_neg c27] at H; have c27b0 : (t147 == 12) = false := beq_eq_false_iff_ne.mpr c27; have c27b1 : (t147 != 12) = true := bne_iff_ne.mpr c27; by_cases c28 : t147 = 8
              ·
               rw [if_pos c28] at H; have c28b0 : (t147 == 8) = true := beq_iff_eq.mpr c28; have c28b1 : (t147 != 8) = false := bne_eq_false_iff_eq.mpr c28; clear c28; obtain rfl := Option.some.inj H; go_wp2; go_ret; exact ⟨zG, zA HB.out⟩
              ·
               rw [if_neg c28] at H; have c28b0 : (t147 == 8) = false := beq_eq_false_iff_ne.mpr c28; have c28b1 : (t147 != 8) = true := bne_iff_ne.mpr c28; obtain rfl := Option.some.inj H; go_wp2; go_ret; exact ⟨zG, zA HB.out⟩
mutual
def spec_l2Wide.l0 : Nat → List Int → Int → Int → Option (Int)
 | 0, _, _, _ => none
 | k + 1, x0, x5, x6 => if x6 < (x0.length : Int) then ((spec_l2Joins.f k x0 x6).bind fun t155 => (spec_l2Wide.j1 k x0 x5 x6 t155)) else (spec_l2Wide.j1 k x0 x5 x6 false)
def spec_l2Wide.j1 : Nat → List Int → Int → Int → Bool → Option (Int)
 | 0, _, _, _, _ => none
 | k + 1, x0, x5, x6, x22 => if x22 = true then (if 0 ≤ x6 then (if x6 < (x0.length : Int) then ((spec_RuneWide.f k (rd x0 x6)).bind fun t157 => (if t157 > x5 then ((spec_RuneWide.f k (rd x0 x6)).bind fun t159 => (spec_l2Wide.l0 k x0 t159 (wrap64 (x6 + 1)))) else (spec_l2Wide.l0 k x0 x5 (wrap64 (x6 + 1))))) else (none)) else (none)) else (some x5)
end
def spec_l2Wide.f (k : Nat) (l0 : List Int) (a1 : Int) : Option (Int) := if 0 ≤ a1 then (if a1 < (l0.length : Int) then ((spec_RuneWide.f k (rd l0 a1)).bind fun t154 => (spec_l2Wide.l0 k l0 t154 (wrap64 (a1 + 1)))) else (none)) else (none)
theorem spec_l2Wide.mono_l : ∀ k, (∀ y0 y1 y2, LeO (spec_l2Wide.l0 k y0 y1 y2) (spec_l2Wide.l0 (k + 1) y0 y1 y2)) ∧ (∀ y0 y1 y2 y3, LeO (spec_l2Wide.j1 k y0 y1 y2 y3) (spec_l2Wide.j1 (k + 1) y0 y1 y2 y3))
 | 0 => ⟨fun _ _ _ r h => by simp [spec_l2Wide.l0] at h, fun _ _ _ _ r h => by simp [spec_l2Wide.j1] at h⟩
 | k + 1 => by
  obtain ⟨ih0, ih1⟩ := spec_l2Wide.mono_l k; refine ⟨?_, ?_⟩
  ·
   intro y0 y1 y2; unfold spec_l2Wide.l0
   repeat' first
   | (with_reducible exact ih0 _ _ _)
   | (with_reducible exact ih1 _ _ _ _)
   | (with_reducible exact spec_RuneWide.mono _ _)
   | (with_reducible exact spec_l2Joins.mono _ _ _)
   | (with_reducible exact LeO.refl _)
   | (with_reducible exact LeO.none _)
   | (with_reducible refine LeO.ite ?_ ?_)
   | (with_reducible refine LeO.bind ?_ (fun _ => ?_))
   | exact ih0 _ _ _
   | exact ih1 _ _ _ _
   | exact spec_RuneWide.mono _ _
   | exact spec_l2Joins.mono _ _ _
   | exact LeO.none _
   | refine LeO.ite ?_ ?_
   | refine LeO.bind ?_ (fun _ => ?_)
  ·
   intro y0 y1 y2 y3; unfold spec_l2Wide.j1
   repeat' first
   | (with_reducible exact ih0 _ _ _)
   | (with_reducible exact ih1 _ _ _ _)
   | (with_reducible exact spec_RuneWide.mono _ _)
   | (with_reducible exact spec_l2Joins.mono _ _ _)
   | (with_reducible exact LeO.refl _)
   | (with_reducible exact LeO.none _)
   | (with_reducible refine LeO.ite ?_ ?_)
   | (with_reducible refine LeO.bind ?_ (fun _ => ?_))
   | exact ih0 _ _ _
   | exact ih1 _ _ _ _
   | exact spec_RuneWide.mono _ _
   | exact spec_l2Joins.mono _ _ _
   | exact LeO.none _
   | refine LeO.ite ?_ ?_
   | refine LeO.bind ?_ (fun _ => ?_)
theorem spec_l2Wide.mono : ∀ a0 a1 k, LeO (spec_l2Wide.f k a0 a1) (spec_l2Wide.f (k + 1) a0 a1) := by
 intro a0 a1 k; obtain ⟨ih0, ih1⟩ := spec_l2Wide.mono_l k; unfold spec_l2Wide.f
 repeat' first
   | (with_reducible exact ih0 _ _ _)
   | (with_reducible exact ih1 _ _ _ _)
   | (with_reducible exact spec_RuneWide.mono _ _)
   | (with_reducible exact spec_l2Joins.mono _ _ _)
   | (with_reducible exact LeO.refl _)
   | (with_reducible exact LeO.none _)
   | (with_reducible refine LeO.ite ?_ ?_)
   | (with_reducible refine LeO.bind ?_ (fun _ => ?_))
   | exact ih0 _ _ _
   | exact ih1 _ _ _ _
   | exact spec_RuneWide.mono _ _
   | exact spec_l2Joins.mono _ _ _
   | exact LeO.none _
   | refine LeO.ite ?_ ?_
   | refine LeO.bind ?_ (fun _ => ?_)
theorem spec_l2Wide.calls (k : Nat) (A0 : Option Addr) (c0 : Nat) (l0 : List Int) (a1 : Int) (r : Int) (w : World) (hr0 : Kd.C (Kd.int .i64) w A0 l0.length l0) (hc0 : l0.length ≤ c0) (h : spec_l2Wide.f k l0 a1 = some r) :
  Calls Tryz.prog 122 #[.slice A0 l0.length c0, .int .i64 a1] w fun e w' => e = .returned (.int .i64 r) ∧ Below w.heap.size w w' := by
 have HR0 := az hr0; have HC0 := az hc0; clear hr0 hc0; have HB := az (Below.refl w.heap.size w); have H : (if 0 ≤ a1 then (if a1 < (l0.length : Int) then ((spec_RuneWide.f k (rd l0 a1)).bind fun t154 => (spec_l2Wide.l0 k l0 t154 (wrap64 (a1 + 1)))) else (none)) else (none)) = some r := h; clear h; by_cases c3 : 0 ≤ a1
 ·
  rw [if_pos c3] at H; have c3b0 : decide (0 ≤ a1) = true := decide_eq_true c3; clear c3; by_cases c4 : a1 < (l0.length : Int)
  ·
   rw [if_pos c4] at H; have c4b0 : decide (a1 < (l0.length : Int)) = true := decide_eq_true c4; clear c4; replace H := Option.bind_eq_some_iff.mp H; obtain ⟨t154, A50, H⟩ := H; replace H : (spec_l2Wide.l0 k l0 t154 (wrap64 (a1 + 1))) = some r := H; have A5 := az A50; clear A50; have H' := az H; clear H; have p153 : 0 ≤ (a1 : Int) := of_decide_eq_true (by assumption); have q153 : a1 < (l0.length : Int) := of_decide_eq_true (by assumption); obtain ⟨ad153, e153, hx153_0⟩ := Kd.at_int HR0.out a1 p153 q153
   cases e153
   replace p153 := eq_true p153; replace q153 := eq_true q153; go_enter Tryz.func122, Tryz.ntmps122; go_wp2_with (first | ((with_reducible refine gate_callee (f := 136) rfl ?_); refine goesL_ (some 11) rfl rfl Tryz.func136 (by kernel_rfl) rfl #[.int .i64 (rd l0 a1)] rfl zC ?_; (with_reducible refine (spec_RuneWide.calls k (rd l0 a1) t154 _ A5.out).mono ?_); rintro e w6 ⟨rfl, hb⟩; refine ⟨_, rfl, ?_⟩; have n0_ := az (below_step (zA HB.out) hb); clear HB; have HB := n0_; clear n0_; (try clear hb); (try clear hb2); (try clear hk); (try clear hi))); go_loopg [5, 6] k (fun kq v5 v6 w' => ∃ (x5_1 : Int) (x6_1 : Int), v5 = .int .i64 x5_1 ∧ v6 = .int .i64 x6_1 ∧ Aside0 (spec_l2Wide.l0 kq l0 x5_1 x6_1 = some r) ∧ Aside0 (kq ≤ k) ∧ Aside0 (Below w.heap.size w w'))
   case atStart => exact ⟨(t154), (wrap64 (a1 + 1)), zB, zB, H', ⟨Nat.le_refl _⟩, ⟨zA HB.out⟩⟩
   case round =>
    clear H'; (try clear c1); (try clear p1); (try clear q1); (try clear hx1); (try clear p2); (try clear c3); (try clear c3b0); (try clear c4); (try clear c4b0); (try clear p6); (try clear hx153_0); (try clear p153); (try clear q153); obtain ⟨x5_1, x6_1, rfl, rfl, HA, HK1, HB⟩ := hrel
    cases gk with
    | zero => exact absurd HA.out (by simp [spec_l2Wide.l0])
    | succ k1 =>
     have H := HA.out; clear HA; simp only [spec_l2Wide.l0] at H; have HC7 := az H; clear H; go_upto_region 3 with (fail)
     go_cut [22] (fun v22 wc => ∃ (kq : Nat) (x22_6 : Bool), v22 = .bool x22_6 ∧ Aside0 (spec_l2Wide.j1 kq l0 x5_1 x6_1 x22_6 = some r) ∧ Aside0 (kq ≤ k1) ∧ Aside0 (Below w.heap.size w wc))
     case first =>
      have H := HC7.out; clear HC7; by_cases c8 : x6_1 < (l0.length : Int)
      ·
       rw [if_pos c8] at H; have c8b0 : decide (x6_1 < (l0.length : Int)) = true := decide_eq_true c8; clear c8; (first | rw [c8b0] | (simp only [i64_w, i32_w]; rw [c8b0]) | skip); replace H := Option.bind_eq_some_iff.mp H; obtain ⟨t155, A90, H⟩ := H; replace H : (spec_l2Wide.j1 k1 l0 x5_1 x6_1 t155) = some r := H; have A9 := az A90; clear A90; have H' := az H; clear H; go_wp2_with (first | (go_at_call 124; (with_reducible refine (spec_l2Joins.calls k1 _ _ l0 x6_1 t155 _ ?side1 ?side2 A9.out).mono ?_); (case side1 => exact (zO HR0.out HB.out)); (case side2 => exact HC0.out); rintro e w10 ⟨rfl, hb⟩; have n0_ := az (below_step (zA HB.out) hb); clear HB; have HB := n0_; clear n0_; (try clear hb); (try clear hb2); (try clear hk); (try clear hi))); go_meet
       case rel => exact ⟨_, (t155), zB, H', ⟨zK HK1.out⟩, ⟨zA HB.out⟩⟩
      ·
       rw [if_neg c8] at H; have c8b0 : decide (x6_1 < (l0.length : Int)) = false := decide_eq_false c8; clear c8; (first | rw [c8b0] | (simp only [i64_w, i32_w]; rw [c8b0]) | skip); have H' := az H; clear H; go_wp2; go_meet
       case rel => exact ⟨_, (false), zB, H', ⟨zK HK1.out⟩, ⟨zA HB.out⟩⟩
     case rest =>
      clear HC7; (try clear c1); (try clear p1); (try clear q1); (try clear hx1); (try clear p2); (try clear c3); (try clear c3b0); (try clear c4); (try clear c4b0); (try clear p6); (try clear c8); (try clear c8b0); (try clear hx153_0); (try clear p1); (try clear p153); (try clear p2); (try clear p6); (try clear q1); (try clear q153); obtain ⟨kq, x22_6, rfl, HA, HJ6, HB⟩ := hcut
      cases kq with
      | zero => exact absurd HA.out (by simp [spec_l2Wide.j1])
      | succ kj6 =>
       have H := HA.out; clear HA; simp only [spec_l2Wide.j1] at H; by_cases c11 : x22_6 = true
       ·
        subst c11; have H1 : (if 0 ≤ x6_1 then (if x6_1 < (l0.length : Int) then ((spec_RuneWide.f kj6 (rd l0 x6_1)).bind fun t157 => (if t157 > x5_1 then ((spec_RuneWide.f kj6 (rd l0 x6_1)).bind fun t159 => (spec_l2Wide.l0 kj6 l0 t159 (wrap64 (x6_1 + 1)))) else (spec_l2Wide.l0 kj6 l0 x5_1 (wrap64 (x6_1 + 1))))) else (none)) else (none)) = some r := by rw [if_pos rfl] at H; exact H
        clear H; have H := H1; clear H1; by_cases c12 : 0 ≤ x6_1
        ·
         rw [if_pos c12] at H; have c12b0 : decide (0 ≤ x6_1) = true := decide_eq_true c12; clear c12; by_cases c13 : x6_1 < (l0.length : Int)
         ·
          rw [if_pos c13] at H; have c13b0 : decide (x6_1 < (l0.length : Int)) = true := decide_eq_true c13; clear c13; replace H := Option.bind_eq_some_iff.mp H; obtain ⟨t157, A140, H⟩ := H; replace H : (if t157 > x5_1 then ((spec_RuneWide.f kj6 (rd l0 x6_1)).bind fun t159 => (spec_l2Wide.l0 kj6 l0 t159 (wrap64 (x6_1 + 1)))) else (spec_l2Wide.l0 kj6 l0 x5_1 (wrap64 (x6_1 + 1)))) = some r := H; have A14 := az A140; clear A140; by_cases c15 : t157 > x5_1
          ·
           rw [if_pos c15] at H; have c15b0 : decide (x5_1 < t157) = true := decide_eq_true c15; clear c15; replace H := Option.bind_eq_some_iff.mp H; obtain ⟨t159, A160, H⟩ := H; replace H : (spec_l2Wide.l0 kj6 l0 t159 (wrap64 (x6_1 + 1))) = some r := H; have A16 := az A160; clear A160; have H' := az H; clear H; have p156 : 0 ≤ (x6_1 : Int) := of_decide_eq_true (by assumption); have q156 : x6_1 < (l0.length : Int) := of_decide_eq_true (by assumption); obtain ⟨ad156, e156, hx156_0⟩ := Kd.at_int HR0.out x6_1 p156 q156; obtain rfl : ad153 = ad156 := (by injection e156); replace hx156_0 := (HB.out.cell (World.block_lt_of_cell? w _ hx156_0)).trans hx156_0; replace p156 := eq_true p156; replace q156 := eq_true q156; go_wp2_with (first | ((with_reducible refine gate_callee (f := 136) rfl ?_); refine goesL_ (some 29) rfl rfl Tryz.func136 (by kernel_rfl) rfl #[.int .i64 (rd l0 x6_1)] rfl zC ?_; (with_reducible refine (spec_RuneWide.calls kj6 (rd l0 x6_1) t157 _ A14.out).mono ?_); rintro e w17 ⟨rfl, hb⟩; refine ⟨_, rfl, ?_⟩; have n0_ := az (below_step (zA HB.out) hb); clear HB; have HB := n0_; clear n0_; (try clear hb); (try clear hb2); (try clear hk); (try clear hi); have p158 : 0 ≤ (x6_1 : Int) := of_decide_eq_true (by assumption); have q158 : x6_1 < (l0.length : Int) := of_decide_eq_true (by assumption); obtain ⟨ad158, e158, hx158_0⟩ := Kd.at_int HR0.out x6_1 p158 q158; obtain rfl : ad153 = ad158 := (by injection e158); replace hx158_0 := (HB.out.cell (World.block_lt_of_cell? w _ hx158_0)).trans hx158_0; replace p158 := eq_true p158; replace q158 := eq_true q158) | ((with_reducible refine gate_callee (f := 136) rfl ?_); refine goesL_ (some 36) rfl rfl Tryz.func136 (by kernel_rfl) rfl #[.int .i64 (rd l0 x6_1)] rfl zC ?_; (with_reducible refine (spec_RuneWide.calls kj6 (rd l0 x6_1) t159 _ A16.out).mono ?_); rintro e w18 ⟨rfl, hb⟩; refine ⟨_, rfl, ?_⟩; have n0_ := az (below_step (zA HB.out) hb); clear HB; have HB := n0_; clear n0_; (try clear hb); (try clear hb2); (try clear hk); (try clear hi))); go_roundg kj6
           case measure => have := HK1.out; have := HJ6.out; omega
           case rel => exact ⟨(t159), (wrap64 (x6_1 + 1)), zB, zB, H', ⟨zL HK1.out HJ6.out⟩, ⟨zA HB.out⟩⟩
          ·
           rw [if_neg c15] at H; have c15b0 : decide (x5_1 < t157) = false := decide_eq_false c15; clear c15; have H' := az H; clear H; have p156 : 0 ≤ (x6_1 : Int) := of_decide_eq_true (by assumption); have q156 : x6_1 < (l0.length : Int) := of_decide_eq_true (by assumption); obtain ⟨ad156, e156, hx156_0⟩ := Kd.at_int HR0.out x6_1 p156 q156; obtain rfl : ad153 = ad156 := (by injection e156); replace hx156_0 := (HB.out.cell (World.block_lt_of_cell? w _ hx156_0)).trans hx156_0; replace p156 := eq_true p156; replace q156 := eq_true q156; go_wp2_with (first | ((with_reducible refine gate_callee (f := 136) rfl ?_); refine goesL_ (some 29) rfl rfl Tryz.func136 (by kernel_rfl) rfl #[.int .i64 (rd l0 x6_1)] rfl zC ?_; (with_reducible refine (spec_RuneWide.calls kj6 (rd l0 x6_1) t157 _ A14.out).mono ?_); rintro e w19 ⟨rfl, hb⟩; refine ⟨_, rfl, ?_⟩; have n0_ := az (below_step (zA HB.out) hb); clear HB; have HB := n0_; clear n0_; (try clear hb); (try clear hb2); (try clear hk); (try clear hi))); go_roundg kj6
           case measure => have := HK1.out; have := HJ6.out; omega
           case rel => exact ⟨(x5_1), (wrap64 (x6_1 + 1)), zB, zB, H', ⟨zL HK1.out HJ6.out⟩, ⟨zA HB.out⟩⟩
         ·
          rw [if_neg c13] at H; exact absurd H (by simp)
        ·
         rw [if_neg c12] at H; exact absurd H (by simp)
       ·
        replace c11 := Bool.eq_false_iff.mpr c11; subst c11; have H1 : (some x5_1) = some r := by rw [if_neg (show ¬ (false = true) by decide)] at H; exact H
        clear H; have H := H1; clear H1; obtain rfl := Option.some.inj H; go_wp2; go_ret; exact ⟨zG, zA HB.out⟩
  ·
   rw [if_neg c4] at H; exact absurd H (by simp)
 ·
  rw [if_neg c3] at H; exact absurd H (by simp)
end Go.Proofs.YtmcdcogedcbndaaGreat.S
