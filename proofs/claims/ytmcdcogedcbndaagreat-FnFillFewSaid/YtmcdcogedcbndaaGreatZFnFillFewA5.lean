/- Of drawn letters, spans, a width and ends that fit: the lines that are as full as can be fit, too, and are no more; they are the reference's. No condition beyond the statement's own. (text 6 of 7 of this claim: functions of the program and of the reference as plain Lean functions, what a call of each comes to, and what follows.) -/
import Derived.Test.YtmcdcogedcbndaaGreatZFnFillFewA0
import Derived.Test.YtmcdcogedcbndaaGreatZFnFillFewA4
import Derived.Test.YtmcdcogedcbndaaGreatZFnFillFewA1
import Derived.Test.YtmcdcogedcbndaaGreatZFnFillFewA2
set_option maxHeartbeats 16000000
set_option maxRecDepth 100000
set_option linter.unusedVariables false
set_option linter.unusedSimpArgs false
namespace Go.Proofs.YtmcdcogedcbndaaGreat.S
open Go.RowKit Go.Proofs.YtmcdcogedcbndaaGreatW.PrintWords Go.Proofs.YtmcdcogedcbndaaGreatW.PrintLast
set_option linter.unusedVariables false
set_option linter.unusedSimpArgs false
theorem one_plus {v : Int} {m : Nat} (h0 : 0 ≤ v) (h1 : v < (m : Int)) (hm : m ≤ 1000) : ∃ n : Nat, n + 1 ≤ m ∧ wrap64 (1 + v) = ((n + 1 : Nat) : Int) ∧ IntKind.i64.wrap (1 + v) = ((n + 1 : Nat) : Int) := by
 have e : wrap64 (1 + v) = ((v.toNat + 1 : Nat) : Int) := by unfold wrap64; omega
 exact ⟨v.toNat, by omega, e, by rw [i64_w]; exact e⟩
theorem less_one {j : Nat} (h : j ≤ 1000) : wrap64 (((j + 1 : Nat) : Int) - 1) = (j : Int) ∧ IntKind.i64.wrap (((j + 1 : Nat) : Int) - 1) = (j : Int) := by
 have e : wrap64 (((j + 1 : Nat) : Int) - 1) = (j : Int) := by unfold wrap64; omega
 exact ⟨e, by rw [i64_w]; exact e⟩
theorem wordsE {w0 w : World} {g : Nat} {bs : List Int} {p : Int} (hs : DrS bs) (h0 : 0 ≤ p) (h1 : p ≤ 700000) (hI : IsS86 w0 w g bs p) (hB : Below w0.heap.size w0 w) :
  Calls Tryz.prog 44 #[.pointer (some ⟨g, 0, none⟩)] w fun e w' => ∃ (v : Value) (l : List Int) (p' : Int), p ≤ p' ∧ p' ≤ p + 300 ∧ l.length ≤ 200 ∧ e = .returned v ∧ Kd.R (Kd.int .i64) 3 w' w.heap.size (fun _ => True) v l ∧ RdI w0 w w' g bs p' := by
 have HS := az hs
 have HI := az (RdI.start hI hB)
 have HP := az (show 0 ≤ p ∧ p ≤ 700000 ∧ p ≤ 1000000 ∧ 0 ≤ p + 1 ∧ p + 1 ≤ 800000 ∧ p + 1 ≤ 1000000 by omega)
 clear hs hI hB h0 h1
 go_enter Tryz.func44, Tryz.ntmps44
 go_upto_if 8 with (go_at_call 47; go_must (refine (pickE 3 HS.out HP.out.1 HP.out.2.2.1 (by decide) (by decide) HI.out.1 HI.out.2.1).mono ?_); rintro e w1 ⟨v, hv0, hv1, rfl, hr⟩; have HR := az (HI.out.step hr); clear hr hv0 hv1)
 by_cases hz : v = 0
 ·
  have bz : (v == 0) = true := beq_iff_eq.mpr hz
  clear hz
  go_wp2_with (go_at_call 72; go_must (refine (runesE HS.out HP.out.2.2.2.1 HP.out.2.2.2.2.1 HR.out.1 HR.out.2.1).mono ?_); rintro e w2 ⟨x, l, q, hq1, hq2, hl, rfl, ho, hr⟩; have HO2 := az (Kd.R_lower ho HR.out.2.2.2.2); have HR2 := az (HR.out.step hr); have HQ := az (And.intro hq1 (And.intro hq2 hl)); clear ho hr hq1 hq2 hl)
  go_ret
  exact ⟨_, l, q, zD HQ.out, zD HQ.out, HQ.out.2.2, rfl, HO2.out, HR2.out⟩
 ·
  have bz : (v == 0) = false := beq_eq_false_iff_ne.mpr hz
  clear hz
  rw [bz]
  go_wp2_with (first
   | ((with_reducible refine gate_dst (N := 11) rfl ?_); refine Kd.R_lit (Kd.int .i64) w.heap.size 3 ?hg (N := 11) ?hd (xs := ([] : List Int)) (inner := []) (ok := fun _ => True) (okp := fun _ => True) ?hr ?hp (fun _ hk => hk) trivial (Below.refl _ _) HR.out.2.2.2.2 (by simp) ?_; (case hd => rfl); (case hg => rfl); (case hr => first | (go_simp; done) | (go_simp; rfl)); (case hp => exact (Reps.none _ _)); intro v1 w2 ho1 hb1 hg_ hnew_; have HO2 := az ho1; have HR2 := az (HR.out.grown hg_); clear ho1 hb1 hg_ hnew_)
   | (go_at_call 47; go_must (refine (pickE 9 HS.out HP.out.2.2.2.1 HP.out.2.2.2.2.2 (by decide) (by decide) HR2.out.1 HR2.out.2.1).mono ?_); rintro e w3 ⟨v9, hv0, hv1, rfl, hr3⟩; have HR3 := az (HR2.out.step hr3); have HO3 := az (HR2.out.row hr3 HO2.out (by decide)); obtain ⟨n, hn, hw1, hw2⟩ := one_plus (m := 9) hv0 hv1 (by decide); have HNN := az hn; clear hr3 hv0 hv1 hn))
  go_loopg [3, 4] 10 (fun gg s3 s4 wr => ∃ (j : Nat) (out : List Int) (q : Int), s4 = .int .i64 (j : Int) ∧ j ≤ gg ∧ Aside0 (p ≤ q ∧ q + 7 * j ≤ p + 80 ∧ out.length + 5 * j ≤ 60) ∧ Aside0 (Kd.R (Kd.int .i64) 3 wr w.heap.size (fun _ => True) s3 out) ∧ Aside0 (RdI w0 w wr g bs q))
  case atStart => exact ⟨n + 1, [], p + 1 + 1, rfl, zD HNN.out, ⟨by have := HNN.out; simp; omega⟩, HO3, HR3⟩
  case round =>
   clear HO3 HR3 HO2 HR2 HR hw1 hw2
   obtain ⟨j, out, q, rfl, hj, HJ, HO, HR⟩ := hrel
   cases j with
   | zero =>
    have hpos : ¬ (0 : Int) < ((0 : Nat) : Int) := by omega
    clear hj
    go_wp2
    go_ret
    exact ⟨_, out, q, zD HJ.out, zD HJ.out, zD HJ.out, rfl, HO.out, HR.out⟩
   | succ j =>
    have hpos : (0 : Int) < ((j + 1 : Nat) : Int) := by omega
    have hjb : j ≤ 60 := by have := HJ.out; omega
    obtain ⟨hu1, hu2⟩ := less_one (j := j) (by omega)
    have HJQ : Aside0 (0 ≤ q ∧ q ≤ 1000000) := ⟨zL HJ.out HP.out⟩
    have HGG := az hj
    clear hj hjb
    obtain ⟨jj, hjj⟩ : ∃ jj : Int, ((j + 1 : Nat) : Int) = jj := ⟨_, rfl⟩
    rw [hjj] at hpos hu1 hu2 ⊢
    clear hjj
    go_wp2_with (go_at_call 47; go_must (refine (pickE 4 HS.out HJQ.out.1 HJQ.out.2 (by decide) (by decide) HR.out.1 HR.out.2.1).mono ?_); rintro e w4 ⟨v4, hv0, hv1, rfl, hr4⟩; have HR4 := az (HR.out.step hr4); have HO4 := az (HR.out.row hr4 HO.out (by decide)); obtain ⟨m, hm, hx1, hx2⟩ := one_plus (m := 4) hv0 hv1 (by decide); have HMM := az hm; clear hr4 hv0 hv1 hm)
    go_loopg [3, 5] 5 (fun gg s3 s5 wr => ∃ (i : Nat) (out2 : List Int) (q2 : Int), s5 = .int .i64 (i : Int) ∧ i ≤ gg ∧ Aside0 (p ≤ q2 ∧ q2 + i + 1 + 7 * j ≤ p + 80 ∧ out2.length + i + 1 + 5 * j ≤ 60) ∧ Aside0 (Kd.R (Kd.int .i64) 3 wr w.heap.size (fun _ => True) s3 out2) ∧ Aside0 (RdI w0 w wr g bs q2))
    case atStart => exact ⟨m + 1, out, q + 1, rfl, zD HMM.out, ⟨zL HMM.out HJ.out⟩, HO4, HR4⟩
    case round =>
     clear HO4 HR4 HO HR hx1 hx2
     obtain ⟨i, out2, q2, rfl, hi, HQ2, HO2, HR2⟩ := hrel
     have HJQ2 : Aside0 (0 ≤ q2 ∧ q2 ≤ 1000000) := ⟨zL HQ2.out HP.out⟩
     have HLN : Aside0 (out2.length ≤ 60) := ⟨zD HQ2.out⟩
     cases i with
     | zero =>
      have hpos2 : ¬ (0 : Int) < ((0 : Nat) : Int) := by omega
      clear hi
      go_wp2_with (first
       | (go_at_call 73; go_must (refine (oneLit _ _ _ HS.out HJQ2.out.1 HJQ2.out.2 HR2.out ?hg ?ha ?hn (by decide)).mono ?_); (case hg => rfl); (case ha => rfl); (case hn => rfl); rintro e w3 ⟨x, rfl, hr3, hr4⟩; have HR3 := az hr3; have HO3 := az (HR2.out.row hr4 HO2.out (by decide)); clear hr3 hr4)
       | ((with_reducible refine gate_builtin (b := .append) (xs := #[.tmp 32, .tmp 36]) rfl ?_); at_builtin; go_must (refine appI (w0 := w3) (base := w.heap.size) Tryz.underlying22 info3 rfl (.tmp 32) (.tmp 36) rfl _ out2 x rfl rfl HO3.out (Below.refl _ _) HR3.out.2.2.2.2 ?aL ?_); (case aL => have := HLN.out; omega); intro v9 w9 ho9 hb9 hg9 hat9; have HO9 := az ho9; have HR9 := az (HR3.out.app HO3.out (by decide) hg9 hb9); clear ho9 hb9 hg9 hat9))
      go_roundg j
      case measure => have := HGG.out; omega
      case rel => exact ⟨j, out2 ++ [x], q2 + 1, rfl, Nat.le_refl _, ⟨by have := HQ2.out; simp only [List.length_append, List.length_cons, List.length_nil]; omega⟩, HO9, HR9⟩
     | succ i =>
      have hpos2 : (0 : Int) < ((i + 1 : Nat) : Int) := by omega
      have hib : i ≤ 60 := by have := HQ2.out; omega
      obtain ⟨hy1, hy2⟩ := less_one (j := i) (by omega)
      have HGI := az hi
      clear hi hib
      obtain ⟨ii, hii⟩ : ∃ ii : Int, ((i + 1 : Nat) : Int) = ii := ⟨_, rfl⟩
      rw [hii] at hpos2 hy1 hy2 ⊢
      clear hii
      go_wp2_with (first
       | (go_at_call 73; go_must (refine (oneLit _ _ _ HS.out HJQ2.out.1 HJQ2.out.2 HR2.out ?hg ?ha ?hn (by decide)).mono ?_); (case hg => rfl); (case ha => rfl); (case hn => rfl); rintro e w3 ⟨x, rfl, hr3, hr4⟩; have HR3 := az hr3; have HO3 := az (HR2.out.row hr4 HO2.out (by decide)); clear hr3 hr4)
       | ((with_reducible refine gate_builtin (b := .append) (xs := #[.tmp 26, .tmp 30]) rfl ?_); at_builtin; go_must (refine appI (w0 := w3) (base := w.heap.size) Tryz.underlying22 info3 rfl (.tmp 26) (.tmp 30) rfl _ out2 x rfl rfl HO3.out (Below.refl _ _) HR3.out.2.2.2.2 ?aL ?_); (case aL => have := HLN.out; omega); intro v9 w9 ho9 hb9 hg9 hat9; have HO9 := az ho9; have HR9 := az (HR3.out.app HO3.out (by decide) hg9 hb9); clear ho9 hb9 hg9 hat9))
      go_roundg i
      case measure => have := HGI.out; omega
      case rel => exact ⟨i, out2 ++ [x], q2 + 1, rfl, Nat.le_refl _, ⟨by have := HQ2.out; simp only [List.length_append, List.length_cons, List.length_nil]; omega⟩, HO9, HR9⟩
theorem RdI.litW {w0 W1 W' : World} {g : Nat} {bs : List Int} {p : Int} {a : Array Value} (h : RdI w0 (W1.alloc (.cells a 3)) W' g bs p) (hg : g < W1.heap.size) : W'.heap[W1.heap.size]? = some (.cells a 3 (0, 0)) := h.lit (blk_new W1 _) (by omega)
theorem alloc_drewD (W : World) (o : Obj) : (W.alloc o).drew = W.drew.alloc o := rfl
abbrev size5 : Array Value := #[.int .i64 10, .int .i64 5, .int .i64 20, .int .i64 40, .int .i64 1]
theorem size5_at {n : Nat} (hn : n < 5) : ∃ y : Int, size5[n]? = some (.int .i64 y) := by
 have h : n = 0 ∨ n = 1 ∨ n = 2 ∨ n = 3 ∨ n = 4 := by omega
 rcases h with rfl | rfl | rfl | rfl | rfl
 all_goals exact ⟨_, rfl⟩
theorem sum_fit {a b : Int} (h0 : 0 ≤ a) (h1 : a ≤ 100000) (h2 : 0 ≤ b) (h3 : b ≤ 100000) : wrap64 (a + b) = a + b ∧ IntKind.i64.wrap (a + b) = a + b := by
 have e : wrap64 (a + b) = a + b := by unfold wrap64; omega
 exact ⟨e, by rw [i64_w]; exact e⟩
theorem spansE {w0 w : World} {g : Nat} {bs : List Int} {p : Int} (a1 : Int) (ha0 : 0 ≤ a1) (ha1 : a1 ≤ 1000) (hs : DrS bs) (h0 : 0 ≤ p) (h1 : p ≤ 800000) (hI : IsS86 w0 w g bs p) (hB : Below w0.heap.size w0 w) :
  Calls Tryz.prog 74 #[.pointer (some ⟨g, 0, none⟩), .int .i64 a1] w fun e w' => ∃ (v : Value) (l : List S50) (p' : Int), p ≤ p' ∧ p' ≤ p + 100 ∧ l.length ≤ 12 ∧ e = .returned v ∧ Kd.R k50 50 w' w.heap.size (fun _ => True) v l ∧ RdI w0 w w' g bs p' := by
 have HS := az hs
 have HI := az (RdI.start hI hB)
 have HP := az (show 0 ≤ p ∧ p ≤ 800000 ∧ p ≤ 1000000 by omega)
 have HA := az (And.intro ha0 ha1)
 clear hs hI hB h0 h1 ha0 ha1
 go_enter Tryz.func74, Tryz.ntmps74
 go_wp2_with (first
  | ((with_reducible refine gate_dst (N := 8) rfl ?_); refine Kd.R_lit k50 w.heap.size 50 ?hg (N := 8) ?hd (xs := ([] : List S50)) (inner := []) (ok := fun _ => True) (okp := fun _ => True) ?hr ?hp (fun _ hk => hk) trivial (Below.refl _ _) (Nat.le_refl _) (by simp) ?_; (case hd => rfl); (case hg => rfl); (case hr => first | (go_simp; done) | (go_simp; rfl)); (case hp => exact (Reps.none _ _)); intro v1 w1 ho1 hb1 hg_ hnew_; clear hg_ hnew_; have HO1 := az ho1; have HR1 := az (HI.out.below hb1); clear ho1 hb1)
  | (go_at_call 47; go_must (refine (pickR 4 HS.out HP.out.1 HP.out.2.2 (by decide) (by decide) HR1.out).mono ?_); rintro e w2 ⟨v, hv0, hv1, rfl, hr, hr2⟩; have HR2 := az hr; have HO2 := az (HR1.out.row hr2 HO1.out (by decide)); have HV := az (And.intro hv0 hv1); clear hr hr2 hv0 hv1))
 go_loopg [5, 6] 13 (fun gg s5 s6 wr => ∃ (out : List S50) (at_ q : Int), s6 = .int .i64 at_ ∧ 12 - out.length ≤ gg ∧ Aside0 (0 ≤ at_ ∧ at_ ≤ 10 + 10 * out.length ∧ out.length ≤ 12 ∧ p ≤ q ∧ q + 5 * (12 - out.length : Nat) ≤ p + 70) ∧ Aside0 (Kd.R k50 50 wr w.heap.size (fun _ => True) s5 out) ∧ Aside0 (RdI w0 w wr g bs q))
 case atStart => exact ⟨[], v, p + 1, rfl, by simp, ⟨by have := HV.out; simp; omega⟩, HO2, HR2⟩
 case round =>
  clear HO2 HR2 HO1 HR1 HV
  obtain ⟨out, at_, q, rfl, hgg, HQ, HO, HR⟩ := hrel
  obtain ⟨A2, c2, e2⟩ := Kd.R_slice HO.out
  subst e2
  have HEND : Aside0 (p ≤ q ∧ q ≤ p + 100 ∧ p ≤ q + 1 ∧ q + 1 ≤ p + 100) := ⟨zD HQ.out⟩
  have HQB : Aside0 ((0 ≤ q ∧ q ≤ 1000000) ∧ (0 ≤ q + 1 ∧ q + 1 ≤ 1000000) ∧ (0 ≤ q + 1 + 1 ∧ q + 1 + 1 ≤ 1000000) ∧ (0 ≤ q + 1 + 1 + 1 ∧ q + 1 + 1 + 1 ≤ 1000000) ∧ (0 ≤ q + 1 + 1 + 1 + 1 ∧ q + 1 + 1 + 1 + 1 ≤ 1000000)) := ⟨zL HQ.out HP.out⟩
  by_cases hlt : at_ < a1
  case neg =>
   clear hgg
   go_wp2
   go_ret
   exact ⟨_, out, q, HEND.out.1, HEND.out.2.1, HQ.out.2.2.1, rfl, HO.out, HR.out⟩
  case pos =>
  by_cases hln : (out.length : Int) < 12
  case neg =>
   clear hgg
   go_wp2
   go_ret
   exact ⟨_, out, q, HEND.out.1, HEND.out.2.1, HQ.out.2.2.1, rfl, HO.out, HR.out⟩
  case pos =>
  go_upto_if 23 with (go_at_call 47; go_must (refine (pickR 8 HS.out HQB.out.1.1 HQB.out.1.2 (by decide) (by decide) HR.out).mono ?_); rintro e w3 ⟨v8, _, _, rfl, hr, hr2⟩; have HR3 := az hr; have HO3 := az (HR.out.row hr2 HO.out (by decide)); clear hr hr2)
  by_cases hv8 : 0 < v8
  case neg =>
   clear hgg
   go_wp2
   go_ret
   exact ⟨_, out, q + 1, HEND.out.2.2.1, HEND.out.2.2.2, HQ.out.2.2.1, rfl, HO3.out, HR3.out⟩
  case pos =>
  have HGG := az (And.intro hgg (show out.length < 12 by omega))
  have HAT := az hlt
  obtain ⟨hs1, hs2⟩ := sum_fit (a := at_) (b := 1) HQ.out.1 (zD HQ.out) (by decide) (by decide)
  clear hgg hlt hln
  go_upto_if 31 with (go_at_call 47; go_must (refine (pickR (w0 := w0) (w := w) 5 HS.out HQB.out.2.1.1 HQB.out.2.1.2 (by decide) (by decide) HR3.out).mono ?_); rintro e w4 ⟨v5, hv0, hv1, rfl, hr, hr2⟩; have HR4 := az hr; have HO4 := az (HR3.out.row hr2 HO3.out (by decide)); obtain ⟨hs3, hs4⟩ := sum_fit (a := at_ + 1) (b := v5) (zD HQ.out) (zD HQ.out) hv0 (by omega); have HV5 := az (And.intro hv0 hv1); clear hr hr2 hv0 hv1)
  obtain ⟨w5, hw5⟩ : ∃ w5, w5 = w4 := ⟨_, rfl⟩
  subst hw5
  go_cut [7] (fun s7 wc => ∃ t : Int, s7 = .int .i64 t ∧ wc = w5 ∧ Aside0 (at_ < t ∧ t ≤ at_ + 5))
  case first =>
   by_cases hgt : a1 < at_ + 1 + v5
   ·
    have HT : Aside0 (at_ < a1 ∧ a1 ≤ at_ + 5) := ⟨zL HV5.out HAT.out⟩
    go_wp2
    go_meet
    exact ⟨_, rfl, rfl, HT⟩
   ·
    have HT : Aside0 (at_ < at_ + 1 + v5 ∧ at_ + 1 + v5 ≤ at_ + 5) := ⟨zD HV5.out⟩
    go_wp2
    go_meet
    exact ⟨_, rfl, rfl, HT⟩
  case rest =>
   obtain ⟨t, rfl, rfl, HT⟩ := hcut
   clear hs1 hs2 hs3 hs4
   go_upto_region 7 with fail
   go_cut [5] (fun s5 wc => ∃ (out2 : List S50), Aside0 (Kd.R k50 50 wc w.heap.size (fun _ => True) s5 out2) ∧ Aside0 (RdI w0 w wc g bs (q + 1 + 1 + 1 + 1)) ∧ Aside0 (out2.length = out.length + 1))
   case first =>
    go_region_law (first
     | (refine goes_ Tryz.func47 (by kernel_rfl) rfl #[.pointer (some ⟨g, 0, none⟩), .int .i64 5] (by rfl) rfl rfl zC ?_; refine (pickR (w0 := w0) (w := w) 5 HS.out HQB.out.2.2.1.1 HQB.out.2.2.1.2 ?d1 ?d2 ?hc).mono ?_; (case d1 => decide); (case d2 => decide); (case hc => exact (by repeat (first | exact HR4.out | apply RdI.alloc | apply RdI.drew))); rintro e w6 ⟨v6, hu0, hu1, rfl, hr, hr2⟩; refine ⟨_, rfl, ?_⟩; have HR6 := az hr; have HO6 := az (RdI.row (w := w) (p := q + 1 + 1) (by repeat (first | exact HR4.out | apply RdI.alloc | apply RdI.drew)) hr2 (zF HO4.out) (by decide)); obtain ⟨n, hn⟩ : ∃ n : Nat, v6 = (n : Int) := ⟨v6.toNat, by omega⟩; subst hn; obtain ⟨y, hy⟩ := size5_at (n := n) (by omega); have hn5 : (n : Int) < 5 := hu1; have hall := fun (W : World) => (blk_cell (blk_new W (.cells size5 3)) n).trans hy; have HY := az hy; (try have HL6 := az (RdI.litW (W1 := wc.drew) (a := size5) hr2 HR4.out.1.lt); try have hx6 := (show w6.cell? ⟨wc.heap.size, n, none⟩ = some (.int .i64 y) from (blk_cell HL6.out n).trans hy)); clear hr hr2 hy hu0 hu1)
     | (refine goes_ Tryz.func47 (by kernel_rfl) rfl #[.pointer (some ⟨g, 0, none⟩), .int .i64 3] (by rfl) rfl rfl zC ?_; refine (pickR (w0 := w0) (w := w) 3 HS.out HQB.out.2.2.2.1.1 HQB.out.2.2.2.1.2 ?d1 ?d2 ?hc).mono ?_; (case d1 => decide); (case d2 => decide); (case hc => exact (by repeat (first | exact HR6.out | apply RdI.alloc | apply RdI.drew))); rintro e w7 ⟨v7, _, _, rfl, hr, hr2⟩; refine ⟨_, rfl, ?_⟩; have HR7 := az hr; have HO7 := az (RdI.row (w := w) (p := q + 1 + 1 + 1) (by repeat (first | exact HR6.out | apply RdI.alloc | apply RdI.drew)) hr2 (zF HO6.out) (by decide)); (try have HL7 := az (RdI.litW (W1 := w6.drew) (a := size5) hr2 HR6.out.1.lt)); (try have hx7 := (show w7.cell? ⟨w6.heap.size, n, none⟩ = some (.int .i64 y) from (blk_cell HL7.out n).trans HY.out)); (try have hx8 := (show w7.cell? ⟨wc.heap.size, n, none⟩ = some (.int .i64 y) from (blk_cell (hr2.lit (show _ = _ from HL6.out) (Nat.ne_of_gt HR4.out.1.lt)) n).trans HY.out)); clear hr hr2)
     | ((try rw [alloc_drewD]); (try rw [alloc_drewD]); refine Kd.R_append_step k50 w.heap.size (by rfl) (.tmp 33) (.tmp 44) 27 50 _ 32 rfl Tryz.underlying27 info50 rfl (by decide) (by omega) (.slice A2 out.length c2) out (⟨at_, t, y, v7⟩ : S50) [.int .i64 at_, .int .i64 t, .int .i64 y, .int .i64 v7] (fun _ => True) (fun _ => False) ?a1 ?a2 ?aP (fun _ hk => hk.elim) (fun _ _ => trivial) ?aO (Below.refl _ _) ?aS ?aL ?_; (case a1 => rfl); (case a2 => first | rfl | (rw [World.size_alloc]; rfl)); (case aP => exact k50_mkM _ _ _ (⟨at_, t, y, v7⟩ : S50)); (case aO => (with_reducible repeat (first | apply Kd.R_alloc | apply Kd.R_drewN | apply Kd.R_drew)); exact HO7.out); (case aS => exact (show RdI w0 w _ g bs (q + 1 + 1 + 1 + 1) by repeat (first | exact HR7.out | apply RdI.alloc | apply RdI.drew)).2.2.2.2); (case aL => have := HGG.out.2; omega); intro v9 w9 ho9 hb9 hg9 hat9; have HO9 := az ho9; have HR9 := az (RdI.app (show RdI w0 w _ g bs (q + 1 + 1 + 1 + 1) by repeat (first | exact HR7.out | apply RdI.alloc | apply RdI.drew)) (show Kd.R k50 50 _ w.heap.size (fun _ => True) (.slice A2 out.length c2) out from (zF HO7.out)) (by decide) hg9 hb9); clear ho9 hb9 hg9 hat9))
    all_goals
     go_wp2
     go_meet
     exact ⟨_, HO9, HR9, ⟨by simp⟩⟩
   case rest =>
    obtain ⟨out2, HO5, HR5, HL5⟩ := hcut
    go_wp2_with (go_at_call 47; go_must (refine (pickR 3 HS.out HQB.out.2.2.2.2.1 HQB.out.2.2.2.2.2 (by decide) (by decide) HR5.out).mono ?_); rintro e w6 ⟨v3, hv0, hv1, rfl, hr, hr2⟩; have HR6 := az hr; have HO6 := az (HR5.out.row hr2 HO5.out (by decide)); obtain ⟨hs3, hs4⟩ := sum_fit (a := t) (b := v3) (zL HQ.out HT.out) (zL HQ.out HT.out) hv0 (by omega); have HV6 := az (And.intro hv0 hv1); clear hr hr2 hv0 hv1)
    go_roundg (12 - out2.length)
    case measure => have := HGG.out; have := HL5.out; omega
    case rel => exact ⟨out2, t + v3, q + 1 + 1 + 1 + 1 + 1, rfl, Nat.le_refl _, ⟨by have := HQ.out; have := HT.out; have := HV6.out; have := HL5.out; have := HGG.out; omega⟩, HO6, HR6⟩
theorem spanSet {W : World} {base b n cap : Nat} {xs : List S50} (h : Kd.R k50 50 W base (fun _ => True) (.slice (some ⟨b, 0, none⟩) n cap) xs) (k : Nat) (hk : k < n) :
  ∀ j, j < 4 → (∃ y : Int, W.cell? ⟨b, k * 4 + j, none⟩ = some (.int .i64 y)) ∧ W.frozen? ⟨b, k * 4 + j, none⟩ = false ∧ ∀ x : Int, (∃ xs' : List S50, xs'.length = xs.length ∧ Kd.R k50 50 (W.setCell ⟨b, k * 4 + j, none⟩ (.int .i64 x)) base (fun _ => True) (.slice (some ⟨b, 0, none⟩) n cap) xs') ∧ W.grownBy (W.setCell ⟨b, k * 4 + j, none⟩ (.int .i64 x)) (some b) := by
 intro j hj
 obtain ⟨ce, hcl, hM, hcc, hfr⟩ := Kd.R_elem h z50 (k : Int) (by omega) (by omega)
 obtain rfl := k50_openM hM
 rw [Int.toNat_natCast] at hcc hfr
 have e4 : k50.sz = 4 := rfl
 rw [e4] at hcc hfr
 have hj4 : j = 0 ∨ j = 1 ∨ j = 2 ∨ j = 3 := by omega
 obtain ⟨y, hy⟩ : ∃ y, xs.getD ((k : Int)).toNat z50 = y := ⟨_, rfl⟩
 rcases hj4 with rfl | rfl | rfl | rfl
 all_goals
  refine ⟨⟨_, hcc _ _ rfl⟩, hfr _, fun x => ?_⟩
 ·
  have hp := Kd.R_seg h (k : Int) (by omega) (by omega) (seg := [.int .i64 x]) (j := 0) hcl (by rw [Int.toNat_natCast, e4]; exact hcc) (show 1 ≤ 4 by decide) (k50_mkM _ _ _ (⟨x, _, _, _⟩ : S50)) (fun _ hk => hk)
  rw [Int.toNat_natCast, e4] at hp
  exact ⟨⟨_, by simp, hp.1⟩, hp.2⟩
 ·
  have hp := Kd.R_seg h (k : Int) (by omega) (by omega) (seg := [.int .i64 x]) (j := 1) hcl (by rw [Int.toNat_natCast, e4]; exact hcc) (show 2 ≤ 4 by decide) (k50_mkM _ _ _ (⟨_, x, _, _⟩ : S50)) (fun _ hk => hk)
  rw [Int.toNat_natCast, e4] at hp
  exact ⟨⟨_, by simp, hp.1⟩, hp.2⟩
 ·
  have hp := Kd.R_seg h (k : Int) (by omega) (by omega) (seg := [.int .i64 x]) (j := 2) hcl (by rw [Int.toNat_natCast, e4]; exact hcc) (show 3 ≤ 4 by decide) (k50_mkM _ _ _ (⟨_, _, x, _⟩ : S50)) (fun _ hk => hk)
  rw [Int.toNat_natCast, e4] at hp
  exact ⟨⟨_, by simp, hp.1⟩, hp.2⟩
 ·
  have hp := Kd.R_seg h (k : Int) (by omega) (by omega) (seg := [.int .i64 x]) (j := 3) hcl (by rw [Int.toNat_natCast, e4]; exact hcc) (show 4 ≤ 4 by decide) (k50_mkM _ _ _ (⟨_, _, _, x⟩ : S50)) (fun _ hk => hk)
  rw [Int.toNat_natCast, e4] at hp
  exact ⟨⟨_, by simp, hp.1⟩, hp.2⟩
theorem spanCells {W : World} {base b n cap : Nat} {xs : List S50} (h : Kd.R k50 50 W base (fun _ => True) (.slice (some ⟨b, 0, none⟩) n cap) xs) (k : Nat) (hk : k < n) :
  ∃ y0 y1 y2 y3 : Int, (W.cell? ⟨b, k * 4, none⟩ = some (.int .i64 y0) ∧ W.cell? ⟨b, k * 4 + 1, none⟩ = some (.int .i64 y1) ∧ W.cell? ⟨b, k * 4 + 2, none⟩ = some (.int .i64 y2) ∧ W.cell? ⟨b, k * 4 + 3, none⟩ = some (.int .i64 y3)) ∧ W.frozen? ⟨b, k * 4, none⟩ = false ∧ W.frozen? ⟨b, k * 4 + 1, none⟩ = false ∧ W.frozen? ⟨b, k * 4 + 2, none⟩ = false ∧ W.frozen? ⟨b, k * 4 + 3, none⟩ = false := by
 have hj := spanSet h k hk
 obtain ⟨⟨y0, c0⟩, f0, _⟩ := hj 0 (by decide)
 obtain ⟨⟨y1, c1⟩, f1, _⟩ := hj 1 (by decide)
 obtain ⟨⟨y2, c2⟩, f2, _⟩ := hj 2 (by decide)
 obtain ⟨⟨y3, c3⟩, f3, _⟩ := hj 3 (by decide)
 exact ⟨y0, y1, y2, y3, ⟨c0, c1, c2, c3⟩, f0, f1, f2, f3⟩
theorem lt_cases6 {v : Int} (h0 : 0 ≤ v) (h1 : v < 6) : v = 0 ∨ v = 1 ∨ v = 2 ∨ v = 3 ∨ v = 4 ∨ v = 5 := by omega
theorem spoilE {w0 w : World} {g : Nat} {bs : List Int} {p : Int} (A1 : Option Addr) (c1 : Nat) (l1 : List S50) (a2 : Int) (ha0 : 0 ≤ a2) (ha1 : a2 ≤ 1000) (hl : l1.length ≤ 12) (hs : DrS bs) (h0 : 0 ≤ p) (h1 : p ≤ 900000) (hI : IsS86 w0 w g bs p) (hB : Below w0.heap.size w0 w) (hC : Kd.C k50 w A1 l1.length l1) :
  Calls Tryz.prog 75 #[.pointer (some ⟨g, 0, none⟩), .slice A1 l1.length c1, .int .i64 a2] w fun e w' => ∃ (v : Value) (l : List S50) (p' : Int), p ≤ p' ∧ p' ≤ p + 10 ∧ l.length ≤ 13 ∧ e = .returned v ∧ Kd.R k50 50 w' w.heap.size (fun _ => True) v l ∧ RdI w0 w w' g bs p' := by
 have HS := az hs
 have HI := az (RdI.start hI hB)
 have HP := az (show (0 ≤ p ∧ p ≤ 1000000) ∧ (0 ≤ p + 1 ∧ p + 1 ≤ 1000000) ∧ (0 ≤ p + 1 + 1 ∧ p + 1 + 1 ≤ 1000000) ∧ p ≤ p + 10 ∧ (p ≤ p + 1 + 1 ∧ p + 1 + 1 ≤ p + 10) ∧ (p ≤ p + 1 + 1 + 1 ∧ p + 1 + 1 + 1 ≤ p + 10) by omega)
 obtain ⟨hs1, hs2⟩ := sum_fit (a := a2) (b := 1) ha0 (by omega) (by decide) (by decide)
 have HC := az hC
 have HL := az hl
 clear hs hI hB h0 h1 ha0 ha1 hC hl
 go_enter Tryz.func75, Tryz.ntmps75
 go_upto_if 14 with (first
  | ((with_reducible refine gate_dst (N := 9) rfl ?_); refine Kd.R_lit k50 w.heap.size 50 ?hg (N := 9) ?hd (xs := ([] : List S50)) (inner := []) (ok := fun _ => True) (okp := fun _ => True) ?hr ?hp (fun _ hk => hk) trivial (Below.refl _ _) (Nat.le_refl _) (by simp) ?_; (case hd => rfl); (case hg => rfl); (case hr => first | (go_simp; done) | (go_simp; rfl)); (case hp => exact (Reps.none _ _)); intro v1 w1 ho1 hb1 hg_ hnew_; clear hg_ hnew_; have HO1 := az ho1; have HR1 := az (HI.out.below hb1); have HC1 := az (Kd.C_below HC.out hb1); clear ho1 hb1)
  | ((with_reducible refine gate_builtin (b := .append) (xs := #[.tmp 9, .tmp 10]) rfl ?_); at_builtin; go_must (refine Kd.R_append_rows k50 (w0 := w1) w.heap.size rfl (.tmp 9) (.tmp 10) 27 50 _ 32 rfl Tryz.underlying27 info50 rfl (by decide) (by omega) _ [] l1 A1 l1.length c1 (fun _ => True) (fun _ => False) rfl rfl HO1.out HC1.out (fun x cs h => by obtain rfl := k50_open h; exact k50_mkM _ _ _ x) (fun _ hk => hk.elim) (fun _ _ => trivial) (Below.refl _ _) HR1.out.2.2.2.2 ?aL ?_); (case aL => have := HL.out; simp; omega); intro v2 w2 ho2 hb2 hg2 hat2; have HO2 := az (show Kd.R k50 50 w2 w.heap.size (fun _ => True) v2 l1 from ho2); have HR2 := az (HR1.out.app HO1.out (by decide) hg2 hb2); obtain ⟨A2, c2, e2⟩ := Kd.R_slice HO2.out; subst e2; clear ho2 hb2 hg2 hat2))
 by_cases hz : l1.length = 0
 ·
  have bz : ((l1.length : Int) == 0) = true := by rw [hz]; rfl
  clear hz
  go_wp2_with ((with_reducible refine gate_dst (N := 18) rfl ?_); refine Kd.R_lit k50 w.heap.size 50 ?hg (N := 18) ?hd (xs := [(⟨0, a2 + 1, 10, 0⟩ : S50)]) (inner := [.int .i64 0, .int .i64 (a2 + 1), .int .i64 10, .int .i64 0]) (ok := fun _ => True) (okp := fun _ => True) ?hr ?hp (fun _ hk => hk) trivial (Below.refl _ _) HR2.out.2.2.2.2 (by simp) ?_; (case hd => rfl); (case hg => rfl); (case hr => first | (go_simp; done) | (go_simp; rfl)); (case hp => exact Reps.c4 (k50_mkM _ _ _ (⟨0, a2 + 1, 10, 0⟩ : S50)) (Reps.none _ _)); intro v3 w3 ho3 hb3 hg3 hnew_; have HO3 := az ho3; have HR3 := az (HR2.out.grown hg3); clear ho3 hb3 hg3 hnew_)
  go_ret
  exact ⟨_, _, p, Int.le_refl _, HP.out.2.2.2.1, by simp, rfl, HO3.out, HR3.out⟩
 ·
  have bz : ((l1.length : Int) == 0) = false := beq_eq_false_iff_ne.mpr (by omega)
  have hpos : 0 < l1.length := by omega
  obtain ⟨b, cap, he, hb1, _, _⟩ := Kd.R_form HO2.out hpos
  injection he with he1 he2 he3
  subst he1
  subst he3
  have HB1 := az hb1
  have HLP := az (show (1 : Int) ≤ (l1.length : Int) ∧ (l1.length : Int) ≤ 1000000 from (zD HL.out))
  clear hz hb1 he2 hpos
  go_upto_if 35 with (first
   | (go_at_call 47; with_reducible refine (pickR (w0 := w0) (w := w) (l1.length : Int) HS.out HP.out.1.1 HP.out.1.2 HLP.out.1 HLP.out.2 HR2.out).mono ?_; rintro e w3 ⟨v3, hv0, hv1, rfl, hr, hr2⟩; have HR3 := az hr; have HO3 := az (HR2.out.row hr2 HO2.out (by decide)); obtain ⟨k, hk⟩ : ∃ k : Nat, v3 = (k : Int) := ⟨v3.toNat, by omega⟩; subst hk; have HK := az (show k < l1.length by omega); have hkz : (k : Int) < (l1.length : Int) := hv1; clear hr hr2 hv0 hv1)
   | (go_at_call 47; go_must (refine (pickR (w0 := w0) (w := w) 6 HS.out HP.out.2.1.1 HP.out.2.1.2 (by decide) (by decide) HR3.out).mono ?_); rintro e w4 ⟨v4, hv0, hv1, rfl, hr, hr2⟩; have HR4 := az hr; have HO4 := az (HR3.out.row hr2 HO3.out (by decide)); have HV := az (lt_cases6 hv0 hv1); obtain ⟨y0, y1, y2, y3, ⟨c0, c1, c2, c3⟩, f0, f1, f2, f3⟩ := spanCells HO4.out k HK.out; clear hr hr2 hv0 hv1))
  have hv := HV.out
  clear HV
  rcases hv with rfl | rfl | rfl | rfl | rfl | rfl
  ·
   clear f0 f1 f2 f3
   go_wp2_with (go_at_call 73; go_must (refine (oneLit _ _ _ HS.out HP.out.2.2.1.1 HP.out.2.2.1.2 HR4.out ?hg ?ha ?hn (by decide)).mono ?_); (case hg => rfl); (case ha => rfl); (case hn => rfl); rintro e w5 ⟨x, rfl, hr5, hr6⟩; have HR5 := az hr5; have HO5 := az (HR4.out.row hr6 HO4.out (by decide)); obtain ⟨z0, z1, z2, z3, ⟨d0, d1, d2, d3⟩, g0, g1, g2, g3⟩ := spanCells HO5.out k HK.out; clear hr5 hr6)
   go_ret
   obtain ⟨⟨xs', hx1, hx2⟩, hx3⟩ := (spanSet HO5.out k HK.out 0 (by decide)).2.2 x
   exact ⟨_, xs', p + 1 + 1 + 1, HP.out.2.2.2.2.2.1, HP.out.2.2.2.2.2.2, zD HL.out, rfl, hx2, HR5.out.app HO5.out (by decide) hx3 ((Below.refl _ _).setCell (p := ⟨b, k * 4 + 0, none⟩) HB1.out _)⟩
  ·
   clear f0 f1 f2 f3
   go_wp2_with (go_at_call 73; go_must (refine (oneLit _ _ _ HS.out HP.out.2.2.1.1 HP.out.2.2.1.2 HR4.out ?hg ?ha ?hn (by decide)).mono ?_); (case hg => rfl); (case ha => rfl); (case hn => rfl); rintro e w5 ⟨x, rfl, hr5, hr6⟩; have HR5 := az hr5; have HO5 := az (HR4.out.row hr6 HO4.out (by decide)); obtain ⟨z0, z1, z2, z3, ⟨d0, d1, d2, d3⟩, g0, g1, g2, g3⟩ := spanCells HO5.out k HK.out; clear hr5 hr6)
   go_ret
   obtain ⟨⟨xs', hx1, hx2⟩, hx3⟩ := (spanSet HO5.out k HK.out 1 (by decide)).2.2 x
   exact ⟨_, xs', p + 1 + 1 + 1, HP.out.2.2.2.2.2.1, HP.out.2.2.2.2.2.2, zD HL.out, rfl, hx2, HR5.out.app HO5.out (by decide) hx3 ((Below.refl _ _).setCell (p := ⟨b, k * 4 + 1, none⟩) HB1.out _)⟩
  ·
   clear f0 f1 f2 f3
   go_wp2_with (go_at_call 73; go_must (refine (oneLit _ _ _ HS.out HP.out.2.2.1.1 HP.out.2.2.1.2 HR4.out ?hg ?ha ?hn (by decide)).mono ?_); (case hg => rfl); (case ha => rfl); (case hn => rfl); rintro e w5 ⟨x, rfl, hr5, hr6⟩; have HR5 := az hr5; have HO5 := az (HR4.out.row hr6 HO4.out (by decide)); obtain ⟨z0, z1, z2, z3, ⟨d0, d1, d2, d3⟩, g0, g1, g2, g3⟩ := spanCells HO5.out k HK.out; clear hr5 hr6)
   go_ret
   obtain ⟨⟨xs', hx1, hx2⟩, hx3⟩ := (spanSet HO5.out k HK.out 2 (by decide)).2.2 x
   exact ⟨_, xs', p + 1 + 1 + 1, HP.out.2.2.2.2.2.1, HP.out.2.2.2.2.2.2, zD HL.out, rfl, hx2, HR5.out.app HO5.out (by decide) hx3 ((Below.refl _ _).setCell (p := ⟨b, k * 4 + 2, none⟩) HB1.out _)⟩
  ·
   clear f0 f1 f2 f3
   go_wp2_with (go_at_call 73; go_must (refine (oneLit _ _ _ HS.out HP.out.2.2.1.1 HP.out.2.2.1.2 HR4.out ?hg ?ha ?hn (by decide)).mono ?_); (case hg => rfl); (case ha => rfl); (case hn => rfl); rintro e w5 ⟨x, rfl, hr5, hr6⟩; have HR5 := az hr5; have HO5 := az (HR4.out.row hr6 HO4.out (by decide)); obtain ⟨z0, z1, z2, z3, ⟨d0, d1, d2, d3⟩, g0, g1, g2, g3⟩ := spanCells HO5.out k HK.out; clear hr5 hr6)
   go_ret
   obtain ⟨⟨xs', hx1, hx2⟩, hx3⟩ := (spanSet HO5.out k HK.out 3 (by decide)).2.2 x
   exact ⟨_, xs', p + 1 + 1 + 1, HP.out.2.2.2.2.2.1, HP.out.2.2.2.2.2.2, zD HL.out, rfl, hx2, HR5.out.app HO5.out (by decide) hx3 ((Below.refl _ _).setCell (p := ⟨b, k * 4 + 3, none⟩) HB1.out _)⟩
  ·
   have HLB := HL
   go_wp2_with ((with_reducible refine gate_builtin (b := .append) (xs := #[.tmp 81, .tmp 86]) rfl ?_); at_builtin; go_must (refine Kd.R_append k50 (w0 := w4) w.heap.size rfl (.tmp 81) (.tmp 86) 27 50 _ 32 rfl Tryz.underlying27 info50 rfl (by decide) (by omega) _ l1 (⟨y0, y1, y2, y3⟩ : S50) [.int .i64 y0, .int .i64 y1, .int .i64 y2, .int .i64 y3] (fun _ => True) (fun _ => False) rfl rfl ?aP (fun _ hk => hk.elim) (fun _ _ => trivial) HO4.out (Below.refl _ _) HR4.out.2.2.2.2 ?aL ?_); (case aP => exact k50_mkM _ _ _ (⟨y0, y1, y2, y3⟩ : S50)); (case aL => have := HLB.out; omega); intro v9 w9 ho9 hb9 hg9 hat9; have HO9 := az ho9; have HR9 := az (RdI.app HR4.out HO4.out (by decide) hg9 hb9); clear ho9 hb9 hg9 hat9)
   go_ret
   exact ⟨_, _, p + 1 + 1, HP.out.2.2.2.2.1.1, HP.out.2.2.2.2.1.2, by have := HL.out; simp; omega, rfl, HO9.out, HR9.out⟩
  ·
   clear f0 f1 f2 f3
   go_wp2
   clear c0 c1 c2 c3 bz
   go_loopg [7] 14 (fun gg s7 wr => ∃ (xs : List S50), 13 - xs.length ≤ gg ∧ Aside0 (k < xs.length ∧ xs.length ≤ 13) ∧ Aside0 (Kd.R k50 50 wr w.heap.size (fun _ => True) s7 xs) ∧ Aside0 (RdI w0 w wr g bs (p + 1 + 1)))
   case atStart => exact ⟨l1, by omega, ⟨HK.out, zD HL.out⟩, HO4, HR4⟩
   case round =>
    obtain ⟨xs, hgg, HQ, HOx, HRx⟩ := hrel
    obtain ⟨b2, cap2, he, _, _, _⟩ := Kd.R_form HOx.out (zD HQ.out)
    subst he
    obtain ⟨y0, y1, y2, y3, ⟨c0, c1, c2, c3⟩, _⟩ := spanCells HOx.out k HQ.out.1
    by_cases hlt : xs.length ≤ 12
    ·
     have hltz : (xs.length : Int) ≤ 12 := by omega
     have hkz2 : (k : Int) < (xs.length : Int) := by have := HQ.out; omega
     have HLB := az hlt
     have HGG := az hgg
     clear hgg hlt
     go_wp2_with ((with_reducible refine gate_builtin (b := .append) (xs := #[.tmp 28, .tmp 33]) rfl ?_); at_builtin; go_must (refine Kd.R_append k50 (w0 := wr) w.heap.size rfl (.tmp 28) (.tmp 33) 27 50 _ 32 rfl Tryz.underlying27 info50 rfl (by decide) (by omega) _ xs (⟨y0, y1, y2, y3⟩ : S50) [.int .i64 y0, .int .i64 y1, .int .i64 y2, .int .i64 y3] (fun _ => True) (fun _ => False) rfl rfl ?aP (fun _ hk => hk.elim) (fun _ _ => trivial) HOx.out (Below.refl _ _) HRx.out.2.2.2.2 ?aL ?_); (case aP => exact k50_mkM _ _ _ (⟨y0, y1, y2, y3⟩ : S50)); (case aL => have := HLB.out; omega); intro v9 w9 ho9 hb9 hg9 hat9; have HO9 := az ho9; have HR9 := az (RdI.app HRx.out HOx.out (by decide) hg9 hb9); clear ho9 hb9 hg9 hat9)
     go_roundg (12 - xs.length)
     case measure => have := HGG.out; have := HLB.out; omega
     case rel => exact ⟨xs ++ [_], by simp only [List.length_append, List.length_cons, List.length_nil]; omega, ⟨by have := HQ.out; have := HLB.out; simp only [List.length_append, List.length_cons, List.length_nil]; omega⟩, HO9, HR9⟩
    ·
     have hltz : ¬ (xs.length : Int) ≤ 12 := by omega
     clear hgg
     go_wp2
     go_ret
     exact ⟨_, xs, p + 1 + 1, HP.out.2.2.2.2.1.1, HP.out.2.2.2.2.1.2, HQ.out.2, rfl, HOx.out, HRx.out⟩
theorem anyE {w0 w : World} {g : Nat} {bs : List Int} {p : Int} (a1 : Int) (ha0 : 0 ≤ a1) (ha1 : a1 ≤ 1000) (hs : DrS bs) (h0 : 0 ≤ p) (h1 : p ≤ 700000) (hI : IsS86 w0 w g bs p) (hB : Below w0.heap.size w0 w) :
  Calls Tryz.prog 45 #[.pointer (some ⟨g, 0, none⟩), .int .i64 a1] w fun e w' => ∃ (v : Value) (l : List S50) (p' : Int), p ≤ p' ∧ p' ≤ p + 200 ∧ l.length ≤ 13 ∧ e = .returned v ∧ Kd.R k50 50 w' w.heap.size (fun _ => True) v l ∧ RdI w0 w w' g bs p' := by
 have HS := az hs
 have HI := az (RdI.start hI hB)
 have HP := az (show 0 ≤ p ∧ p ≤ 700000 ∧ p ≤ 800000 by omega)
 have HA := az (And.intro ha0 ha1)
 clear hs hI hB h0 h1 ha0 ha1
 go_enter Tryz.func45, Tryz.ntmps45
 go_upto_if 11 with (first
  | (go_at_call 74; go_must (refine (spansE a1 HA.out.1 HA.out.2 HS.out HP.out.1 HP.out.2.2 HI.out.1 HI.out.2.1).mono ?_); rintro e w1 ⟨v1, l, q, hq1, hq2, hl, rfl, ho, hr⟩; have HO1 := az ho; have HR1 := az hr; have HQ := az (And.intro hq1 (And.intro hq2 hl)); have HQ2 := az (show 0 ≤ q ∧ q ≤ 1000000 ∧ 0 ≤ q + 1 ∧ q + 1 ≤ 900000 from (zD HP.out)); obtain ⟨A2, c2, e2⟩ := Kd.R_slice ho; subst e2; clear ho hr hq1 hq2 hl)
  | (go_at_call 47; go_must (refine (pickR (w0 := w0) (w := w) 12 HS.out HQ2.out.1 HQ2.out.2.1 (by decide) (by decide) HR1.out).mono ?_); rintro e w2 ⟨v2, _, _, rfl, hr, hr2⟩; have HR2 := az hr; have HO2 := az (HR1.out.row hr2 HO1.out (by decide)); clear hr hr2))
 by_cases hz : v2 = 0
 ·
  have bz : (v2 == 0) = true := beq_iff_eq.mpr hz
  clear hz
  go_wp2_with (go_at_call 75; go_must (refine (spoilE A2 c2 l a1 HA.out.1 HA.out.2 HQ.out.2.2 HS.out HQ2.out.2.2.1 HQ2.out.2.2.2 HR2.out.1 HR2.out.2.1 (Kd.R_reads' HO2.out).2.2).mono ?_); rintro e w3 ⟨v3, l3, q3, hq1, hq2, hl, rfl, ho, hr⟩; have HO3 := az (Kd.R_lower ho HR2.out.2.2.2.2); have HR3 := az (HR2.out.step hr); have HQ3 := az (And.intro hq1 (And.intro hq2 hl)); clear ho hr hq1 hq2 hl)
  go_ret
  exact ⟨_, l3, q3, zL HQ.out HQ3.out, zL HQ.out HQ3.out, HQ3.out.2.2, rfl, HO3.out, HR3.out⟩
 ·
  have bz : (v2 == 0) = false := beq_eq_false_iff_ne.mpr hz
  clear hz
  go_wp2
  go_ret
  exact ⟨_, l, q + 1, zD HQ.out, zD HQ.out, zD HQ.out, rfl, HO2.out, HR2.out⟩
theorem anyR {w0 w W : World} {g : Nat} {bs : List Int} {p : Int} (a1 : Int) (ha0 : 0 ≤ a1) (ha1 : a1 ≤ 1000) (hs : DrS bs) (h0 : 0 ≤ p) (h1 : p ≤ 700000) (h : RdI w0 w W g bs p) :
  Calls Tryz.prog 45 #[.pointer (some ⟨g, 0, none⟩), .int .i64 a1] W fun e w' => ∃ (v : Value) (l : List S50) (p' : Int), p ≤ p' ∧ p' ≤ p + 200 ∧ l.length ≤ 13 ∧ e = .returned v ∧ Kd.R k50 50 w' W.heap.size (fun _ => True) v l ∧ RdI w0 w w' g bs p' ∧ RdI w0 W w' g bs p' := by
 refine (anyE a1 ha0 ha1 hs h0 h1 h.1 h.2.1).mono ?_
 rintro e w' ⟨v, l, p', h2, h3, h4, h5, h6, h7⟩
 exact ⟨v, l, p', h2, h3, h4, h5, h6, h.step h7, h7⟩
abbrev wide16 : Array Value := #[.int .i64 0, .int .i64 0, .int .i64 0, .int .i64 1, .int .i64 1, .int .i64 1, .int .i64 2, .int .i64 2, .int .i64 3, .int .i64 4, .int .i64 5, .int .i64 6, .int .i64 7, .int .i64 0, .int .i64 1, .int .i64 0]
theorem wide16_at {n : Nat} (hn : n < 16) : ∃ y : Nat, y < 8 ∧ wide16[n]? = some (.int .i64 (y : Int)) := by
 have h : n = 0 ∨ n = 1 ∨ n = 2 ∨ n = 3 ∨ n = 4 ∨ n = 5 ∨ n = 6 ∨ n = 7 ∨ n = 8 ∨ n = 9 ∨ n = 10 ∨ n = 11 ∨ n = 12 ∨ n = 13 ∨ n = 14 ∨ n = 15 := by omega
 rcases h with rfl | rfl | rfl | rfl | rfl | rfl | rfl | rfl | rfl | rfl | rfl | rfl | rfl | rfl | rfl | rfl
 all_goals first | exact ⟨0, by decide, rfl⟩ | exact ⟨1, by decide, rfl⟩ | exact ⟨2, by decide, rfl⟩ | exact ⟨3, by decide, rfl⟩ | exact ⟨4, by decide, rfl⟩ | exact ⟨5, by decide, rfl⟩ | exact ⟨6, by decide, rfl⟩ | exact ⟨7, by decide, rfl⟩
theorem wide8_at (a b c d e f g h : Int) {n : Nat} (hn : n < 8) : ∃ y : Int, (#[.int .i64 a, .int .i64 b, .int .i64 c, .int .i64 d, .int .i64 e, .int .i64 f, .int .i64 g, .int .i64 h] : Array Value)[n]? = some (.int .i64 y) := by
 have hh : n = 0 ∨ n = 1 ∨ n = 2 ∨ n = 3 ∨ n = 4 ∨ n = 5 ∨ n = 6 ∨ n = 7 := by omega
 rcases hh with rfl | rfl | rfl | rfl | rfl | rfl | rfl | rfl
 all_goals exact ⟨_, rfl⟩
theorem wide_cells {w0 w W W' : World} {g : Nat} {bs : List Int} {p q : Int} {a b : Array Value} (h0 : RdI w0 w W g bs q) (h : RdI w0 ((W.alloc (.cells a 3)).alloc (.cells b 3)) W' g bs p) : (∀ i x, a[i]? = some x → W'.cell? ⟨W.heap.size, i, none⟩ = some x) ∧ ∀ i x, b[i]? = some x → W'.cell? ⟨W.heap.size + 1, i, none⟩ = some x := by
 have hlt := h0.1.lt
 have h2 := blk_new (W.alloc (.cells a 3)) (.cells b 3)
 rw [show (W.alloc (.cells a 3)).heap.size = W.heap.size + 1 by simp] at h2
 exact ⟨fun i x hx => (blk_cell (h.lit (blk_alloc (blk_new W _) _) (by omega)) i).trans hx, fun i x hx => (blk_cell (h.lit h2 (by omega)) i).trans hx⟩
theorem wideE {w0 w : World} {g : Nat} {bs : List Int} {p : Int} (hs : DrS bs) (h0 : 0 ≤ p) (h1 : p ≤ 900000) (hI : IsS86 w0 w g bs p) (hB : Below w0.heap.size w0 w) :
  Calls Tryz.prog 46 #[.pointer (some ⟨g, 0, none⟩)] w fun e w' => ∃ v p' : Int, p ≤ p' ∧ p' ≤ p + 4 ∧ e = .returned (.int .i64 v) ∧ RdI w0 w w' g bs p' := by
 have HS := az hs
 have HI := az (RdI.start hI hB)
 have HP := az (show (0 ≤ p ∧ p ≤ 1000000) ∧ (0 ≤ p + 1 ∧ p + 1 ≤ 1000000) ∧ (0 ≤ p + 1 + 1 ∧ p + 1 + 1 ≤ 1000000) ∧ (0 ≤ p + 1 + 1 + 1 ∧ p + 1 + 1 + 1 ≤ 1000000) ∧ p ≤ p + 1 + 1 + 1 + 1 ∧ p + 1 + 1 + 1 + 1 ≤ p + 4 by omega)
 clear hs hI hB h0 h1
 go_enter Tryz.func46, Tryz.ntmps46
 go_wp2_with (first
  | (go_at_call 47; with_reducible refine (pickR 1200 HS.out HP.out.1.1 HP.out.1.2 ?d1 ?d2 HI.out).mono ?_; (case d1 => decide); (case d2 => decide); rintro e w1 ⟨v1, _, _, rfl, hr, _⟩; have HR1 := az hr; clear hr)
  | (go_at_call 47; with_reducible refine (pickR 400 HS.out HP.out.2.1.1 HP.out.2.1.2 ?d1 ?d2 HR1.out).mono ?_; (case d1 => decide); (case d2 => decide); rintro e w2 ⟨v2, _, _, rfl, hr, _⟩; have HR2 := az hr; clear hr)
  | (go_at_call 47; with_reducible refine (pickR 300 HS.out HP.out.2.2.1.1 HP.out.2.2.1.2 ?d1 ?d2 HR2.out).mono ?_; (case d1 => decide); (case d2 => decide); rintro e w3 ⟨v3, _, _, rfl, hr, _⟩; have HR3 := az hr; clear hr))
 with_reducible refine (pickR 16 HS.out HP.out.2.2.2.1.1 HP.out.2.2.2.1.2 ?d1 ?d2 ((HR3.out.alloc _).alloc _)).mono ?_
 case d1 => decide
 case d2 => decide
 rintro e w4 ⟨v4, hv0, hv1, rfl, hr, hr2⟩
 have HR4 := az hr
 have hcc := wide_cells HR3.out hr2
 obtain ⟨n, hn⟩ : ∃ n : Nat, v4 = (n : Int) := ⟨v4.toNat, by omega⟩
 subst hn
 obtain ⟨y, hy1, hy2⟩ := wide16_at (n := n) (by omega)
 have hx1 := hcc.2 n _ hy2
 obtain ⟨z, hz⟩ := wide8_at (400 + v1) (500 + v2) 600 v3 20000 0 (-1) 20001 hy1
 have hx2 := hcc.1 y _ hz
 have hyz : (y : Int) < 8 := by omega
 clear hr hr2 hcc hz hy2 hy1
 go_wp2
 go_ret
 exact ⟨_, _, HP.out.2.2.2.2.1, HP.out.2.2.2.2.2, rfl, HR4.out⟩
theorem wideR {w0 w W : World} {g : Nat} {bs : List Int} {p : Int} (hs : DrS bs) (h0 : 0 ≤ p) (h1 : p ≤ 900000) (h : RdI w0 w W g bs p) :
  Calls Tryz.prog 46 #[.pointer (some ⟨g, 0, none⟩)] W fun e w' => ∃ v p' : Int, p ≤ p' ∧ p' ≤ p + 4 ∧ e = .returned (.int .i64 v) ∧ RdI w0 w w' g bs p' ∧ RdI w0 W w' g bs p' := by
 refine (wideE hs h0 h1 h.1 h.2.1).mono ?_
 rintro e w' ⟨v, p', h2, h3, h4, h5⟩
 exact ⟨v, p', h2, h3, h4, h.step h5, h5⟩
theorem open_f {l0 : List Int} (hb : ∀ x ∈ l0, 0 ≤ x ∧ x ≤ 255) : ∃ r, spec_l1Open.f l0 = some (r, 0) ∧ DrS r := by
 unfold spec_l1Open.f
 by_cases h : (l0.length : Int) > 2000
 ·
  rw [if_pos h, if_pos (by omega)]
  exact ⟨_, rfl, by rw [List.length_take]; omega, fun x hx => hb x (List.mem_of_mem_take hx)⟩
 ·
  rw [if_neg h]
  exact ⟨_, rfl, by omega, hb⟩
theorem results_tmp4 {fn : Func} {t u v x : Tmp} (h : fn.results = #[.tmp t, .tmp u, .tmp v, .tmp x]) (tmps : Array Value) (P : Program) (w : World) :
  (results fn tmps).run P w = .ok (.tuple #[tmps.getD t undef, tmps.getD u undef, tmps.getD v undef, tmps.getD x undef]) w := by
 simp [results, h]
def spec_l5Words.l0 : Nat → List Int → List Int → Int → Option (List Int)
 | 0, _, _, _ => none
 | k + 1, x0, x3, x4 => if x4 < (x0.length : Int) then (if 0 ≤ x4 then (if (rd x0 x4) = 0 then (spec_l5Words.l0 k x0 x3 (wrap64 (x4 + 1))) else (if x3.length < 17592186044416 then (spec_l5Words.l0 k x0 (x3 ++ [wrap64 (x4 + 1)]) (wrap64 (x4 + 1))) else (none))) else (none)) else (some x3)
def spec_l5Words.f (k : Nat) (l0 : List Int) : Option (List Int) := spec_l5Words.l0 k l0 (([] : List Int)) 0
theorem spec_l5Words.mono_l : ∀ k, (∀ y0 y1 y2, LeO (spec_l5Words.l0 k y0 y1 y2) (spec_l5Words.l0 (k + 1) y0 y1 y2))
 | 0 => fun _ _ _ r h => by simp [spec_l5Words.l0] at h
 | k + 1 => by
  have ih0 := spec_l5Words.mono_l k
  ·
   intro y0 y1 y2; unfold spec_l5Words.l0
   repeat' first
   | (with_reducible exact ih0 _ _ _)
   | (with_reducible exact LeO.refl _)
   | (with_reducible exact LeO.none _)
   | (with_reducible refine LeO.ite ?_ ?_)
   | (with_reducible refine LeO.bind ?_ (fun _ => ?_))
   | exact ih0 _ _ _
   | exact LeO.none _
   | refine LeO.ite ?_ ?_
   | refine LeO.bind ?_ (fun _ => ?_)
theorem spec_l5Words.mono : ∀ a0 k, LeO (spec_l5Words.f k a0) (spec_l5Words.f (k + 1) a0) := by
 intro a0 k; have ih0 := spec_l5Words.mono_l k; unfold spec_l5Words.f
 repeat' first
   | (with_reducible exact ih0 _ _ _)
   | (with_reducible exact LeO.refl _)
   | (with_reducible exact LeO.none _)
   | (with_reducible refine LeO.ite ?_ ?_)
   | (with_reducible refine LeO.bind ?_ (fun _ => ?_))
   | exact ih0 _ _ _
   | exact LeO.none _
   | refine LeO.ite ?_ ?_
   | refine LeO.bind ?_ (fun _ => ?_)
theorem spec_l5Words.calls (k : Nat) (A0 : Option Addr) (c0 : Nat) (l0 : List Int) (r : List Int) (w : World) (hr0 : Kd.C (Kd.int .i64) w A0 l0.length l0) (hc0 : l0.length ≤ c0) (h : spec_l5Words.f k l0 = some r) :
  Calls Tryz.prog 93 #[.slice A0 l0.length c0] w fun e w' => ∃ v0_ : Value, e = .returned (v0_) ∧ Kd.R (Kd.int .i64) 3 w' w.heap.size (fun _ => True) v0_ r ∧ Below w.heap.size w w' := by
 have HR0 := az hr0; have HC0 := az hc0; clear hr0 hc0; have HB := az (Below.refl w.heap.size w); have H : (spec_l5Words.l0 k l0 (([] : List Int)) 0) = some r := h; clear h; obtain ⟨y506, hy506⟩ : ∃ y_ : List Int, y_ = (([] : List Int)) := ⟨_, rfl⟩; replace H : (spec_l5Words.l0 k l0 y506 0) = some r := by first | (rw [hy506]; with_reducible exact H) | (have H2_ := (Option.bind_some _ _).symm.trans H; rw [hy506]; with_reducible exact H2_) | (have H2_ := (Option.bind_some _ _).symm.trans H; with_reducible exact H2_) | with_reducible exact H | (rw [hy506]; exact H) | exact H
 have Ny506 := az hy506; clear hy506; have H' := az H; clear H; go_enter Tryz.func93, Tryz.ntmps93; go_wp2_with (first | ((with_reducible refine gate_dst (N := 5) rfl ?_); refine Kd.R_lit (Kd.int .i64) _ 3 ?hg (N := 5) ?hd (xs := ([] : List Int)) (inner := []) (ok := fun _ => True) (okp := fun _ => True) ?hr ?hp (fun _ hk => hk) trivial (Below.refl _ _) (Nat.le_refl _) (by simp) ?_; (case hd => rfl); (case hg => rfl); (case hr => first | (go_simp; done) | (go_simp; rfl)); (case hp => exact (Reps.none _ _)); intro v507 w2 ho3 hb hg_ hnew_; clear hg_ hnew_; (first | rw [← Ny506.out] at ho3 | (simp only [Int.reduceToNat] at ho3; rw [← Ny506.out] at ho3)); have n0_ := az (Kd.R_lower ho3 (below_size (zA HB.out))); have n1_ := az (below_step (zA HB.out) hb); clear HB; have HO508 := n0_; have HB := n1_; clear n0_ n1_; clear hb ho3)); go_loopg [3, 4] k (fun kq v3 v4 w' => ∃ (x3_1 : List Int) (x4_1 : Int), v4 = .int .i64 x4_1 ∧ Aside0 (spec_l5Words.l0 kq l0 x3_1 x4_1 = some r) ∧ Aside0 (kq ≤ k) ∧ Aside0 (Kd.R (Kd.int .i64) 3 w' w.heap.size (fun _ => True) v3 x3_1) ∧ Aside0 (Below w.heap.size w w'))
 case atStart => exact ⟨(y506), (0), zB, H', ⟨Nat.le_refl _⟩, ⟨zF HO508.out⟩, ⟨zA HB.out⟩⟩
 case round =>
  clear H'; (try clear p2); obtain ⟨x3_1, x4_1, rfl, HA, HK1, HO_3, HB⟩ := hrel
  cases gk with
  | zero => exact absurd HA.out (by simp [spec_l5Words.l0])
  | succ k1 =>
   have H := HA.out; clear HA; simp only [spec_l5Words.l0] at H; by_cases c4 : x4_1 < (l0.length : Int)
   ·
    rw [if_pos c4] at H; have c4b0 : decide (x4_1 < (l0.length : Int)) = true := decide_eq_true c4; clear c4; by_cases c5 : 0 ≤ x4_1
    ·
     rw [if_pos c5] at H; have c5b0 : decide (0 ≤ x4_1) = true := decide_eq_true c5; clear c5; by_cases c6 : (rd l0 x4_1) = 0
     ·
      rw [if_pos c6] at H; have c6b0 : ((rd l0 x4_1) == 0) = true := beq_iff_eq.mpr c6; have c6b1 : ((rd l0 x4_1) != 0) = false := bne_eq_false_iff_eq.mpr c6; clear c6; have H' := az H; clear H; have p509 : 0 ≤ (x4_1 : Int) := of_decide_eq_true (by assumption); have q509 : x4_1 < (l0.length : Int) := of_decide_eq_true (by assumption); obtain ⟨ad509, e509, hx509_0⟩ := Kd.at_int HR0.out x4_1 p509 q509
      cases e509
      replace hx509_0 := (HB.out.cell (World.block_lt_of_cell? w _ hx509_0)).trans hx509_0; replace p509 := eq_true p509; replace q509 := eq_true q509; go_wp2; go_roundg k1
      case measure => have := HK1.out; omega
      case rel => exact ⟨(x3_1), (wrap64 (x4_1 + 1)), zB, H', ⟨zD HK1.out⟩, ⟨zF HO_3.out⟩, ⟨zA HB.out⟩⟩
     ·
      rw [if_neg c6] at H; have c6b0 : ((rd l0 x4_1) == 0) = false := beq_eq_false_iff_ne.mpr c6; have c6b1 : ((rd l0 x4_1) != 0) = true := bne_iff_ne.mpr c6; by_cases c7 : x3_1.length < 17592186044416
      ·
       rw [if_pos c7] at H; have LMc7 := az c7; clear c7; obtain ⟨y510, hy510⟩ : ∃ y_ : List Int, y_ = (x3_1 ++ [wrap64 (x4_1 + 1)]) := ⟨_, rfl⟩; replace H : (spec_l5Words.l0 k1 l0 y510 (wrap64 (x4_1 + 1))) = some r := by first | (rw [hy510]; with_reducible exact H) | (have H2_ := (Option.bind_some _ _).symm.trans H; rw [hy510]; with_reducible exact H2_) | (have H2_ := (Option.bind_some _ _).symm.trans H; with_reducible exact H2_) | with_reducible exact H | (rw [hy510]; exact H) | exact H
       have Ny510 := az hy510; clear hy510; have H' := az H; clear H; have p509 : 0 ≤ (x4_1 : Int) := of_decide_eq_true (by assumption); have q509 : x4_1 < (l0.length : Int) := of_decide_eq_true (by assumption); obtain ⟨ad509, e509, hx509_0⟩ := Kd.at_int HR0.out x4_1 p509 q509
       cases e509
       replace hx509_0 := (HB.out.cell (World.block_lt_of_cell? w _ hx509_0)).trans hx509_0; replace p509 := eq_true p509; replace q509 := eq_true q509; go_wp2_with (first | ((with_reducible refine gate_builtin (b := .append) (xs := #[.tmp 17, .tmp 20]) rfl ?_); at_builtin; refine Kd.R_append (Kd.int .i64) (w0 := w) w.heap.size rfl (.tmp 17) (.tmp 20) 22 3 (.int .i64 0) 8 rfl Tryz.underlying22 info3 rfl (by decide) (by omega) u3 x3_1 (wrap64 (x4_1 + 1)) [.int .i64 (wrap64 (x4_1 + 1))] (fun _ => True) (fun _ => False) rfl rfl ?aP (fun _ hk => hk.elim) ?aF ?aO ?aB ?aS ?aL ?_; (case aP => exact rfl); (case aB => exact (zA HB.out)); (case aF => exact (fun _ _ => trivial)); (case aO => exact (zF HO_3.out)); (case aS => exact (below_size (zA HB.out))); (case aL => have := LMc7.out; omega); intro v511 w8 ho hb hg hat; rw [← Ny510.out] at ho; have n0_ := az (hb); have n1_ := az (ho); clear HB; clear HO_3; have HB := n0_; have HO512 := n1_; clear n0_ n1_; clear ho hb hg hat)); go_roundg k1
       case measure => have := HK1.out; omega
       case rel => exact ⟨(y510), (wrap64 (x4_1 + 1)), zB, H', ⟨zD HK1.out⟩, ⟨zF HO512.out⟩, ⟨zA HB.out⟩⟩
      ·
       rw [if_neg c7] at H; exact absurd H (by simp)
    ·
     rw [if_neg c5] at H; exact absurd H (by simp)
   ·
    rw [if_neg c4] at H; have c4b0 : decide (x4_1 < (l0.length : Int)) = false := decide_eq_false c4; clear c4; obtain rfl := Option.some.inj H; go_wp2; go_ret; exact ⟨_, zG, zF HO_3.out, zA HB.out⟩
def spec_BreaksOf.f (k : Nat) (l0 : List Int) : Option (List Int) := (spec_l1Ok.f k l0).bind fun t513 => (if t513 = true then ((spec_l5Breaks.f k l0).bind fun t514 => (some t514)) else (some (([] : List Int))))
theorem spec_BreaksOf.mono : ∀ a0 k, LeO (spec_BreaksOf.f k a0) (spec_BreaksOf.f (k + 1) a0) := by
 intro a0 k; unfold spec_BreaksOf.f
 repeat' first
   | (with_reducible exact spec_l1Ok.mono _ _)
   | (with_reducible exact spec_l5Breaks.mono _ _)
   | (with_reducible exact LeO.refl _)
   | (with_reducible exact LeO.none _)
   | (with_reducible refine LeO.ite ?_ ?_)
   | (with_reducible refine LeO.bind ?_ (fun _ => ?_))
   | exact spec_l1Ok.mono _ _
   | exact spec_l5Breaks.mono _ _
   | exact LeO.none _
   | refine LeO.ite ?_ ?_
   | refine LeO.bind ?_ (fun _ => ?_)
theorem spec_BreaksOf.calls (k : Nat) (A0 : Option Addr) (c0 : Nat) (l0 : List Int) (r : List Int) (w : World) (hr0 : Kd.C (Kd.int .i64) w A0 l0.length l0) (hc0 : l0.length ≤ c0) (h : spec_BreaksOf.f k l0 = some r) :
  Calls Tryz.prog 94 #[.slice A0 l0.length c0] w fun e w' => ∃ v0_ : Value, e = .returned (v0_) ∧ Kd.R (Kd.int .i64) 3 w' w.heap.size (fun _ => True) v0_ r ∧ Below w.heap.size w w' := by
 have HR0 := az hr0; have HC0 := az hc0; clear hr0 hc0; have HB := az (Below.refl w.heap.size w); have H : ((spec_l1Ok.f k l0).bind fun t513 => (if t513 = true then ((spec_l5Breaks.f k l0).bind fun t514 => (some t514)) else (some (([] : List Int))))) = some r := h; clear h; replace H := Option.bind_eq_some_iff.mp H; obtain ⟨t513, A20, H⟩ := H; replace H : (if t513 = true then ((spec_l5Breaks.f k l0).bind fun t514 => (some t514)) else (some (([] : List Int)))) = some r := H; have A2 := az A20; clear A20; by_cases c3 : t513 = true
 ·
  subst c3; have H1 : ((spec_l5Breaks.f k l0).bind fun t514 => (some t514)) = some r := by rw [if_pos rfl] at H; exact H
  clear H; have H := H1; clear H1; replace H := Option.bind_eq_some_iff.mp H; obtain ⟨t514, A40, H⟩ := H; replace H : (some t514) = some r := H; have A4 := az A40; clear A40; obtain rfl := Option.some.inj H; go_enter Tryz.func94, Tryz.ntmps94; go_wp2_with (first | ((with_reducible refine gate_callee (f := 68) rfl ?_); refine goesL_ (some 4) rfl rfl Tryz.func68 (by kernel_rfl) rfl #[.slice A0 l0.length c0] rfl zC ?_; (with_reducible refine (spec_l1Ok.calls k _ _ l0 true _ ?side1 ?side2 A2.out).mono ?_); (case side1 => exact (zO HR0.out)); (case side2 => exact HC0.out); rintro e w' ⟨rfl, ⟨nd, rfl⟩⟩; refine ⟨_, rfl, ?_⟩) | ((with_reducible refine gate_callee (f := 91) rfl ?_); refine goesL_ (some 8) rfl rfl Tryz.func91 (by kernel_rfl) rfl #[.slice A0 l0.length c0] rfl zC ?_; (with_reducible refine (spec_l5Breaks.calls k _ _ l0 t514 _ ?side1 ?side2 A4.out).mono ?_); (case side1 => exact (zO HR0.out)); (case side2 => exact HC0.out); rintro e w5 ⟨v515, rfl, ho0, hb⟩; refine ⟨_, rfl, ?_⟩; have n0_ := az (Kd.R_lower ho0 (below_size (zA HB.out))); have n1_ := az (below_step (zA HB.out) hb); clear HB; have HO516 := n0_; have HB := n1_; clear n0_ n1_; (try clear hb); (try clear hb2); (try clear hk); (try clear hi); (try clear ho0))); go_ret; exact ⟨_, zG, zF HO516.out, zA HB.out⟩
 ·
  replace c3 := Bool.eq_false_iff.mpr c3; subst c3; have H1 : (some (([] : List Int))) = some r := by rw [if_neg (show ¬ (false = true) by decide)] at H; exact H
  clear H; have H := H1; clear H1; obtain ⟨y517, hy517⟩ : ∃ y_ : List Int, y_ = (([] : List Int)) := ⟨_, rfl⟩; replace H : (some y517) = some r := by first | (rw [hy517]; with_reducible exact H) | (have H2_ := (Option.bind_some _ _).symm.trans H; rw [hy517]; with_reducible exact H2_) | (have H2_ := (Option.bind_some _ _).symm.trans H; with_reducible exact H2_) | with_reducible exact H | (rw [hy517]; exact H) | exact H
  have Ny517 := az hy517; clear hy517; obtain rfl := Option.some.inj H; go_enter Tryz.func94, Tryz.ntmps94; go_wp2_with (first | ((with_reducible refine gate_callee (f := 68) rfl ?_); refine goesL_ (some 4) rfl rfl Tryz.func68 (by kernel_rfl) rfl #[.slice A0 l0.length c0] rfl zC ?_; (with_reducible refine (spec_l1Ok.calls k _ _ l0 false _ ?side1 ?side2 A2.out).mono ?_); (case side1 => exact (zO HR0.out)); (case side2 => exact HC0.out); rintro e w' ⟨rfl, ⟨nd, rfl⟩⟩; refine ⟨_, rfl, ?_⟩) | ((with_reducible refine gate_dst (N := 6) rfl ?_); refine Kd.R_lit (Kd.int .i64) _ 3 ?hg (N := 6) ?hd (xs := ([] : List Int)) (inner := []) (ok := fun _ => True) (okp := fun _ => True) ?hr ?hp (fun _ hk => hk) trivial (Below.refl _ _) (Nat.le_refl _) (by simp) ?_; (case hd => rfl); (case hg => rfl); (case hr => first | (go_simp; done) | (go_simp; rfl)); (case hp => exact (Reps.none _ _)); intro v518 w6 ho7 hb hg_ hnew_; clear hg_ hnew_; (first | rw [← Ny517.out] at ho7 | (simp only [Int.reduceToNat] at ho7; rw [← Ny517.out] at ho7)); have n0_ := az (Kd.R_lower ho7 (below_size (zA HB.out))); have n1_ := az (below_step (zA HB.out) hb); clear HB; have HO519 := n0_; have HB := n1_; clear n0_ n1_; clear hb ho7)); go_ret; exact ⟨_, zG, zF HO519.out, zA HB.out⟩
def spec_WordsOf.f (k : Nat) (l0 : List Int) : Option (List Int) := (spec_BreaksOf.f k l0).bind fun t520 => ((spec_l5Words.f k t520).bind fun t523 => (some t523))
theorem spec_WordsOf.mono : ∀ a0 k, LeO (spec_WordsOf.f k a0) (spec_WordsOf.f (k + 1) a0) := by
 intro a0 k; unfold spec_WordsOf.f
 repeat' first
   | (with_reducible exact spec_BreaksOf.mono _ _)
   | (with_reducible exact spec_l5Words.mono _ _)
   | (with_reducible exact LeO.refl _)
   | (with_reducible exact LeO.none _)
   | (with_reducible refine LeO.ite ?_ ?_)
   | (with_reducible refine LeO.bind ?_ (fun _ => ?_))
   | exact spec_BreaksOf.mono _ _
   | exact spec_l5Words.mono _ _
   | exact LeO.none _
   | refine LeO.ite ?_ ?_
   | refine LeO.bind ?_ (fun _ => ?_)
theorem spec_WordsOf.calls (k : Nat) (A0 : Option Addr) (c0 : Nat) (l0 : List Int) (r : List Int) (w : World) (hr0 : Kd.C (Kd.int .i64) w A0 l0.length l0) (hc0 : l0.length ≤ c0) (h : spec_WordsOf.f k l0 = some r) :
  Calls Tryz.prog 66 #[.slice A0 l0.length c0] w fun e w' => ∃ v0_ : Value, e = .returned (v0_) ∧ Kd.R (Kd.int .i64) 3 w' w.heap.size (fun _ => True) v0_ r ∧ Below w.heap.size w w' := by
 have HR0 := az hr0; have HC0 := az hc0; clear hr0 hc0; have HB := az (Below.refl w.heap.size w); have H : ((spec_BreaksOf.f k l0).bind fun t520 => ((spec_l5Words.f k t520).bind fun t523 => (some t523))) = some r := h; clear h; replace H := Option.bind_eq_some_iff.mp H; obtain ⟨t520, A20, H⟩ := H; replace H : ((spec_l5Words.f k t520).bind fun t523 => (some t523)) = some r := H; have A2 := az A20; clear A20; replace H := Option.bind_eq_some_iff.mp H; obtain ⟨t523, A30, H⟩ := H; replace H : (some t523) = some r := H; have A3 := az A30; clear A30; obtain rfl := Option.some.inj H; go_enter Tryz.func66, Tryz.ntmps66; go_wp2_with (first | ((with_reducible refine gate_callee (f := 94) rfl ?_); refine goesL_ (some 4) rfl rfl Tryz.func94 (by kernel_rfl) rfl #[.slice A0 l0.length c0] rfl zC ?_; (with_reducible refine (spec_BreaksOf.calls k _ _ l0 t520 _ ?side1 ?side2 A2.out).mono ?_); (case side1 => exact (zO HR0.out)); (case side2 => exact HC0.out); rintro e w4 ⟨v521, rfl, ho0, hb⟩; refine ⟨_, rfl, ?_⟩; have n0_ := az (Kd.R_lower ho0 (below_size (zA HB.out))); have n1_ := az (below_step (zA HB.out) hb); clear HB; have HO522 := n0_; have HB := n1_; clear n0_ n1_; (try clear hb); (try clear hb2); (try clear hk); (try clear hi); (try clear ho0); obtain ⟨Ao5, co5, eo5⟩ := Kd.R_slice HO522.out; subst eo5) | ((with_reducible refine gate_callee (f := 93) rfl ?_); refine goesL_ (some 5) rfl rfl Tryz.func93 (by kernel_rfl) rfl #[.slice Ao5 t520.length co5] rfl zC ?_; (with_reducible refine (spec_l5Words.calls k _ _ t520 t523 _ ?side1 ?side2 A3.out).mono ?_); (case side1 => exact (zR HO522.out)); (case side2 => exact (Kd.R_reads' HO522.out).2.1); rintro e w6 ⟨v524, rfl, ho0, hb⟩; refine ⟨_, rfl, ?_⟩; have n0_ := az (Kd.R_elder' (zF HO522.out) (Kd.R_base ho0) hb); have n1_ := az (Kd.R_lower (Kd.R_new' ho0 (Kd.R_lt (zF HO522.out))) (below_size (zA HB.out))); have n2_ := az (below_step (zA HB.out) hb); clear HO522; clear HB; have HO522 := n0_; have HO525 := n1_; have HB := n2_; clear n0_ n1_ n2_; (try clear hb); (try clear hb2); (try clear hk); (try clear hi); (try clear ho0))); go_ret; exact ⟨_, zG, zY HO525.out, zA HB.out⟩
end Go.Proofs.YtmcdcogedcbndaaGreat.S
/- Where words end, by the reference. -/
namespace Go.Proofs.YtmcdcogedcbndaaGreat.Pure
open Go.RowKit Go.Proofs.YtmcdcogedcbndaaGreat.S Go.Proofs.YtmcdcogedcbndaaGreatW.PrintWords Go.Proofs.YtmcdcogedcbndaaGreatW.PrintLast
def wordsL : List Int → Nat → List Int
 | [], _ => []
 | b :: r, i => if b = 0 then wordsL r (i + 1) else ((i + 1 : Nat) : Int) :: wordsL r (i + 1)
theorem wordsL_len : ∀ (l : List Int) (i : Nat), (wordsL l i).length ≤ l.length
 | [], _ => Nat.le_refl _
 | b :: r, i => by
  have := wordsL_len r (i + 1)
  rw [wordsL]
  split
  · rw [List.length_cons]; omega
  · rw [List.length_cons, List.length_cons]; omega
theorem wordsS_l (bs : List Int) (hn : bs.length ≤ 1000) : ∀ (d k i : Nat) (a : List Int), bs.length - i = d → i ≤ bs.length → d < k → a.length ≤ i → spec_l5Words.l0 k bs a (i : Int) = some (a ++ wordsL (bs.drop i) i)
 | 0, k, i, a, hd, hi, hk, ha => by
  obtain ⟨k, rfl⟩ : ∃ m, k = m + 1 := ⟨k - 1, by omega⟩
  rw [spec_l5Words.l0, if_neg (by omega), List.drop_eq_nil_of_le (by omega), wordsL, List.append_nil]
 | d + 1, k, i, a, hd, hi, hk, ha => by
  obtain ⟨k, rfl⟩ : ∃ m, k = m + 1 := ⟨k - 1, by omega⟩
  have hlt : i < bs.length := by omega
  have w1 : wrap64 ((i : Int) + 1) = ((i + 1 : Nat) : Int) := by rw [w64 (by omega) (by omega)]; omega
  rw [spec_l5Words.l0, if_pos (by omega), if_pos (by omega), List.drop_eq_getElem_cons hlt, wordsL, rd_get hlt, w1]
  by_cases h : bs[i] = 0
  ·
   rw [if_pos h, if_pos h]
   exact wordsS_l bs hn d k (i + 1) a (by omega) (by omega) (by omega) (by omega)
  ·
   rw [if_neg h, if_neg h, if_pos (by omega), wordsS_l bs hn d k (i + 1) (a ++ [((i + 1 : Nat) : Int)]) (by omega) (by omega) (by omega) (by simp; omega), List.append_assoc]
   rfl
theorem wordsS_p {rs : List Int} {k : Nat} (hn : rs.length ≤ 1000) (hk : 5000 ≤ k) : ∃ ws, spec_WordsOf.f k rs = some ws ∧ ws.length ≤ 200 := by
 unfold spec_WordsOf.f spec_BreaksOf.f
 rw [ok_p (by omega) (by omega), Option.bind_some]
 cases ho : okV rs
 ·
  rw [if_neg (by decide), Option.bind_some]
  unfold spec_l5Words.f
  have := wordsS_l [] (by simp) 0 k 0 [] rfl (by simp) (by omega) (by simp)
  rw [show ((0 : Nat) : Int) = 0 from rfl] at this
  rw [this]
  exact ⟨_, rfl, by simp [wordsL]⟩
 ·
  have h1 := ok_len ho
  rw [if_pos rfl, breaksS_p h1 (by omega), Option.bind_some, Option.bind_some]
  unfold spec_l5Words.f
  have := wordsS_l (bsV rs) (by rw [bsV_len]; omega) (bsV rs).length k 0 [] (by omega) (by omega) (by rw [bsV_len]; omega) (by simp)
  rw [show ((0 : Nat) : Int) = 0 from rfl] at this
  rw [this]
  refine ⟨_, rfl, ?_⟩
  have := wordsL_len ((bsV rs).drop 0) 0
  rw [List.drop_zero, bsV_len] at this
  rw [List.nil_append, List.drop_zero]
  omega
end Go.Proofs.YtmcdcogedcbndaaGreat.Pure
namespace Go.Proofs.YtmcdcogedcbndaaGreat.S
open Go.RowKit Go.Proofs.YtmcdcogedcbndaaGreatW.PrintWords Go.Proofs.YtmcdcogedcbndaaGreatW.PrintLast
set_option linter.unusedVariables false
set_option linter.unusedSimpArgs false
theorem wsKeep {W W' : World} {base a b : Nat} {v : Value} {xs : List Int} (h : Kd.R (Kd.int .i64) 3 W base (fun k => a ≤ k ∧ k < b) v xs) (hm : ∀ k, a ≤ k → k < b → W'.heap[k]? = W.heap[k]?) : Kd.R (Kd.int .i64) 3 W' base (fun k => a ≤ k ∧ k < b) v xs := Kd.R_move h (fun k hk => hm k hk.1 hk.2)
theorem wsCell {W : World} {base : Nat} {ok : Nat → Prop} {A : Option Addr} {n c : Nat} {xs : List Int} (h : Kd.R (Kd.int .i64) 3 W base ok (.slice A n c) xs) (i : Nat) (h1 : i < xs.length) : ∃ (ad : Addr) (y : Int), A = some ad ∧ W.cell? (ad.add i) = some (.int .i64 y) := by
 obtain ⟨A', c', e, _, hC⟩ := Kd.R_reads h
 injection e with e1 e2 e3
 subst e1
 obtain ⟨ad, he, hx⟩ := Kd.at_int hC (i : Int) (by omega) (by omega)
 rw [Int.toNat_natCast] at hx
 exact ⟨ad, _, he, hx⟩
theorem drawCostE {w : World} (A0 : Option Addr) (c0 : Nat) (l0 : List Int) (hb : ∀ x ∈ l0, 0 ≤ x ∧ x ≤ 255) (hC : Kd.C (Kd.int .u8) w A0 l0.length l0) (hc0 : l0.length ≤ c0) :
  Calls Tryz.prog 33 #[.slice A0 l0.length c0] w fun e w' => ∃ (v0 v1 v3 : Value) (l : List Int) (sp : List S50) (wd : Int) (es : List Int), l.length ≤ 200 ∧ sp.length ≤ 13 ∧ es.length ≤ 1000 ∧ e = .returned (.tuple #[v0, v1, .int .i64 wd, v3]) ∧ Kd.R (Kd.int .i64) 3 w' w.heap.size (fun _ => True) v0 l ∧ Kd.R k50 50 w' w.heap.size (fun _ => True) v1 sp ∧ Kd.R (Kd.int .i64) 3 w' w.heap.size (fun _ => True) v3 es ∧ Below w.heap.size w w' := by
 obtain ⟨bs, hf, hs⟩ := open_f hb
 have HF := az hf
 have HS := az hs
 have HC := az hC
 have HC0 := az hc0
 clear hb hC hc0 hf hs
 go_enter Tryz.func33, Tryz.ntmps33
 go_upto_if 25 with (first
  | (go_at_call 43; go_must (refine (spec_l1Open.calls A0 c0 l0 bs 0 w w (Below.refl _ _) HC.out HC0.out HF.out).mono ?_); rintro e w1 ⟨g, rfl, hi, hb1, _⟩; have HR1 := az (RdI.start hi hb1); clear hi hb1)
  | (go_at_call 44; go_must (refine (wordsE (w0 := w) (p := 0) HS.out (by decide) (by decide) HR1.out.1 HR1.out.2.1).mono ?_); rintro e w2 ⟨v2, l, q, hq1, hq2, hl, rfl, ho, hr⟩; have HR2 := az hr; have HO2 := az (Kd.R_lower ho HR1.out.2.1.size); have HQ := az (show (0 ≤ q ∧ q ≤ 700000) ∧ q ≤ 300 ∧ l.length ≤ 200 by omega); have HLN := az (show (0 : Int) ≤ (l.length : Int) ∧ (l.length : Int) ≤ 1000 by omega); obtain ⟨A2, c2, e2⟩ := Kd.R_slice ho; subst e2; clear ho hr hq1 hq2 hl)
  | (go_at_call 45; go_must (refine (anyR (w0 := w) (w := w1) (p := q) (l.length : Int) HLN.out.1 HLN.out.2 HS.out HQ.out.1.1 HQ.out.1.2 HR2.out).mono ?_); rintro e w3 ⟨v3, sp, q3, hq1, hq2, hsl, rfl, ho, hr0, hr⟩; have HR3 := az hr0; have HO3 := az (RdI.row (w := w1) (p := q) HR2.out hr HO2.out (by decide)); have HP3 := az (Kd.R_lower ho hr.2.2.2.1); have HQ3 := az (show (0 ≤ q3 ∧ q3 ≤ 900000) ∧ sp.length ≤ 13 ∧ q3 ≤ 1000 from (zD HQ.out)); obtain ⟨A3, c3, e3⟩ := Kd.R_slice ho; subst e3; clear ho hr hr0 hq1 hq2 hsl)
  | (go_at_call 46; go_must (refine (wideR (w0 := w) (w := w1) (p := q3) HS.out HQ3.out.1.1 HQ3.out.1.2 HR3.out).mono ?_); rintro e w4 ⟨wd, q4, hq1, hq2, rfl, hr0, hr⟩; have HR4 := az hr0; have HO4 := az (RdI.row (w := w1) (p := q3) HR3.out hr HO3.out (by decide)); have HP4 := az (RdI.row (w := w1) (p := q3) HR3.out hr HP3.out (by decide)); have HQ4 := az (show 0 ≤ q4 ∧ q4 ≤ 900000 ∧ q4 ≤ 1000000 ∧ 0 ≤ q4 + 1 ∧ q4 + 1 ≤ 1000000 ∧ q4 ≤ 2000 from (zD HQ3.out)); clear hr hr0 hq1 hq2)
  | (go_at_call 47; go_must (refine (pickR (w0 := w) (w := w1) (p := q4) 3 HS.out HQ4.out.1 HQ4.out.2.2.1 (by decide) (by decide) HR4.out).mono ?_); rintro e w5 ⟨v5, hv0, hv1, rfl, hr, hr2⟩; have HR5 := az hr; have HO5 := az (RdI.row (w := w1) (p := q4) HR4.out hr2 HO4.out (by decide)); have HP5 := az (RdI.row (w := w1) (p := q4) HR4.out hr2 HP4.out (by decide)); clear hr hr2 hv0 hv1))
 by_cases hz : 0 < v5
 ·
  have bz : decide (0 < v5) = true := decide_eq_true hz
  clear hz
  rw [bz]
  go_wp2_with (first
   | (go_at_call 47; go_must (refine (pickR (w0 := w) (w := w1) (p := q4 + 1) 2 HS.out HQ4.out.2.2.2.1 HQ4.out.2.2.2.2.1 (by decide) (by decide) HR5.out).mono ?_); rintro e w6 ⟨v6, hv0, hv1, rfl, hr, hr2⟩; have HR6 := az hr; have HO6 := az (RdI.row (w := w1) (p := q4 + 1) HR5.out hr2 HO5.out (by decide)); have HP6 := az (RdI.row (w := w1) (p := q4 + 1) HR5.out hr2 HP5.out (by decide)); obtain ⟨r, hl1, _, hl3, _⟩ := Pure.linesFull (rs := l) (sp := sp) (wide := wd) (mode := v6) (k := 6000) (zD HQ.out) (zD HQ3.out) (zL HQ.out HQ3.out); have HL1 := az hl1; have HL3 := az hl3; obtain ⟨A2', c2', ea, hc2, hC2⟩ := Kd.R_reads HO6.out; injection ea with ea1 ea2 ea3; subst ea1; subst ea3; obtain ⟨A3', c3', eb, hc3, hC3⟩ := Kd.R_reads HP6.out; injection eb with eb1 eb2 eb3; subst eb1; subst eb3; have HX6 := az (And.intro hC2 hc2); have HY6 := az (And.intro hC3 hc3); clear hr hr2 hv0 hv1 hl1 hl3 ea2 eb2 hc2 hC2 hc3 hC3)
   | (go_at_call 12; go_must (refine (spec_FillLines.calls 6000 A2 c2 l A3 c3 sp wd v6 r _ HX6.out.1 HX6.out.2 HY6.out.1 HY6.out.2 HL1.out).mono ?_); rintro e w7 ⟨v7, rfl, ho7, hb7⟩; have HB7 := az (below_then HR6.out.2.1 HR6.out.2.1.size hb7); have HE7 := az (Kd.R_lower ho7 HR6.out.2.1.size); have HO7 := az (Kd.R_below HO6.out hb7); have HP7 := az (Kd.R_below HP6.out hb7); clear ho7 hb7))
  refine bodyPost_ret (results_tmp4 rfl _ _ _) rfl ?_
  exact ⟨_, _, _, l, sp, wd, r, HQ.out.2.2, HQ3.out.2.1, HL3.out, rfl, HO7.out, HP7.out, HE7.out, HB7.out⟩
 ·
  have bz : decide (0 < v5) = false := decide_eq_false hz
  clear hz
  rw [bz]
  have HR9 := az (RdI.start HR5.out.1 HR5.out.2.1)
  go_wp2_with (first
   | ((with_reducible refine gate_dst (N := 35) rfl ?_); refine Kd.R_lit (Kd.int .i64) w5.heap.size 3 ?hg (N := 35) ?hd (xs := ([] : List Int)) (inner := []) (ok := fun _ => True) (okp := fun _ => True) ?hr ?hp (fun _ hk => hk) trivial (Below.refl _ _) (Nat.le_refl _) (by simp) ?_; (case hd => rfl); (case hg => rfl); (case hr => first | (go_simp; done) | (go_simp; rfl)); (case hp => exact (Reps.none _ _)); intro v1 w6 ho1 hb1 hg_ hnew_; clear hg_ hnew_; have HE6 := az ho1; have HR6 := az (HR9.out.below hb1); obtain ⟨A2', c2', ea, hc2, hC2⟩ := Kd.R_reads (Kd.R_below HO5.out hb1); injection ea with ea1 ea2 ea3; subst ea1; subst ea3; have HX6 := az (And.intro hC2 hc2); clear ho1 hb1 ea2 hc2 hC2)
   | (go_at_call 66; obtain ⟨ws, hw1, hw2⟩ := Pure.wordsS_p (rs := l) (k := 6000) (zD HQ.out) (by decide); go_must (refine (spec_WordsOf.calls 6000 A2 c2 l ws _ HX6.out.1 HX6.out.2 hw1).mono ?_); rintro e w7 ⟨v7, rfl, ho7, hb7⟩; obtain ⟨A7, c7, e7⟩ := Kd.R_slice ho7; subst e7; have HWL := az hw2; have hwz : ws.length ≤ 200 := hw2; have HE7 := az (Kd.R_below HE6.out hb7); have HR7 := az (HR6.out.below hb7); have HW7 := az (Kd.R_mono (Kd.R_bound ho7) (ok' := fun k => w6.heap.size ≤ k ∧ k < w7.heap.size) (fun k hk => ⟨hk.2.1, hk.2.2.1⟩)); have HF7 := az (show ∀ k, v1.ownBlock = some k → k < w6.heap.size ∨ w7.heap.size ≤ k from fun k hk => .inl (Kd.R_lt HE6.out k hk)); have HG := az (show g < w6.heap.size from HR6.out.1.lt); clear ho7 hb7 hw1 hw2))
  go_loopg [10, 12] ws.length (fun gg s10 s12 wr => ∃ (i : Nat) (out : List Int) (q5 : Int), s12 = .int .i64 (i : Int) ∧ i ≤ ws.length ∧ ws.length - i ≤ gg ∧ Aside0 (0 ≤ q5 ∧ q5 ≤ 3000 + i ∧ out.length ≤ i) ∧ Aside0 (Kd.R (Kd.int .i64) 3 wr w5.heap.size (fun _ => True) s10 out) ∧ Aside0 (RdI w w5 wr g bs q5) ∧ Aside0 (∀ k, s10.ownBlock = some k → k < w6.heap.size ∨ w7.heap.size ≤ k) ∧ Aside0 (Kd.R (Kd.int .i64) 3 wr w6.heap.size (fun k => w6.heap.size ≤ k ∧ k < w7.heap.size) (.slice A7 ws.length c7) ws) ∧ Aside0 (w7.heap.size ≤ wr.heap.size))
  case atStart => exact ⟨0, [], q4 + 1, rfl, Nat.zero_le _, by omega, ⟨by have := HQ4.out; simp; omega⟩, HE7, HR7, HF7, HW7, ⟨Nat.le_refl _⟩⟩
  case round =>
   clear HE6 HE7 HR6 HR7 HF7 HW7 HX6
   obtain ⟨i, out, q5, rfl, hi, hg, HJ, HE, HR, HFx, HWx, HZ⟩ := hrel
   have HJQ : Aside0 (0 ≤ q5 ∧ q5 ≤ 1000000) := ⟨zD HJ.out⟩
   by_cases hlt : i < ws.length
   ·
    have hltz : (i : Int) < (ws.length : Int) := by omega
    have hi0 : (0 : Int) ≤ (i : Int) := by omega
    have hw1 : wrap64 ((i : Int) + 1) = (i : Int) + 1 := by unfold wrap64; omega
    have hw2 : IntKind.i64.wrap ((i : Int) + 1) = (i : Int) + 1 := by rw [i64_w]; exact hw1
    have HLT := az (And.intro hlt hg)
    obtain ⟨ad, y, had, hx⟩ := wsCell HWx.out i hlt
    subst had
    by_cases hla : i + 1 = ws.length
    ·
     have bl : ((i : Int) + 1 == (ws.length : Int)) = true := beq_iff_eq.mpr (by omega)
     have HLA := az hla
     clear hg hla hi hlt
     go_wp2_with (first
      | ((with_reducible refine gate_builtin (b := .append) (xs := #[.tmp 54, .tmp 59]) rfl ?_); at_builtin; go_must (refine appI (w0 := wr) (base := w5.heap.size) Tryz.underlying22 info3 rfl (.tmp 54) (.tmp 59) rfl _ out y rfl rfl HE.out (Below.refl _ _) (Nat.le_trans HR9.out.2.2.2.2 HR.out.2.2.2.2) ?aL ?_); (case aL => have := HJ.out; omega); intro v9 w9 ho9 hb9 hg9 hat9; have HO9 := az ho9; have HR9b := az (HR.out.app HE.out (by decide) hg9 hb9); have HW9 := az (wsKeep HWx.out (fun k h1 h2 => hg9.block k (by have := HZ.out; have := HR.out.2.2.2.2; first | omega | (have := HZ.out; omega)) (fun hh => by have := HFx.out k hh.symm; omega))); have HF9 := az (show ∀ k, v9.ownBlock = some k → k < w6.heap.size ∨ w7.heap.size ≤ k from fun k hk => by (rcases hat9 with hh | ⟨b, hh, hle⟩; (exact HFx.out k (hh ▸ hk)); (rw [hh] at hk; cases hk; (have := HZ.out; first | omega | (have := HZ.out; omega))))); have HZ9 := az (show w7.heap.size ≤ w9.heap.size by have := hg9.size; have := HZ.out; first | omega | (have := HZ.out; omega)); clear ho9 hb9 hg9 hat9))
     go_roundg (ws.length - (i + 1))
     case measure => have := HLT.out; omega
     case rel => exact ⟨i + 1, out ++ [y], q5, by first | rfl | go_num | simp, HLT.out.1, Nat.le_refl _, ⟨by have := HJ.out; simp only [List.length_append, List.length_cons, List.length_nil]; omega⟩, HO9, HR9b, HF9, HW9, HZ9⟩
    ·
     have bl : ((i : Int) + 1 == (ws.length : Int)) = false := beq_eq_false_iff_ne.mpr (by omega)
     clear hg hla hi hlt hx
     go_upto_if 53 with (go_at_call 47; go_must (refine (pickR (w0 := w) (w := w5) (p := q5) 2 HS.out HJQ.out.1 HJQ.out.2 (by decide) (by decide) HR.out).mono ?_); rintro e w8 ⟨v8, hv0, hv1, rfl, hr, hr2⟩; have HR8 := az hr; have HE8 := az (RdI.row HR.out hr2 HE.out (by decide)); have HW8 := az (wsKeep HWx.out (fun k h1 h2 => hr2.2.2.1.2 k (zD HZ.out) (zD HG.out) (by simp))); have HZ8 := az (show w7.heap.size ≤ w8.heap.size from Nat.le_trans HZ.out hr2.2.2.2.2); obtain ⟨ad8, y, e8, hx8⟩ := wsCell HW8.out i HLT.out.1; obtain rfl : ad = ad8 := Option.some.inj e8; clear hr hr2 hv0 hv1 e8)
     by_cases h8 : v8 = 0
     ·
      have b8 : (v8 == 0) = true := beq_iff_eq.mpr h8
      clear h8
      rw [b8]
      go_wp2_with (first
       | ((with_reducible refine gate_builtin (b := .append) (xs := #[.tmp 54, .tmp 59]) rfl ?_); at_builtin; go_must (refine appI (w0 := w8) (base := w5.heap.size) Tryz.underlying22 info3 rfl (.tmp 54) (.tmp 59) rfl _ out y rfl rfl HE8.out (Below.refl _ _) (Nat.le_trans HR9.out.2.2.2.2 HR8.out.2.2.2.2) ?aL ?_); (case aL => have := HJ.out; omega); intro v9 w9 ho9 hb9 hg9 hat9; have HO9 := az ho9; have HR9b := az (HR8.out.app HE8.out (by decide) hg9 hb9); have HW9 := az (wsKeep HW8.out (fun k h1 h2 => hg9.block k (by have := HZ.out; have := HR8.out.2.2.2.2; first | omega | (have := HZ8.out; omega)) (fun hh => by have := HFx.out k hh.symm; omega))); have HF9 := az (show ∀ k, v9.ownBlock = some k → k < w6.heap.size ∨ w7.heap.size ≤ k from fun k hk => by (rcases hat9 with hh | ⟨b, hh, hle⟩; (exact HFx.out k (hh ▸ hk)); (rw [hh] at hk; cases hk; (have := HZ.out; first | omega | (have := HZ8.out; omega))))); have HZ9 := az (show w7.heap.size ≤ w9.heap.size by have := hg9.size; have := HZ.out; first | omega | (have := HZ8.out; omega)); clear ho9 hb9 hg9 hat9))
      go_roundg (ws.length - (i + 1))
      case measure => have := HLT.out; omega
      case rel => exact ⟨i + 1, out ++ [y], q5 + 1, by first | rfl | go_num | simp, HLT.out.1, Nat.le_refl _, ⟨by have := HJ.out; simp only [List.length_append, List.length_cons, List.length_nil]; omega⟩, HO9, HR9b, HF9, HW9, HZ9⟩
     ·
      have b8 : (v8 == 0) = false := beq_eq_false_iff_ne.mpr h8
      clear h8 hx8
      rw [b8]
      go_wp2
      go_roundg (ws.length - (i + 1))
      case measure => have := HLT.out; omega
      case rel => exact ⟨i + 1, out, q5 + 1, by first | rfl | go_num | simp, HLT.out.1, Nat.le_refl _, ⟨zD HJ.out⟩, HE8, HR8, HFx, HW8, HZ8⟩
   ·
    have hltz : ¬ (i : Int) < (ws.length : Int) := by omega
    have HJ2 : Aside0 (out.length ≤ 200 ∧ q5 ≤ 3200) := ⟨zD HJ.out⟩
    clear hg hlt hi
    by_cases h0 : out.length = 0
    ·
     have b0 : decide (0 < out.length) = false := decide_eq_false (by omega)
     obtain ⟨A9, c9, e9⟩ := Kd.R_slice HE.out
     subst e9
     clear h0
     go_wp2
     refine bodyPost_ret (results_tmp4 rfl _ _ _) rfl ?_
     exact ⟨_, _, _, l, HQ.out.2.2, sp, HQ3.out.2.1, wd, out, (zD HJ2.out), rfl, RdI.row HR9.out HR.out HO5.out (by decide), RdI.row HR9.out HR.out HP5.out (by decide), Kd.R_lower HE.out HR9.out.2.1.size, HR.out.2.1⟩
    ·
     have b0 : decide (0 < out.length) = true := decide_eq_true (by omega)
     obtain ⟨b, cap, he, hb1, _, _⟩ := Kd.R_form HE.out (by omega)
     subst he
     have HB1 := az hb1
     have HQ5 := az (show 0 ≤ q5 ∧ q5 ≤ 1000000 ∧ 0 ≤ q5 + 1 ∧ q5 + 1 ≤ 1000000 ∧ 0 ≤ q5 + 1 + 1 ∧ q5 + 1 + 1 ≤ 1000000 from (zL HJ2.out HJ.out))
     have HOL := az (show (1 : Int) ≤ (out.length : Int) ∧ (out.length : Int) ≤ 1000000 from (zD HJ2.out))
     clear h0 hb1
     go_upto_if 68 with (go_at_call 47; go_must (refine (pickR (w0 := w) (w := w5) (p := q5) 6 HS.out HQ5.out.1 HQ5.out.2.1 (by decide) (by decide) HR.out).mono ?_); rintro e w8 ⟨v8, hv0, hv1, rfl, hr, hr2⟩; have HR8 := az hr; have HE8 := az (RdI.row HR.out hr2 HE.out (by decide)); clear hr hr2 hv0 hv1)
     by_cases h8 : v8 = 0
     ·
      have b8 : (v8 == 0) = true := beq_iff_eq.mpr h8
      have hl2 : wrap64 ((l.length : Int) + 2) = (l.length : Int) + 2 := by have := HLN.out; unfold wrap64; omega
      have hl3 : IntKind.i64.wrap ((l.length : Int) + 2) = (l.length : Int) + 2 := by rw [i64_w]; exact hl2
      have HL4 := az (show (1 : Int) ≤ (l.length : Int) + 2 ∧ (l.length : Int) + 2 ≤ 1000000 from (zD HLN.out))
      clear h8
      rw [b8]
      go_wp2_with (first
       | (go_at_call 47; with_reducible refine (pickR (w0 := w) (w := w5) (out.length : Int) HS.out HQ5.out.2.2.1 HQ5.out.2.2.2.1 HOL.out.1 HOL.out.2 HR8.out).mono ?_; rintro e w9 ⟨v9, hv0, hv1, rfl, hr, hr2⟩; have HR10 := az hr; have HE10 := az (RdI.row HR8.out hr2 HE8.out (by decide)); obtain ⟨m, hm⟩ : ∃ m : Nat, v9 = (m : Int) := ⟨v9.toNat, by omega⟩; subst hm; have HM := az hv1; have hmz : (m : Int) < (out.length : Int) := hv1; clear hr hr2 hv0 hv1)
       | (go_at_call 47; go_must (refine (pickR (w0 := w) (w := w5) ((l.length : Int) + 2) HS.out HQ5.out.2.2.2.2.1 HQ5.out.2.2.2.2.2 HL4.out.1 HL4.out.2 HR10.out).mono ?_); rintro e w11 ⟨v11, hv0, hv1, rfl, hr, hr2⟩; have HR11 := az hr; have HE11 := az (RdI.row HR10.out hr2 HE10.out (by decide)); obtain ⟨hc1, hc2⟩ := Kd.R_celln (0 : Int) HE11.out (m : Int) (by omega) hmz; rw [Int.toNat_natCast] at hc1 hc2; have HP11 := az (Kd.R_putn HE11.out (m : Int) v11); have HG11 := az (Kd.R_put HE11.out (m : Int) v11).2; clear hr hr2 hv0 hv1))
      refine bodyPost_ret (results_tmp4 rfl _ _ _) rfl ?_
      have hge := HR11.out.app HE11.out (by decide) HG11.out ((Below.refl _ _).setCell (p := ⟨b, m, none⟩) HB1.out _)
      exact ⟨_, _, _, l, sp, wd, out.set m v11, HQ.out.2.2, HQ3.out.2.1, by have := HJ2.out; simp; omega, rfl, RdI.row HR9.out hge HO5.out (by decide), RdI.row HR9.out hge HP5.out (by decide), Kd.R_lower HP11.out HR9.out.2.1.size, hge.2.1⟩
     ·
      have b8 : (v8 == 0) = false := beq_eq_false_iff_ne.mpr h8
      clear h8
      rw [b8]
      go_wp2
      refine bodyPost_ret (results_tmp4 rfl _ _ _) rfl ?_
      exact ⟨_, _, _, l, sp, wd, out, HQ.out.2.2, HQ3.out.2.1, zD HJ2.out, rfl, RdI.row HR9.out HR8.out HO5.out (by decide), RdI.row HR9.out HR8.out HP5.out (by decide), Kd.R_lower HE8.out HR9.out.2.1.size, HR8.out.2.1⟩
theorem drawFitsE {w : World} (A0 : Option Addr) (c0 : Nat) (l0 : List Int) (hb : ∀ x ∈ l0, 0 ≤ x ∧ x ≤ 255) (hC : Kd.C (Kd.int .u8) w A0 l0.length l0) (hc0 : l0.length ≤ c0) :
  Calls Tryz.prog 31 #[.slice A0 l0.length c0] w fun e w' => ∃ (v0 v1 v3 : Value) (l : List Int) (sp : List S50) (wd : Int) (es : List Int), l.length ≤ 200 ∧ sp.length ≤ 13 ∧ es.length ≤ 1000 ∧ e = .returned (.tuple #[v0, v1, .int .i64 wd, v3]) ∧ Kd.R (Kd.int .i64) 3 w' w.heap.size (fun _ => True) v0 l ∧ Kd.R k50 50 w' w.heap.size (fun _ => True) v1 sp ∧ Kd.R (Kd.int .i64) 3 w' w.heap.size (fun _ => True) v3 es ∧ Below w.heap.size w w' := by
 have HB := az hb
 have HC := az hC
 have HC0 := az hc0
 clear hb hC hc0
 go_enter Tryz.func31, Tryz.ntmps31
 go_wp2_with (go_at_call 33; go_must (refine (drawCostE A0 c0 l0 HB.out HC.out HC0.out).mono ?_); rintro e w1 ⟨v0, v1, v3, l, sp, wd, es, h1, h2, h3, rfl, h4, h5, h6, h7⟩; have HO := az (And.intro h1 (And.intro h2 (And.intro h3 (And.intro h4 (And.intro h5 (And.intro h6 h7)))))); clear h1 h2 h3 h4 h5 h6 h7)
 refine bodyPost_ret (results_tmp4 rfl _ _ _) rfl ?_
 obtain ⟨h1, h2, h3, h4, h5, h6, h7⟩ := HO.out
 exact ⟨v0, v1, v3, l, sp, wd, es, h1, h2, h3, rfl, h4, h5, h6, h7⟩
theorem u8_wfF {x : Int} (h : (Lit.int .u8 x).wf = true) : 0 ≤ x ∧ x ≤ 255 := by
 simp [Lit.wf, IntKind.min, IntKind.max, IntKind.bits, IntKind.signed] at h
 omega
theorem lawFewE {w : World} (A0 : Option Addr) (c0 : Nat) (l0 : List Int) (hb : ∀ x ∈ l0, 0 ≤ x ∧ x ≤ 255) (hC : Kd.C (Kd.int .u8) w A0 l0.length l0) (hc0 : l0.length ≤ c0) :
  Calls Tryz.prog 9 #[.slice A0 l0.length c0] w fun e w' => e = .returned (.bool true) ∧ Below w.heap.size w w' := by
 by_cases hlen : (l0.length : Int) > 1048576
 ·
  clear hb hC hc0
  go_enter Tryz.func9, Tryz.ntmps9
  go_wp2
  go_ret
  exact ⟨rfl, by repeat (first | exact Below.refl _ _ | apply pw_below_drewN | apply below_drew1)⟩
 have HB := az hb
 have HC := az hC
 have HC0 := az hc0
 clear hb hC hc0
 go_enter Tryz.func9, Tryz.ntmps9
 go_upto_region 4 with (go_at_call 31; go_must (refine (drawFitsE A0 c0 l0 HB.out HC.out HC0.out).mono ?_); rintro e w1 ⟨v0, v1, v3, l, sp, wd, es, hl, hsp, hes, rfl, ho, hp, hq, hb1⟩; obtain ⟨A1, c1, rfl, hc1, hC1⟩ := Kd.R_reads ho; obtain ⟨A2, c2, rfl, hc2, hC2⟩ := Kd.R_reads hp; obtain ⟨A3, c3, rfl, hc3, hC3⟩ := Kd.R_reads hq; obtain ⟨b, hb0⟩ : ∃ b, Pure.fitsV l sp wd es = b := ⟨_, rfl⟩; have HI0 := az (show impl_FillFits.f 8000 l sp wd es = some b from hb0 ▸ Pure.fitsImpl (by omega) (by omega) (by omega)); have HS0 := az (show spec_FillFits.f 8000 l sp wd es = some b from hb0 ▸ Pure.fitsSpec (by omega) (by omega) (by omega) (by omega)); have HB9 := az hb0; have HO1 := az (And.intro hC1 hc1); have HP1 := az (And.intro hC2 hc2); have HE1 := az (And.intro hC3 hc3); have HB1 := az hb1; have HR5 := az (And.intro hl (And.intro hsp hes)); clear ho hp hq hb1 hC1 hC2 hC3 hc1 hc2 hc3 hl hsp hes hb0)
 cases b
 ·
  go_wp2_with (first
   | (go_at_call 26; go_must (refine (impl_FillFits.calls 8000 A1 c1 l A2 c2 sp wd A3 c3 es false _ HO1.out.1 HO1.out.2 HP1.out.1 HP1.out.2 HE1.out.1 HE1.out.2 HI0.out).mono ?_); rintro e w2 ⟨rfl, hb2⟩; have HB2 := az hb2; clear hb2)
   | (go_at_call 32; go_must (refine (spec_FillFits.calls 8000 A1 c1 l A2 c2 sp wd A3 c3 es false _ (Kd.C_below HO1.out.1 HB2.out) HO1.out.2 (Kd.C_below HP1.out.1 HB2.out) HP1.out.2 (Kd.C_below HE1.out.1 HB2.out) HE1.out.2 HS0.out).mono ?_); rintro e w3 ⟨rfl, hb3⟩; have HB2 := az (below_then HB2.out HB2.out.size hb3); clear hb3))
  go_ret
  exact ⟨rfl, below_then HB1.out HB1.out.size HB2.out⟩
 obtain ⟨r, g1, g2, g3, g4⟩ := Pure.linesFull (rs := l) (sp := sp) (wide := wd) (mode := 0) (k := 6000) (zD HR5.out) (zD HR5.out) (zD HR5.out)
 obtain ⟨hle, hfi⟩ := Pure.fewFull HB9.out g3 g4 (k := 8000) (zD HR5.out) (zD HR5.out)
 have hq : decide (r.length ≤ es.length) = true := decide_eq_true hle
 have HG := az g2
 have HF := az hfi
 clear g1 g2 g3 g4 hfi hle
 go_upto_region 8 with (first
  | (go_at_call 32; go_must (refine (spec_FillFits.calls 8000 A1 c1 l A2 c2 sp wd A3 c3 es true _ (Kd.C_below HO1.out.1 HB2.out) HO1.out.2 (Kd.C_below HP1.out.1 HB2.out) HP1.out.2 (Kd.C_below HE1.out.1 HB2.out) HE1.out.2 HS0.out).mono ?_); rintro e w3 ⟨rfl, hb3⟩; have HB3 := az (below_then HB2.out HB2.out.size hb3); clear hb3)
  | (go_at_call 15; go_must (refine (impl_FillLines.calls 6000 A1 c1 l A2 c2 sp wd 0 r _ (Kd.C_below HO1.out.1 HB3.out) HO1.out.2 (Kd.C_below HP1.out.1 HB3.out) HP1.out.2 HG.out).mono ?_); rintro e w4 ⟨v4, rfl, ho4, hb4⟩; obtain ⟨A4, c4, rfl, hc4, hC4⟩ := Kd.R_reads ho4; have HE4 := az (And.intro hC4 hc4); have HB4 := az (below_then HB3.out HB3.out.size hb4); clear ho4 hb4 hC4 hc4)
  | (go_at_call 26; go_must (refine (impl_FillFits.calls 8000 A1 c1 l A2 c2 sp wd A3 c3 es true _ HO1.out.1 HO1.out.2 HP1.out.1 HP1.out.2 HE1.out.1 HE1.out.2 HI0.out).mono ?_); rintro e w2 ⟨rfl, hb2⟩; have HB2 := az hb2; clear hb2))
 go_wp2_with (go_at_call 26; go_must (refine (impl_FillFits.calls 8000 A1 c1 l A2 c2 sp wd A4 c4 r true _ (Kd.C_below HO1.out.1 HB4.out) HO1.out.2 (Kd.C_below HP1.out.1 HB4.out) HP1.out.2 HE4.out.1 HE4.out.2 HF.out).mono ?_); rintro e w5 ⟨rfl, hb5⟩; have HB5 := az (below_then HB4.out HB4.out.size hb5); clear hb5)
 go_ret
 exact ⟨rfl, below_then HB1.out HB1.out.size HB5.out⟩
theorem laws_FnFillFew.walk (a0 : Option Addr) (len0 cap0 : Nat) (z0 : List Int) (w : World) (w0 : (a0 = none ∧ len0 = 0 ∧ cap0 = 0 ∧ z0 = []) ∨ ∃ x, a0 = some x ∧ len0 ≤ cap0 ∧ cap0 ≤ maxLen ∧ z0.length = cap0 ∧ (∀ i, i < z0.length → w.cell? (x.add i) = some (.int .u8 (z0.getD i 0))) ∧ ∀ n ∈ z0, (Lit.int .u8 n).wf = true) :
  Calls Tryz.prog 9 #[.slice a0 len0 cap0] w fun e w' => e = .returned (.bool true) ∧ Below w.heap.size w w' := by
 obtain ⟨l0, rfl, hr0, hm0, hw0, hc0⟩ := ReadsInt.ofRowC w0
 exact lawFewE _ _ l0 (fun x hx => u8_wfF (hw0 x hx)) (Kd.C_of_reads (d := (0 : Int)) (h1 := fun _ => rfl) hr0) hc0
end Go.Proofs.YtmcdcogedcbndaaGreat.S
