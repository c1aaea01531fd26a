/- Of drawn letters, spans, width and way: the lines that the program tells are in order, the last one ends at the end, and what they cost can be told; they are the reference's. No condition beyond the statement's own. (text 2 of 7 of this claim: functions of the program and of the reference as plain Lean functions, what a call of each comes to, and what follows.) -/
import Derived.Test.YtmcdcogedcbndaaGreatZFnFillAllA0
set_option maxHeartbeats 16000000
set_option maxRecDepth 100000
set_option linter.unusedVariables false
set_option linter.unusedSimpArgs false
namespace Go.Proofs.YtmcdcogedcbndaaGreat.S
open Go.RowKit Go.Proofs.YtmcdcogedcbndaaGreatW.PrintWords Go.Proofs.YtmcdcogedcbndaaGreatW.PrintLast
set_option linter.unusedVariables false
set_option linter.unusedSimpArgs false
def inL (l : List Int) (x : Int) : Bool := l.contains x
def wordB (n : Int) : Bool := inL [1, 2] n
def ansV : Nat → Int
 | 0 => 2
 | 1 => 0
 | 2 => 1
 | 3 => 0
 | 4 => 0
 | 5 => 0
 | 6 => 1
 | 7 => 0
 | 8 => 0
 | _ => 1
def isV (a b s : Int) : Nat → Bool
 | 0 => a == 4
 | 1 => inL [4, 3, 6] b
 | 2 => s == 6
 | 3 => a == 5 || (b == 5 && !(inL [3, 14, 12] a))
 | 4 => (inL [9, 10, 13] b && !(a == 3)) || (inL [9, 10] b && !(s == 0))
 | 5 => s == 8
 | 6 => a == 3
 | 7 => a == 11 || inL [11, 14, 12] b
 | 8 => (wordB a && wordB b) || (b == 2 && inL [12, 13] a) || (a == 13 && b == 1) || ((wordB a && b == 8) || (a == 9 && wordB b))
 | _ => true
theorem one_l (x : Int) (l : List Int) (hn : l.length ≤ 1000) : ∀ (d k i : Nat), l.length - i = d → i ≤ l.length → d < k → impl_oneOf.l0 k x l (l.length : Int) (i : Int) = some ((l.drop i).contains x)
 | 0, k, i, hd, hi, hk => by
  obtain ⟨k, rfl⟩ : ∃ m, k = m + 1 := ⟨k - 1, by omega⟩
  rw [impl_oneOf.l0, if_neg (by omega), List.drop_eq_nil_of_le (by omega)]
  rfl
 | d + 1, k, i, hd, hi, hk => by
  obtain ⟨k, rfl⟩ : ∃ m, k = m + 1 := ⟨k - 1, by omega⟩
  have ih := one_l x l hn d k (i + 1) (by omega) (by omega) (by omega)
  have hlt : i < l.length := by omega
  rw [impl_oneOf.l0, if_pos (by omega), if_pos (by omega), if_pos (by omega), List.drop_eq_getElem_cons hlt]
  have e : rd l (i : Int) = l[i] := by simp [rd, List.getD_eq_getElem?_getD, hlt]
  have w : wrap64 ((i : Int) + 1) = ((i + 1 : Nat) : Int) := by unfold wrap64; omega
  rw [e, w, ih, List.contains_cons]
  by_cases h : x = l[i]
  · rw [if_pos h, beq_iff_eq.mpr h, Bool.true_or]
  · rw [if_neg h, beq_eq_false_iff_ne.mpr h, Bool.false_or]
theorem one_f (k : Nat) (x : Int) (l : List Int) (hn : l.length ≤ 1000) (hk : l.length < k) : impl_oneOf.f k x l = some (l.contains x) := by
 have h := one_l x l hn l.length k 0 (by omega) (by omega) hk
 rw [List.drop_zero] at h
 exact h
theorem oneOf_calls (a0 : Int) (A1 : Option Addr) (n c1 : Nat) (l1 : List Int) (w : World) (hr1 : Kd.C (Kd.int .i64) w A1 n l1) (hc1 : n ≤ c1) (hn : n ≤ 1000) :
  Calls Tryz.prog 104 #[.int .i64 a0, .slice A1 n c1] w fun e w' => e = .returned (.bool (inL l1 a0)) ∧ Drawn0 w w' := by
 obtain rfl : l1.length = n := hr1.1
 exact impl_oneOf.calls 1001 a0 A1 c1 l1 _ w hr1 hc1 (one_f 1001 a0 l1 hn (by omega))
theorem litC (xs : List Int) {W : World} {n g : Nat} (a : Array Value) (hg : W.heap.size = g) (ha : a = (xs.map fun x => .int .i64 x).toArray := by rfl) (hn : xs.length = n := by rfl) (hm : n ≤ 1000 := by decide) : Kd.C (Kd.int .i64) (W.alloc (.cells a 3)) (some ⟨g, 0, none⟩) n xs := by
 subst ha
 subst hg
 subst hn
 refine Kd.C_of_reads (d := (0 : Int)) (h1 := fun _ => rfl) ⟨rfl, by omega, fun _ => ⟨_, rfl, fun j hj => ?_⟩⟩
 have h := blk_cell (blk_new W (.cells (xs.map fun x => .int .i64 x).toArray 3)) j
 rw [add_plain, h]
 simp [List.getD_eq_getElem?_getD, hj]
theorem rule0_calls (a b s : Int) (w : World) : Calls Tryz.prog 105 #[.agg #[.int .i64 a, .int .i64 b, .int .i64 s]] w fun e w' => e = .returned (.bool (isV a b s 0)) ∧ Below w.heap.size w w' := by
 have HB := az (below_alloc (Below.refl w.heap.size w) (.cells #[.int .i64 a, .int .i64 b, .int .i64 s] 96))
 go_enter Tryz.func105, Tryz.ntmps105
 go_wp2
 go_ret
 exact ⟨rfl, HB.out⟩
theorem rule1_calls (a b s : Int) (w : World) : Calls Tryz.prog 106 #[.agg #[.int .i64 a, .int .i64 b, .int .i64 s]] w fun e w' => e = .returned (.bool (isV a b s 1)) ∧ Below w.heap.size w w' := by
 have HB := az (below_alloc (Below.refl w.heap.size w) (.cells #[.int .i64 a, .int .i64 b, .int .i64 s] 96))
 have HE2 := az (show isV a b s 1 = inL [4, 3, 6] b by rfl)
 go_enter Tryz.func106, Tryz.ntmps106
 go_wp2_with (first | (go_at_call 104; go_must (refine (oneOf_calls b _ _ _ [4, 3, 6] _ (litC [4, 3, 6] #[.int .i64 4, .int .i64 3, .int .i64 6] ?hg) (Nat.le_refl _) (by decide)).mono ?_); (case hg => simp); rintro e w' ⟨rfl, ⟨nd1, rfl⟩⟩))
 go_ret
 exact ⟨by rw [HE2.out]; first | done | rfl, pw_below_drewN (below_alloc HB.out _) _⟩
theorem rule2_calls (a b s : Int) (w : World) : Calls Tryz.prog 107 #[.agg #[.int .i64 a, .int .i64 b, .int .i64 s]] w fun e w' => e = .returned (.bool (isV a b s 2)) ∧ Below w.heap.size w w' := by
 have HB := az (below_alloc (Below.refl w.heap.size w) (.cells #[.int .i64 a, .int .i64 b, .int .i64 s] 96))
 go_enter Tryz.func107, Tryz.ntmps107
 go_wp2
 go_ret
 exact ⟨rfl, HB.out⟩
theorem rule3_calls (a b s : Int) (w : World) : Calls Tryz.prog 108 #[.agg #[.int .i64 a, .int .i64 b, .int .i64 s]] w fun e w' => e = .returned (.bool (isV a b s 3)) ∧ Below w.heap.size w w' := by
 have HB := az (below_alloc (Below.refl w.heap.size w) (.cells #[.int .i64 a, .int .i64 b, .int .i64 s] 96))
 by_cases h5 : a = 5
 ·
  have b5 : (a == 5) = true := beq_iff_eq.mpr h5
  have HE2 := az (show isV a b s 3 = true by unfold isV; rw [b5]; rfl)
  clear h5
  go_enter Tryz.func108, Tryz.ntmps108
  go_wp2
  go_ret
  exact ⟨by rw [HE2.out]; first | done | rfl, HB.out⟩
 ·
  have b5 : (a == 5) = false := beq_eq_false_iff_ne.mpr h5
  clear h5
  by_cases h6 : b = 5
  ·
   have b6 : (b == 5) = true := beq_iff_eq.mpr h6
   have HE2 := az (show isV a b s 3 = !(inL [3, 14, 12] a) by unfold isV; rw [b5, b6]; rfl)
   clear h6
   go_enter Tryz.func108, Tryz.ntmps108
   go_wp2_with (first | (go_at_call 104; go_must (refine (oneOf_calls a _ _ _ [3, 14, 12] _ (litC [3, 14, 12] #[.int .i64 3, .int .i64 14, .int .i64 12] ?hg) (Nat.le_refl _) (by decide)).mono ?_); (case hg => simp); rintro e w' ⟨rfl, ⟨nd1, rfl⟩⟩))
   go_ret
   exact ⟨by rw [HE2.out]; first | done | rfl, pw_below_drewN (below_alloc HB.out _) _⟩
  ·
   have b6 : (b == 5) = false := beq_eq_false_iff_ne.mpr h6
   have HE2 := az (show isV a b s 3 = false by unfold isV; rw [b5, b6]; rfl)
   clear h6
   go_enter Tryz.func108, Tryz.ntmps108
   go_wp2
   go_ret
   exact ⟨by rw [HE2.out]; first | done | rfl, HB.out⟩
theorem rule4_calls (a b s : Int) (w : World) : Calls Tryz.prog 109 #[.agg #[.int .i64 a, .int .i64 b, .int .i64 s]] w fun e w' => e = .returned (.bool (isV a b s 4)) ∧ Below w.heap.size w w' := by
 have HB := az (below_alloc (Below.refl w.heap.size w) (.cells #[.int .i64 a, .int .i64 b, .int .i64 s] 96))
 have L1 := fun (W : World) (g : Nat) (hg : W.heap.size = g) => litC [9, 10, 13] #[.int .i64 9, .int .i64 10, .int .i64 13] hg
 have L2 := fun (W : World) (g : Nat) (hg : W.heap.size = g) => litC [9, 10] #[.int .i64 9, .int .i64 10] hg
 have LT : 3 ≤ 1000 ∧ 2 ≤ 1000 := by decide
 cases q1 : inL [9, 10, 13] b with
 | true =>
  by_cases h3 : a = 3
  ·
   have b3 : (a == 3) = true := beq_iff_eq.mpr h3
   have b3' : (a != 3) = false := by rw [bne, b3]; rfl
   clear h3
   cases q2 : inL [9, 10] b with
   | true =>
    have HE2 := az (show isV a b s 4 = !(s == 0) by unfold isV; rw [q1, q2, b3]; rfl)
    go_enter Tryz.func109, Tryz.ntmps109
    go_wp2_with (first | (go_at_call 104; first | ((with_reducible refine (oneOf_calls b _ 3 3 [9, 10, 13] _ (L1 _ _ ?hg) (Nat.le_refl _) LT.1).mono ?_); (case hg => simp); rintro e w' ⟨rfl, ⟨nd1, rfl⟩⟩; rw [q1]) | ((with_reducible refine (oneOf_calls b _ 2 2 [9, 10] _ (L2 _ _ ?hg) (Nat.le_refl _) LT.2).mono ?_); (case hg => simp); rintro e w' ⟨rfl, ⟨nd2, rfl⟩⟩; rw [q2])))
    go_ret
    exact ⟨by rw [HE2.out]; first | done | rfl, pw_below_drewN (below_alloc (pw_below_drewN (below_alloc HB.out _) _) _) _⟩
   | false =>
    have HE2 := az (show isV a b s 4 = false by unfold isV; rw [q1, q2, b3]; rfl)
    go_enter Tryz.func109, Tryz.ntmps109
    go_wp2_with (first | (go_at_call 104; first | ((with_reducible refine (oneOf_calls b _ 3 3 [9, 10, 13] _ (L1 _ _ ?hg) (Nat.le_refl _) LT.1).mono ?_); (case hg => simp); rintro e w' ⟨rfl, ⟨nd1, rfl⟩⟩; rw [q1]) | ((with_reducible refine (oneOf_calls b _ 2 2 [9, 10] _ (L2 _ _ ?hg) (Nat.le_refl _) LT.2).mono ?_); (case hg => simp); rintro e w' ⟨rfl, ⟨nd2, rfl⟩⟩; rw [q2])))
    go_ret
    exact ⟨by rw [HE2.out]; first | done | rfl, pw_below_drewN (below_alloc (pw_below_drewN (below_alloc HB.out _) _) _) _⟩
  ·
   have b3 : (a == 3) = false := beq_eq_false_iff_ne.mpr h3
   have b3' : (a != 3) = true := by rw [bne, b3]; rfl
   clear h3
   have HE2 := az (show isV a b s 4 = true by unfold isV; rw [q1, b3]; rfl)
   go_enter Tryz.func109, Tryz.ntmps109
   go_wp2_with (first | (go_at_call 104; first | ((with_reducible refine (oneOf_calls b _ 3 3 [9, 10, 13] _ (L1 _ _ ?hg) (Nat.le_refl _) LT.1).mono ?_); (case hg => simp); rintro e w' ⟨rfl, ⟨nd1, rfl⟩⟩; rw [q1])))
   go_ret
   exact ⟨by rw [HE2.out]; first | done | rfl, pw_below_drewN (below_alloc HB.out _) _⟩
 | false =>
  cases q2 : inL [9, 10] b with
  | true =>
   have HE2 := az (show isV a b s 4 = !(s == 0) by unfold isV; rw [q1, q2]; rfl)
   go_enter Tryz.func109, Tryz.ntmps109
   go_wp2_with (first | (go_at_call 104; first | ((with_reducible refine (oneOf_calls b _ 3 3 [9, 10, 13] _ (L1 _ _ ?hg) (Nat.le_refl _) LT.1).mono ?_); (case hg => simp); rintro e w' ⟨rfl, ⟨nd1, rfl⟩⟩; rw [q1]) | ((with_reducible refine (oneOf_calls b _ 2 2 [9, 10] _ (L2 _ _ ?hg) (Nat.le_refl _) LT.2).mono ?_); (case hg => simp); rintro e w' ⟨rfl, ⟨nd2, rfl⟩⟩; rw [q2])))
   go_ret
   exact ⟨by rw [HE2.out]; first | done | rfl, pw_below_drewN (below_alloc (pw_below_drewN (below_alloc HB.out _) _) _) _⟩
  | false =>
   have HE2 := az (show isV a b s 4 = false by unfold isV; rw [q1, q2]; rfl)
   go_enter Tryz.func109, Tryz.ntmps109
   go_wp2_with (first | (go_at_call 104; first | ((with_reducible refine (oneOf_calls b _ 3 3 [9, 10, 13] _ (L1 _ _ ?hg) (Nat.le_refl _) LT.1).mono ?_); (case hg => simp); rintro e w' ⟨rfl, ⟨nd1, rfl⟩⟩; rw [q1]) | ((with_reducible refine (oneOf_calls b _ 2 2 [9, 10] _ (L2 _ _ ?hg) (Nat.le_refl _) LT.2).mono ?_); (case hg => simp); rintro e w' ⟨rfl, ⟨nd2, rfl⟩⟩; rw [q2])))
   go_ret
   exact ⟨by rw [HE2.out]; first | done | rfl, pw_below_drewN (below_alloc (pw_below_drewN (below_alloc HB.out _) _) _) _⟩
theorem rule5_calls (a b s : Int) (w : World) : Calls Tryz.prog 110 #[.agg #[.int .i64 a, .int .i64 b, .int .i64 s]] w fun e w' => e = .returned (.bool (isV a b s 5)) ∧ Below w.heap.size w w' := by
 have HB := az (below_alloc (Below.refl w.heap.size w) (.cells #[.int .i64 a, .int .i64 b, .int .i64 s] 96))
 go_enter Tryz.func110, Tryz.ntmps110
 go_wp2
 go_ret
 exact ⟨rfl, HB.out⟩
theorem rule6_calls (a b s : Int) (w : World) : Calls Tryz.prog 111 #[.agg #[.int .i64 a, .int .i64 b, .int .i64 s]] w fun e w' => e = .returned (.bool (isV a b s 6)) ∧ Below w.heap.size w w' := by
 have HB := az (below_alloc (Below.refl w.heap.size w) (.cells #[.int .i64 a, .int .i64 b, .int .i64 s] 96))
 go_enter Tryz.func111, Tryz.ntmps111
 go_wp2
 go_ret
 exact ⟨rfl, HB.out⟩
theorem rule7_calls (a b s : Int) (w : World) : Calls Tryz.prog 112 #[.agg #[.int .i64 a, .int .i64 b, .int .i64 s]] w fun e w' => e = .returned (.bool (isV a b s 7)) ∧ Below w.heap.size w w' := by
 have HB := az (below_alloc (Below.refl w.heap.size w) (.cells #[.int .i64 a, .int .i64 b, .int .i64 s] 96))
 by_cases h5 : a = 11
 ·
  have b5 : (a == 11) = true := beq_iff_eq.mpr h5
  have HE2 := az (show isV a b s 7 = true by unfold isV; rw [b5]; rfl)
  clear h5
  go_enter Tryz.func112, Tryz.ntmps112
  go_wp2
  go_ret
  exact ⟨by rw [HE2.out]; first | done | rfl, HB.out⟩
 ·
  have b5 : (a == 11) = false := beq_eq_false_iff_ne.mpr h5
  have HE2 := az (show isV a b s 7 = inL [11, 14, 12] b by unfold isV; rw [b5]; rfl)
  clear h5
  go_enter Tryz.func112, Tryz.ntmps112
  go_wp2_with (first | (go_at_call 104; go_must (refine (oneOf_calls b _ _ _ [11, 14, 12] _ (litC [11, 14, 12] #[.int .i64 11, .int .i64 14, .int .i64 12] ?hg) (Nat.le_refl _) (by decide)).mono ?_); (case hg => simp); rintro e w' ⟨rfl, ⟨nd1, rfl⟩⟩))
  go_ret
  exact ⟨by rw [HE2.out]; first | done | rfl, pw_below_drewN (below_alloc HB.out _) _⟩
theorem rule9_calls (a b s : Int) (w : World) : Calls Tryz.prog 114 #[.agg #[.int .i64 a, .int .i64 b, .int .i64 s]] w fun e w' => e = .returned (.bool (isV a b s 9)) ∧ Below w.heap.size w w' := by
 have HB := az (below_alloc (Below.refl w.heap.size w) (.cells #[.int .i64 a, .int .i64 b, .int .i64 s] 96))
 go_enter Tryz.func114, Tryz.ntmps114
 go_wp2
 go_ret
 exact ⟨rfl, HB.out⟩
theorem word_calls (x : Int) (w : World) : Calls Tryz.prog 103 #[.int .i64 x] w fun e w' => e = .returned (.bool (wordB x)) ∧ Below w.heap.size w w' := by
 go_enter Tryz.func103, Tryz.ntmps103
 go_wp2_with (go_at_call 104; go_must (refine (oneOf_calls x _ _ _ [1, 2] _ (litC [1, 2] #[.int .i64 1, .int .i64 2] ?hg) (Nat.le_refl _) (by decide)).mono ?_); (case hg => simp); rintro e w' ⟨rfl, ⟨nd1, rfl⟩⟩)
 go_ret
 exact ⟨rfl, pw_below_drewN (below_alloc (Below.refl _ _) _) _⟩
theorem rule8_calls (a b s : Int) (d : Nat) (w : World) (hd : w.cell? ⟨d, 0, none⟩ = some (.func (.func 103) #[] #[])) (hdl : d < w.heap.size) : Calls Tryz.prog 113 #[.agg #[.int .i64 a, .int .i64 b, .int .i64 s], .pointer (some ⟨d, 0, none⟩)] w fun e w' => e = .returned (.bool (isV a b s 8)) ∧ Below w.heap.size w w' := by
 obtain ⟨W0, hW0⟩ : ∃ W0, w.alloc (.cells #[.int .i64 a, .int .i64 b, .int .i64 s] 96) = W0 := ⟨_, rfl⟩
 have hB0 : Below w.heap.size w W0 := by rw [← hW0]; exact below_alloc (Below.refl _ _) _
 have hk : W0.heap[w.heap.size]? = some (.cells #[.int .i64 a, .int .i64 b, .int .i64 s] 96) := by rw [← hW0]; exact blk_new w _
 have x0 := (blk_cell hk 0).trans (show _ = some (Value.int .i64 a) from rfl)
 have x1 := (blk_cell hk 1).trans (show _ = some (Value.int .i64 b) from rfl)
 have xc := (hB0.cell (p := ⟨d, 0, none⟩) hdl).trans hd
 have lt1 : w.heap.size < W0.heap.size := by rw [← hW0]; simp
 have lt2 : d < W0.heap.size := Nat.lt_trans hdl lt1
 have HB0 := az hB0
 have H0 := az (Below.refl W0.heap.size W0)
 clear hB0 hk hd hdl
 have HV := az (show isV a b s 8 = ((wordB a && wordB b) || (b == 2 && inL [12, 13] a) || (a == 13 && b == 1) || ((wordB a && b == 8) || (a == 9 && wordB b))) from rfl)
 have HX := H0
 clear H0
 go_enter Tryz.func113, Tryz.ntmps113
 go_upto_region 1 with fail
 clear hW0
 go_cut [4] (fun v4 wc => v4 = .bool (wordB a && wordB b) ∧ Aside0 (Below W0.heap.size W0 wc))
 case first =>
  cases q1 : wordB a
  all_goals
   go_wp2_with (first | (go_at_call 103; go_must (refine (word_calls _ _).mono ?_); rintro e w' ⟨rfl, hb⟩; have n0 := az (below_step (zA HX.out) hb); clear HX hb; have HX := n0; clear n0; have y0 := (HX.out.cell (p := ⟨w.heap.size, 0, none⟩) lt1).trans x0; have y1 := (HX.out.cell (p := ⟨w.heap.size, 1, none⟩) lt1).trans x1; have yc := (HX.out.cell (p := ⟨d, 0, none⟩) lt2).trans xc))
   go_meet
   exact ⟨by rw [q1]; first | done | rfl, ⟨(zA HX.out)⟩⟩
 case rest =>
 clear HX
 obtain ⟨rfl, HX⟩ := hcut
 cases v1 : (wordB a && wordB b)
 case true =>
  have HE2 := az (show isV a b s 8 = true by rw [HV.out, v1]; rfl)
  go_wp2
  go_ret
  exact ⟨by rw [HE2.out]; first | done | rfl, below_then HB0.out HB0.out.size (zA HX.out)⟩
 case false =>
 go_upto_region 2 with fail
 have z0 := (HX.out.cell (p := ⟨w.heap.size, 0, none⟩) lt1).trans x0; have z1 := (HX.out.cell (p := ⟨w.heap.size, 1, none⟩) lt1).trans x1; have zc := (HX.out.cell (p := ⟨d, 0, none⟩) lt2).trans xc
 go_cut [4] (fun v4 wd => v4 = .bool (b == 2 && inL [12, 13] a) ∧ Aside0 (Below W0.heap.size W0 wd))
 case first =>
  cases b2 : (b == 2)
  all_goals
   go_wp2_with (first | (go_at_call 104; go_must (refine (oneOf_calls a _ _ _ [12, 13] _ (litC [12, 13] #[.int .i64 12, .int .i64 13] ?hg) (Nat.le_refl _) (by decide)).mono ?_); (case hg => simp); rintro e w' ⟨rfl, ⟨nd1, rfl⟩⟩))
   go_meet
   exact ⟨by rw [b2]; first | done | rfl, ⟨(zA HX.out)⟩⟩
 case rest =>
 clear HX z0 z1 zc
 obtain ⟨rfl, HX⟩ := hcut
 cases v2 : (b == 2 && inL [12, 13] a)
 case true =>
  have HE2 := az (show isV a b s 8 = true by rw [HV.out, v1, v2]; rfl)
  go_wp2
  go_ret
  exact ⟨by rw [HE2.out]; first | done | rfl, below_then HB0.out HB0.out.size (zA HX.out)⟩
 case false =>
 go_upto_region 3 with fail
 have z0 := (HX.out.cell (p := ⟨w.heap.size, 0, none⟩) lt1).trans x0; have z1 := (HX.out.cell (p := ⟨w.heap.size, 1, none⟩) lt1).trans x1; have zc := (HX.out.cell (p := ⟨d, 0, none⟩) lt2).trans xc
 go_cut [4] (fun v4 wd => v4 = .bool (a == 13 && b == 1) ∧ Aside0 (Below W0.heap.size W0 wd))
 case first =>
  cases a13 : (a == 13)
  all_goals
   go_wp2
   go_meet
   exact ⟨by rw [a13]; first | done | rfl, ⟨(zA HX.out)⟩⟩
 case rest =>
 clear HX z0 z1 zc
 obtain ⟨rfl, HX⟩ := hcut
 cases v3 : (a == 13 && b == 1)
 case true =>
  have HE2 := az (show isV a b s 8 = true by rw [HV.out, v1, v2, v3]; rfl)
  go_wp2
  go_ret
  exact ⟨by rw [HE2.out]; first | done | rfl, below_then HB0.out HB0.out.size (zA HX.out)⟩
 case false =>
 have HF := az (show isV a b s 8 = ((wordB a && b == 8) || (a == 9 && wordB b)) by rw [HV.out, v1, v2, v3]; rfl)
 clear v2 v3
 have z0 := (HX.out.cell (p := ⟨w.heap.size, 0, none⟩) lt1).trans x0; have z1 := (HX.out.cell (p := ⟨w.heap.size, 1, none⟩) lt1).trans x1; have zc := (HX.out.cell (p := ⟨d, 0, none⟩) lt2).trans xc
 cases q1 : wordB a
 all_goals
  cases b8 : (b == 8)
  all_goals
   cases a9 : (a == 9)
   all_goals
    have HE2 := az (HF.out.trans (by rw [q1, b8, a9]))
    go_wp2_with (first | (go_at_call 103; go_must (refine (word_calls _ _).mono ?_); rintro e w' ⟨rfl, hb⟩; have n0 := az (below_step (zA HX.out) hb); clear HX hb; have HX := n0; clear n0; have y0 := (HX.out.cell (p := ⟨w.heap.size, 0, none⟩) lt1).trans x0; have y1 := (HX.out.cell (p := ⟨w.heap.size, 1, none⟩) lt1).trans x1; have yc := (HX.out.cell (p := ⟨d, 0, none⟩) lt2).trans xc))
    go_ret
    exact ⟨by rw [HE2.out]; first | done | rfl, below_then HB0.out HB0.out.size (zA HX.out)⟩
def RC (W : World) (v : Value) (ans : Int) (fv : Value) : Prop := ∃ bB cB : Nat, v = .func (.func 102) #[] #[.pointer (some ⟨bB, 0, none⟩), .pointer (some ⟨cB, 0, none⟩)] ∧ bB < W.heap.size ∧ cB < W.heap.size ∧ W.cell? ⟨bB, 0, none⟩ = some (.int .i64 ans) ∧ W.cell? ⟨cB, 0, none⟩ = some fv
theorem RC.below {W W' : World} {v : Value} {ans : Int} {fv : Value} (h : RC W v ans fv) (hb : Below W.heap.size W W') : RC W' v ans fv := by
 obtain ⟨bB, cB, h0, h1, h2, h3, h4⟩ := h
 exact ⟨bB, cB, h0, Nat.lt_of_lt_of_le h1 hb.size, Nat.lt_of_lt_of_le h2 hb.size, (hb.cell (p := ⟨bB, 0, none⟩) h1).trans h3, (hb.cell (p := ⟨cB, 0, none⟩) h2).trans h4⟩
theorem when_calls (ans : Int) (fn : Fn) (lb : Array Value) (w : World) : Calls Tryz.prog 101 #[.int .i64 ans, .func fn #[] lb] w fun e w' => ∃ lb', e = .returned (.func (.func 102) #[] lb') ∧ RC w' (.func (.func 102) #[] lb') ans (.func fn #[] lb) ∧ Below w.heap.size w w' := by
 go_enter Tryz.func101, Tryz.ntmps101
 go_wp2
 go_ret
 have e1 := blk_new w (.cells #[.int .i64 ans] 3)
 have e2 := blk_new (w.alloc (.cells #[.int .i64 ans] 3)) (.cells #[.func fn #[] lb] 108)
 refine ⟨_, rfl, ⟨w.heap.size, w.heap.size + 1, rfl, by simp; omega, by simp, (blk_cell (blk_alloc e1 _) 0).trans rfl, ?_⟩, below_alloc (below_alloc (Below.refl _ _) _) _⟩
 rw [show (w.alloc (.cells #[.int .i64 ans] 3)).heap.size = w.heap.size + 1 by simp] at e2
 exact (blk_cell e2 0).trans rfl
theorem when2_calls (f : Nat) (lb : Array Value) (eg : ∀ args w, (callFunc f args).run Tryz.prog w = .ok (.enter f args) w) (a b s ans : Int) (v : Bool) (bB cB : Nat) (w : World) (h1 : w.cell? ⟨bB, 0, none⟩ = some (.int .i64 ans)) (h2 : w.cell? ⟨cB, 0, none⟩ = some (.func (.func f) #[] lb)) (l1 : bB < w.heap.size) (l2 : cB < w.heap.size)
  (hp : ∀ W, Below w.heap.size w W → Calls Tryz.prog f (#[.agg #[.int .i64 a, .int .i64 b, .int .i64 s]] ++ lb) W fun e w' => e = .returned (.bool v) ∧ Below W.heap.size W w') :
  Calls Tryz.prog 102 #[.agg #[.int .i64 a, .int .i64 b, .int .i64 s], .pointer (some ⟨bB, 0, none⟩), .pointer (some ⟨cB, 0, none⟩)] w fun e w' => e = .returned (.tuple #[.int .i64 ans, .bool v]) ∧ Below w.heap.size w w' := by
 obtain ⟨W0, hW0⟩ : ∃ W0, w.alloc (.cells #[.int .i64 a, .int .i64 b, .int .i64 s] 96) = W0 := ⟨_, rfl⟩
 have hB0 : Below w.heap.size w W0 := by rw [← hW0]; exact below_alloc (Below.refl _ _) _
 have hk : W0.heap[w.heap.size]? = some (.cells #[.int .i64 a, .int .i64 b, .int .i64 s] 96) := by rw [← hW0]; exact blk_new w _
 have x1 := (hB0.cell (p := ⟨bB, 0, none⟩) l1).trans h1
 have x2 := (hB0.cell (p := ⟨cB, 0, none⟩) l2).trans h2
 have HB0 := az hB0
 have HP := az hp
 have y0 := (blk_cell hk 0).trans (show _ = some (Value.int .i64 a) from rfl)
 have y1 := (blk_cell hk 1).trans (show _ = some (Value.int .i64 b) from rfl)
 have y2 := (blk_cell hk 2).trans (show _ = some (Value.int .i64 s) from rfl)
 have hu := Tryz.underlying96
 have lb0 : bB < W0.heap.size := Nat.lt_of_lt_of_le l1 hB0.size
 clear hB0 hk h1 h2 l1 l2 hp
 go_enter Tryz.func102, Tryz.ntmps102
 go_upto_region 1 with fail
 clear hW0
 go_region_with (go_at_fn f; refine (HP.out _ (by first | exact HB0.out | exact pw_below_drewN HB0.out _ | exact below_drew1 HB0.out)).mono ?_; rintro e w' ⟨rfl, hb⟩; have HX := az (below_then HB0.out HB0.out.size (below_then (by first | exact Below.refl _ _ | exact pw_below_drewN (Below.refl _ _) _ | exact below_drew1 (Below.refl _ _)) (by first | exact Nat.le_refl _ | simp) hb)); have z1 := ((below_then (B := W0.heap.size) (by first | exact Below.refl _ _ | exact pw_below_drewN (Below.refl _ _) _ | exact below_drew1 (Below.refl _ _)) (by first | exact Nat.le_refl _ | simp) hb).cell (p := ⟨bB, 0, none⟩) lb0).trans x1; clear hb)
 all_goals
  go_wp2
  go_ret2
  exact ⟨rfl, by repeat (first | (with_reducible first | exact HX.out | apply pw_below_drewN | apply below_drew1) | exact HX.out)⟩
def RuleAt (W : World) (v : Value) (i : Nat) : Prop := ∃ (bB cB f : Nat) (lb : Array Value), v = .func (.func 102) #[] #[.pointer (some ⟨bB, 0, none⟩), .pointer (some ⟨cB, 0, none⟩)] ∧ bB < W.heap.size ∧ cB < W.heap.size ∧ W.cell? ⟨bB, 0, none⟩ = some (.int .i64 (ansV i)) ∧ W.cell? ⟨cB, 0, none⟩ = some (.func (.func f) #[] lb) ∧ (∀ args w, (callFunc f args).run Tryz.prog w = .ok (.enter f args) w) ∧ ∀ (a b s : Int) (W' : World), Below W.heap.size W W' → Calls Tryz.prog f (#[.agg #[.int .i64 a, .int .i64 b, .int .i64 s]] ++ lb) W' fun e w' => e = .returned (.bool (isV a b s i)) ∧ Below W'.heap.size W' w'
theorem RuleAt.below {W W' : World} {v : Value} {i : Nat} (h : RuleAt W v i) (hb : Below W.heap.size W W') : RuleAt W' v i := by
 obtain ⟨bB, cB, f, lb, h0, h1, h2, h3, h4, h5, h6⟩ := h
 exact ⟨bB, cB, f, lb, h0, Nat.lt_of_lt_of_le h1 hb.size, Nat.lt_of_lt_of_le h2 hb.size, (hb.cell (p := ⟨bB, 0, none⟩) h1).trans h3, (hb.cell (p := ⟨cB, 0, none⟩) h2).trans h4, h5, fun a b s X hX => h6 a b s X (below_then hb hb.size hX)⟩
theorem RuleAt.of {W : World} {v : Value} {i f : Nat} {lb : Array Value} (h : RC W v (ansV i) (.func (.func f) #[] lb)) (eg : ∀ args w, (callFunc f args).run Tryz.prog w = .ok (.enter f args) w) (hp : ∀ (a b s : Int) (W' : World), Below W.heap.size W W' → Calls Tryz.prog f (#[.agg #[.int .i64 a, .int .i64 b, .int .i64 s]] ++ lb) W' fun e w' => e = .returned (.bool (isV a b s i)) ∧ Below W'.heap.size W' w') : RuleAt W v i := by
 obtain ⟨bB, cB, h0, h1, h2, h3, h4⟩ := h
 exact ⟨bB, cB, f, lb, h0, h1, h2, h3, h4, eg, hp⟩
theorem rule_calls {W : World} {v : Value} {i : Nat} (h : RuleAt W v i) (a b s : Int) : ∃ lb, v = .func (.func 102) #[] lb ∧ Calls Tryz.prog 102 (#[.agg #[.int .i64 a, .int .i64 b, .int .i64 s]] ++ lb) W fun e w' => e = .returned (.tuple #[.int .i64 (ansV i), .bool (isV a b s i)]) ∧ Below W.heap.size W w' := by
 obtain ⟨bB, cB, f, lb, h0, h1, h2, h3, h4, h5, h6⟩ := h
 exact ⟨_, h0, when2_calls f lb h5 a b s _ _ bB cB W h3 h4 h1 h2 (fun X hX => h6 a b s X hX)⟩
def RulesAt (W : World) (g : Nat) : Prop := g < W.heap.size ∧ ∀ i, i < 10 → ∃ v, W.cell? ⟨g, i, none⟩ = some v ∧ RuleAt W v i
theorem RulesAt.below {W W' : World} {g : Nat} (h : RulesAt W g) (hb : Below W.heap.size W W') : RulesAt W' g := by
 refine ⟨Nat.lt_of_lt_of_le h.1 hb.size, fun i hi => ?_⟩
 obtain ⟨v, h1, h2⟩ := h.2 i hi
 exact ⟨v, (hb.cell (p := ⟨g, i, none⟩) h.1).trans h1, h2.below hb⟩
def AllR (W : World) (n : Nat) (vs : List Value) : Prop := ∀ i v, i < n → vs[n - 1 - i]? = some v → RuleAt W v i
theorem AllR.more {W W' : World} {n : Nat} {vs : List Value} (h : AllR W n vs) (hb : Below W.heap.size W W') {v : Value} (hv : RuleAt W' v n) : AllR W' (n + 1) (v :: vs) := by
 intro i u hi hu
 by_cases e : i = n
 ·
  subst e
  rw [show i + 1 - 1 - i = 0 by omega, List.getElem?_cons_zero] at hu
  obtain rfl := Option.some.inj hu
  exact hv
 ·
  rw [show n + 1 - 1 - i = (n - 1 - i) + 1 by omega, List.getElem?_cons_succ] at hu
  exact (h i u (by omega) hu).below hb
theorem eg_of (f : Nat) {fn : Func} (hf : Tryz.prog.funcs[f]? = some fn) (hname : (fn.name == "runtime.NumGoroutine") = false) (hb : fn.body.isSome = true) : ∀ args w, (callFunc f args).run Tryz.prog w = .ok (.enter f args) w := fun args w => enters_ hf hname hb args w
theorem rules_end {W : World} {v0 v1 v2 v3 v4 v5 v6 v7 v8 v9 : Value} (h : AllR W 10 [v9, v8, v7, v6, v5, v4, v3, v2, v1, v0]) : RulesAt (W.alloc (.cells #[v0, v1, v2, v3, v4, v5, v6, v7, v8, v9] 94)) W.heap.size := by
 refine ⟨by simp, fun i hi => ?_⟩
 have hn := blk_cell (blk_new W (.cells #[v0, v1, v2, v3, v4, v5, v6, v7, v8, v9] 94)) i
 have hb : Below W.heap.size W (W.alloc (.cells #[v0, v1, v2, v3, v4, v5, v6, v7, v8, v9] 94)) := below_alloc (Below.refl _ _) _
 match i, hi with
 | 0, _ => exact ⟨v0, hn.trans rfl, (h 0 v0 (by decide) rfl).below hb⟩
 | 1, _ => exact ⟨v1, hn.trans rfl, (h 1 v1 (by decide) rfl).below hb⟩
 | 2, _ => exact ⟨v2, hn.trans rfl, (h 2 v2 (by decide) rfl).below hb⟩
 | 3, _ => exact ⟨v3, hn.trans rfl, (h 3 v3 (by decide) rfl).below hb⟩
 | 4, _ => exact ⟨v4, hn.trans rfl, (h 4 v4 (by decide) rfl).below hb⟩
 | 5, _ => exact ⟨v5, hn.trans rfl, (h 5 v5 (by decide) rfl).below hb⟩
 | 6, _ => exact ⟨v6, hn.trans rfl, (h 6 v6 (by decide) rfl).below hb⟩
 | 7, _ => exact ⟨v7, hn.trans rfl, (h 7 v7 (by decide) rfl).below hb⟩
 | 8, _ => exact ⟨v8, hn.trans rfl, (h 8 v8 (by decide) rfl).below hb⟩
 | 9, _ => exact ⟨v9, hn.trans rfl, (h 9 v9 (by decide) rfl).below hb⟩
theorem rat0 {W : World} {v : Value} (h : RC W v 2 (.func (.func 105) #[] #[])) : RuleAt W v 0 := RuleAt.of (i := 0) h (eg_of _ Tryz.func105 (by kernel_rfl) rfl) (fun a b s X hX => rule0_calls a b s X)
theorem rat1 {W : World} {v : Value} (h : RC W v 0 (.func (.func 106) #[] #[])) : RuleAt W v 1 := RuleAt.of (i := 1) h (eg_of _ Tryz.func106 (by kernel_rfl) rfl) (fun a b s X hX => rule1_calls a b s X)
theorem rat2 {W : World} {v : Value} (h : RC W v 1 (.func (.func 107) #[] #[])) : RuleAt W v 2 := RuleAt.of (i := 2) h (eg_of _ Tryz.func107 (by kernel_rfl) rfl) (fun a b s X hX => rule2_calls a b s X)
theorem rat3 {W : World} {v : Value} (h : RC W v 0 (.func (.func 108) #[] #[])) : RuleAt W v 3 := RuleAt.of (i := 3) h (eg_of _ Tryz.func108 (by kernel_rfl) rfl) (fun a b s X hX => rule3_calls a b s X)
theorem rat4 {W : World} {v : Value} (h : RC W v 0 (.func (.func 109) #[] #[])) : RuleAt W v 4 := RuleAt.of (i := 4) h (eg_of _ Tryz.func109 (by kernel_rfl) rfl) (fun a b s X hX => rule4_calls a b s X)
theorem rat5 {W : World} {v : Value} (h : RC W v 0 (.func (.func 110) #[] #[])) : RuleAt W v 5 := RuleAt.of (i := 5) h (eg_of _ Tryz.func110 (by kernel_rfl) rfl) (fun a b s X hX => rule5_calls a b s X)
theorem rat6 {W : World} {v : Value} (h : RC W v 1 (.func (.func 111) #[] #[])) : RuleAt W v 6 := RuleAt.of (i := 6) h (eg_of _ Tryz.func111 (by kernel_rfl) rfl) (fun a b s X hX => rule6_calls a b s X)
theorem rat7 {W : World} {v : Value} (h : RC W v 0 (.func (.func 112) #[] #[])) : RuleAt W v 7 := RuleAt.of (i := 7) h (eg_of _ Tryz.func112 (by kernel_rfl) rfl) (fun a b s X hX => rule7_calls a b s X)
theorem rat8 {W : World} {v : Value} (d : Nat) (hl : d < W.heap.size) (hd : W.cell? ⟨d, 0, none⟩ = some (.func (.func 103) #[] #[])) (h : RC W v 0 (.func (.func 113) #[] #[.pointer (some ⟨d, 0, none⟩)])) : RuleAt W v 8 := RuleAt.of (i := 8) h (eg_of _ Tryz.func113 (by kernel_rfl) rfl) (fun a b s X hX => rule8_calls a b s d X ((hX.cell (p := ⟨d, 0, none⟩) hl).trans hd) (Nat.lt_of_lt_of_le hl hX.size))
theorem rat9 {W : World} {v : Value} (h : RC W v 1 (.func (.func 114) #[] #[])) : RuleAt W v 9 := RuleAt.of (i := 9) h (eg_of _ Tryz.func114 (by kernel_rfl) rfl) (fun a b s X hX => rule9_calls a b s X)
theorem run_store_funcR {P : Program} {w : World} {a : Addr} {m : Mode} (fn : Fn) (first captured : Array Value) : (store a (.func fn first captured) m).run P w = stored P w a (.func fn first captured) m := run_store P w a _ m rfl
attribute [local go_sem] run_store_funcR
theorem rules_calls (w : World) : Calls Tryz.prog 80 #[] w fun e w' => ∃ g, e = .returned (.slice (some ⟨g, 0, none⟩) 10 10) ∧ RulesAt w' g ∧ Below w.heap.size w w' := by
 obtain ⟨W0, hW0⟩ : ∃ W0, (w.alloc (.cells #[Value.nilFunc] 73)).setCell ⟨w.heap.size, 0, none⟩ (.func (.func 103) #[] #[]) = W0 := ⟨_, rfl⟩
 have hB0 : Below w.heap.size w W0 := by rw [← hW0]; exact (below_alloc (Below.refl _ _) _).setCell (p := ⟨w.heap.size, 0, none⟩) (Nat.le_refl _) _
 have hd : W0.cell? ⟨w.heap.size, 0, none⟩ = some (.func (.func 103) #[] #[]) := by rw [← hW0]; exact (blk_cell (blk_set (blk_new w _) 0 _) 0).trans rfl
 have lt0 : w.heap.size < W0.heap.size := by rw [← hW0]; simp [World.setCell]
 have HD := az hd
 have HB0 := az hB0
 have HB := az (Below.refl W0.heap.size W0)
 have HA : Aside0 (AllR W0 0 []) := ⟨fun i v hi => absurd hi (Nat.not_lt_zero _)⟩
 clear hd hB0
 go_enter Tryz.func80, Tryz.ntmps80
 go_upto_region 3 with fail
 clear hW0
 go_wp2_with (go_at_call 101; first
  | ((with_reducible refine (when_calls 2 (.func 105) #[] _).mono ?_); go_must (rintro e w1 ⟨v0, rfl, hrc, hb⟩; have n1 := az (below_step HB.out hb); clear HB; have n0 := az (HA.out.more hb (rat0 hrc)); have HB := n1; clear n1; clear HA hrc hb; have HA := n0; clear n0))
  | ((with_reducible refine (when_calls 0 (.func 106) #[] _).mono ?_); go_must (rintro e w2 ⟨v1, rfl, hrc, hb⟩; have n1 := az (below_step HB.out hb); clear HB; have n0 := az (HA.out.more hb (rat1 hrc)); have HB := n1; clear n1; clear HA hrc hb; have HA := n0; clear n0))
  | ((with_reducible refine (when_calls 1 (.func 107) #[] _).mono ?_); go_must (rintro e w3 ⟨v2, rfl, hrc, hb⟩; have n1 := az (below_step HB.out hb); clear HB; have n0 := az (HA.out.more hb (rat2 hrc)); have HB := n1; clear n1; clear HA hrc hb; have HA := n0; clear n0))
  | ((with_reducible refine (when_calls 0 (.func 108) #[] _).mono ?_); go_must (rintro e w4 ⟨v3, rfl, hrc, hb⟩; have n1 := az (below_step HB.out hb); clear HB; have n0 := az (HA.out.more hb (rat3 hrc)); have HB := n1; clear n1; clear HA hrc hb; have HA := n0; clear n0))
  | ((with_reducible refine (when_calls 0 (.func 109) #[] _).mono ?_); go_must (rintro e w5 ⟨v4, rfl, hrc, hb⟩; have n1 := az (below_step HB.out hb); clear HB; have n0 := az (HA.out.more hb (rat4 hrc)); have HB := n1; clear n1; clear HA hrc hb; have HA := n0; clear n0))
  | ((with_reducible refine (when_calls 0 (.func 110) #[] _).mono ?_); go_must (rintro e w6 ⟨v5, rfl, hrc, hb⟩; have n1 := az (below_step HB.out hb); clear HB; have n0 := az (HA.out.more hb (rat5 hrc)); have HB := n1; clear n1; clear HA hrc hb; have HA := n0; clear n0))
  | ((with_reducible refine (when_calls 1 (.func 111) #[] _).mono ?_); go_must (rintro e w7 ⟨v6, rfl, hrc, hb⟩; have n1 := az (below_step HB.out hb); clear HB; have n0 := az (HA.out.more hb (rat6 hrc)); have HB := n1; clear n1; clear HA hrc hb; have HA := n0; clear n0))
  | ((with_reducible refine (when_calls 0 (.func 112) #[] _).mono ?_); go_must (rintro e w8 ⟨v7, rfl, hrc, hb⟩; have n1 := az (below_step HB.out hb); clear HB; have n0 := az (HA.out.more hb (rat7 hrc)); have HB := n1; clear n1; clear HA hrc hb; have HA := n0; clear n0))
  | ((with_reducible refine (when_calls 0 (.func 113) #[.pointer (some ⟨w.heap.size, 0, none⟩)] _).mono ?_); go_must (rintro e w9 ⟨v8, rfl, hrc, hb⟩; have n1 := az (below_step HB.out hb); clear HB; have n0 := az (HA.out.more hb (rat8 w.heap.size (Nat.lt_of_lt_of_le lt0 n1.out.size) ((n1.out.cell (p := ⟨w.heap.size, 0, none⟩) lt0).trans HD.out) hrc)); have HB := n1; clear n1; clear HA hrc hb; have HA := n0; clear n0))
  | ((with_reducible refine (when_calls 1 (.func 114) #[] _).mono ?_); go_must (rintro e w10 ⟨v9, rfl, hrc, hb⟩; have n1 := az (below_step HB.out hb); clear HB; have n0 := az (HA.out.more hb (rat9 hrc)); have HB := n1; clear n1; clear HA hrc hb; have HA := n0; clear n0)))
 go_ret
 exact ⟨_, rfl, rules_end HA.out, below_alloc (below_then HB0.out HB0.out.size HB.out) _⟩
def placeR (a b s : Int) : Nat → Nat → Int
 | 0, _ => 1
 | g + 1, i => if isV a b s i = true then ansV i else placeR a b s g (i + 1)
def placeV (a b s : Int) : Int := placeR a b s 10 0
def brX (k : Nat) (l0 cs : List Int) (js : List Bool) (i : Nat) (s : Int) : Option Int :=
 if i + 1 = l0.length then some 2 else if js.getD (i + 1) false = true then some 0 else (impl_RuneLine.f k (l0.getD (i + 1) 0)).bind fun t => (impl_afterSpace.f k (cs.getD i 0)).bind fun u => some (if t = 7 ∧ u = false then 0 else placeV (cs.getD i 0) (cs.getD (i + 1) 0) s)
def brL (k : Nat) (l0 cs : List Int) (js : List Bool) : Nat → Nat → Int → List Int → Option (List Int)
 | 0, _, _, out => some out
 | g + 1, i, s, out => (brX k l0 cs js i (if cs.getD i 0 = 3 then s else cs.getD i 0)).bind fun x => brL k l0 cs js g (i + 1) (if cs.getD i 0 = 3 then s else cs.getD i 0) (out ++ [x])
def impl_breaks.f (k : Nat) (l0 : List Int) : Option (List Int) := (impl_countsOf.f k l0).bind fun cs => (impl_joined.f k l0).bind fun js => if cs.length = l0.length ∧ js.length = l0.length ∧ l0.length ≤ 1000 then brL k l0 cs js l0.length 0 0 [] else none
theorem brX_mono (k : Nat) (l0 cs : List Int) (js : List Bool) (i : Nat) (s : Int) : LeO (brX k l0 cs js i s) (brX (k + 1) l0 cs js i s) := by
 unfold brX
 exact LeO.ite (LeO.refl _) (LeO.ite (LeO.refl _) (LeO.bind (impl_RuneLine.mono _ _) (fun t => LeO.bind (impl_afterSpace.mono _ _) (fun u => LeO.refl _))))
theorem brL_mono (k : Nat) (l0 cs : List Int) (js : List Bool) : ∀ (g i : Nat) (s : Int) (out : List Int), LeO (brL k l0 cs js g i s out) (brL (k + 1) l0 cs js g i s out)
 | 0, _, _, _ => LeO.refl _
 | g + 1, i, s, out => by
  simp only [brL]
  exact LeO.bind (brX_mono _ _ _ _ _ _) (fun x => brL_mono k l0 cs js g _ _ _)
theorem impl_breaks.mono : ∀ a0 k, LeO (impl_breaks.f k a0) (impl_breaks.f (k + 1) a0) := by
 intro a0 k
 unfold impl_breaks.f
 exact LeO.bind (impl_countsOf.mono _ _) (fun cs => LeO.bind (impl_joined.mono _ _) (fun js => LeO.ite (brL_mono _ _ _ _ _ _ _ _) (LeO.refl _)))
theorem below_of {w w' : World} (h : Below w.heap.size w w') : Below w.heap.size w w' := h
theorem place_at {a b s : Int} : ∀ (g q : Nat), isV a b s q = true → placeR a b s (g + 1) q = ansV q := fun g q h => by rw [placeR, if_pos h]
theorem place_on {a b s : Int} : ∀ (g q : Nat), isV a b s q = false → placeR a b s (g + 1) q = placeR a b s g (q + 1) := fun g q h => by rw [placeR, if_neg (by rw [h]; decide)]
theorem impl_breaks.calls (k : Nat) (A0 : Option Addr) (c0 : Nat) (l0 : List Int) (r : List Int) (w : World) (hr0 : Kd.C (Kd.int .i64) w A0 l0.length l0) (hc0 : l0.length ≤ c0) (h : impl_breaks.f k l0 = some r) :
  Calls Tryz.prog 49 #[.slice A0 l0.length c0] w fun e w' => ∃ v0_ : Value, e = .returned (v0_) ∧ Kd.R (Kd.int .i64) 3 w' w.heap.size (fun _ => True) v0_ r ∧ Below w.heap.size w w' := by
 have HR := az hr0
 have HC := az hc0
 clear hr0 hc0
 unfold impl_breaks.f at h
 replace h := Option.bind_eq_some_iff.mp h
 obtain ⟨cs, hcs, h⟩ := h
 replace h := Option.bind_eq_some_iff.mp h
 obtain ⟨js, hjs, h⟩ := h
 by_cases hl : cs.length = l0.length ∧ js.length = l0.length ∧ l0.length ≤ 1000
 case neg => rw [if_neg hl] at h; cases h
 case pos =>
 rw [if_pos hl] at h
 have HL := az hl
 have HCS := az hcs
 have HJS := az hjs
 have HF := az h
 clear hcs hjs h hl
 go_enter Tryz.func49, Tryz.ntmps49
 go_upto_region 4 with (first
  | (go_at_call 78; go_must (refine (impl_countsOf.calls k A0 c0 l0 cs _ HR.out HC.out HCS.out).mono ?_); rintro e w1 ⟨v1, rfl, ho1, hb1⟩; obtain ⟨A1, c1, e1⟩ := Kd.R_slice ho1; subst e1; have HO1 := az ho1; have HB1 := az hb1; clear ho1 hb1)
  | (go_at_call 79; go_must (refine (impl_joined.calls k A0 c0 l0 js _ (Kd.C_below HR.out HB1.out) HC.out HJS.out).mono ?_); rintro e w2 ⟨v2, rfl, ho2, hb2⟩; obtain ⟨A2, c2, e2⟩ := Kd.R_slice ho2; subst e2; have HO2 := az ho2; have HB2 := az (below_then HB1.out HB1.out.size hb2); have HC1 := az (Kd.C_below (Kd.R_reads' HO1.out).2.2 hb2); clear ho2 hb2)
  | (go_at_call 80; go_must (refine (rules_calls _).mono ?_); rintro e w3 ⟨g, rfl, hru, hb3⟩; have HRU := az hru; have HB3 := az (below_then HB2.out HB2.out.size hb3); have HCC := az (Kd.C_below HC1.out hb3); have HJJ := az (Kd.C_below (Kd.R_reads' HO2.out).2.2 hb3); clear hru hb3))
 have HR3 := az (Kd.C_below HR.out HB3.out)
 clear HO1 HO2 HB1 HB2 HC1
 go_wp2
 go_loopg [6, 7, 21] cs.length (fun gg s6 s7 s21 wr => ∃ (i : Nat) (s : Int) (out : List Int), s21 = .int .i64 i ∧ s7 = .int .i64 s ∧ i ≤ cs.length ∧ cs.length - i ≤ gg ∧ Aside0 (brL k l0 cs js (cs.length - i) i s out = some r) ∧ Aside0 (out.length = i) ∧ Aside0 (Kd.R (Kd.int .i64) 3 wr w3.heap.size (fun _ => True) s6 out) ∧ Aside0 (Below w3.heap.size w3 wr))
 case atStart => exact ⟨0, 0, [], rfl, rfl, Nat.zero_le _, by omega, ⟨by rw [Nat.sub_zero, HL.out.1]; exact HF.out⟩, ⟨rfl⟩, ⟨Kd.R_nil _ _ _ _ _⟩, ⟨Below.refl _ _⟩⟩
 case round =>
  clear HF
  obtain ⟨i, s, out, rfl, rfl, hi, hg, HF, HLO, HO, HB⟩ := hrel
  by_cases hlt : i < cs.length
  ·
   have hltz : (i : Int) < (cs.length : Int) := by omega
   have hn9 : cs.length ≤ 1000 := by have := HL.out; omega
   have hf := HF.out
   rw [show cs.length - i = (cs.length - (i + 1)) + 1 by omega, brL] at hf
   replace hf := Option.bind_eq_some_iff.mp hf
   obtain ⟨x, hx, hf⟩ := hf
   obtain ⟨a, ha⟩ : ∃ a, cs.getD i 0 = a := ⟨_, rfl⟩
   rw [ha] at hx hf
   obtain ⟨s2, hs2⟩ : ∃ s2, (if a = 3 then s else a) = s2 := ⟨_, rfl⟩
   rw [hs2] at hx hf
   have HX := az hx
   have HFF := az hf
   have HAA := az ha
   obtain ⟨ad, hA1, hxa⟩ := Kd.at_int (Kd.C_below HCC.out (below_of HB.out)) (i : Int) (by omega) hltz
   subst hA1
   simp only [rd, Int.toNat_natCast] at hxa
   rw [ha] at hxa
   clear hx hf HF ha
   go_upto_if 27 with fail
   have HS2 := az hs2
   clear hs2
   go_cut [7] from 22 to 83 (fun v7 wc => v7 = .int .i64 s2 ∧ wc = wr)
   case first =>
    by_cases h3 : a = 3
    ·
     have b3 : (a != 3) = false := bne_eq_false_iff_eq.mpr h3
     obtain rfl : s = s2 := by rw [← HS2.out, if_pos h3]
     go_wp2
     go_meet
     exact ⟨rfl, rfl⟩
    ·
     have b3 : (a != 3) = true := bne_iff_ne.mpr h3
     obtain rfl : a = s2 := by rw [← HS2.out, if_neg h3]
     go_wp2
     go_meet
     exact ⟨rfl, rfl⟩
   case rest =>
   obtain ⟨rfl, hwc⟩ := hcut
   subst hwc
   have hxx := HX.out
   unfold brX at hxx
   by_cases hlast : i + 1 = l0.length
   ·
    rw [if_pos hlast] at hxx
    have HXE := az (Option.some.inj hxx).symm
    clear hxx
    have hw1 : wrap64 ((l0.length : Int) - 1) = (i : Int) := by unfold wrap64; omega
    have hw2 : IntKind.i64.wrap ((l0.length : Int) - 1) = (i : Int) := by rw [i64_w]; exact hw1
    have hd : decide ((i : Int) = (i : Int)) = true := by simp
    clear hlast
    go_wp2_with (first | ((with_reducible refine gate_builtin (b := .append) (xs := #[.tmp 34, .tmp 35]) rfl ?_); at_builtin; go_must (refine appI (w0 := w3) (base := w3.heap.size) Tryz.underlying22 info3 rfl (.tmp 34) (.tmp 35) rfl _ out 2 rfl rfl HO.out HB.out HB.out.size ?aL ?_); (case aL => have := HLO.out; omega); intro v9 w9 ho9 hb9 hg9 hat9; have HO9 := az ho9; have HB9 := az hb9; clear ho9 hb9 hg9 hat9))
    go_roundg (cs.length - (i + 1))
    case measure => omega
    case rel => exact ⟨i + 1, s2, _, by go_num, rfl, by omega, Nat.le_refl _, ⟨HFF.out⟩, ⟨by rw [List.length_append, HLO.out]; rfl⟩, ⟨by have := HXE.out; rw [this]; exact HO9.out⟩, HB9⟩
   ·
    rw [if_neg hlast] at hxx
    have hw1 : wrap64 ((l0.length : Int) - 1) = (l0.length : Int) - 1 := by have := HL.out; unfold wrap64; omega
    have hw2 : IntKind.i64.wrap ((l0.length : Int) - 1) = (l0.length : Int) - 1 := by rw [i64_w]; exact hw1
    have hne : ((i : Int) == (l0.length : Int) - 1) = false := beq_eq_false_iff_ne.mpr (by omega)
    obtain ⟨m, hm⟩ : ∃ m : Nat, m = i + 1 := ⟨_, rfl⟩
    rw [← hm] at hxx
    have hw3 : wrap64 ((i : Int) + 1) = (m : Int) := by unfold wrap64; omega
    have hw4 : IntKind.i64.wrap ((i : Int) + 1) = (m : Int) := by rw [i64_w]; exact hw3
    have hi1 : (m : Int) < (js.length : Int) := by have := HL.out; omega
    have hi2 : (m : Int) < (l0.length : Int) := by have := HL.out; omega
    have hi3 : (m : Int) < (cs.length : Int) := by have := HL.out; omega
    have HM := az hm
    clear hm
    obtain ⟨ad2, hA2, hxj⟩ := Kd.at_bool (Kd.C_below HJJ.out HB.out) (m : Int) (by omega) hi1
    subst hA2
    obtain ⟨ad0, hA0, hxr⟩ := Kd.at_int (Kd.C_below HR3.out HB.out) (m : Int) (by omega) hi2
    subst hA0
    simp only [rd, rdOf, Int.toNat_natCast] at hxj hxr
    obtain ⟨j, hj⟩ : ∃ j, js.getD m false = j := ⟨_, rfl⟩
    obtain ⟨ru, hru⟩ : ∃ ru, l0.getD m 0 = ru := ⟨_, rfl⟩
    rw [hj] at hxj hxx
    rw [hru] at hxr hxx
    clear hj hru hlast
    cases j
    ·
     rw [if_neg (by decide)] at hxx
     replace hxx := Option.bind_eq_some_iff.mp hxx
     obtain ⟨tl, htl, hxx⟩ := hxx
     replace hxx := Option.bind_eq_some_iff.mp hxx
     obtain ⟨uu, huu, hxx⟩ := hxx
     rw [HAA.out] at huu hxx
     have HTL := az htl
     have HUU := az huu
     have HXE := az (Option.some.inj hxx).symm
     clear htl huu hxx
     obtain ⟨ad1, hA1, hxb⟩ := Kd.at_int (Kd.C_below HCC.out HB.out) (m : Int) (by omega) hi3
     simp only [rd, Int.toNat_natCast] at hxb
     obtain ⟨bb, hbb⟩ : ∃ bb, cs.getD m 0 = bb := ⟨_, rfl⟩
     rw [hbb] at hxb
     have HBB := az hbb
     obtain rfl : ad = ad1 := by injection hA1
     clear hA1 hbb
     have HXB := az hxb
     clear hxb
     have HXE2 := az (show x = (if tl = 7 ∧ uu = false then 0 else placeV a bb s2) by rw [HXE.out, HM.out, ← HBB.out, HM.out])
     clear HXE
     go_upto_region 11 with fail
     go_cut [55] from 22 to 83 (fun v55 wd => v55 = .bool (decide (tl = 7) && !uu) ∧ Aside0 (Below wc.heap.size wc wd))
     case first =>
      by_cases h7 : tl = 7
      ·
       have b7 : (tl == 7) = true := beq_iff_eq.mpr h7
       have d7 : decide (tl = 7) = true := decide_eq_true h7
       clear h7
       go_wp2_with (first
        | (go_at_call 81; go_must (refine (impl_RuneLine.calls k ru tl _ HTL.out).mono ?_); rintro e w4 ⟨rfl, hb4⟩; have HB4 := az hb4; clear hb4)
        | (go_at_call 82; go_must (refine (impl_afterSpace.calls k a uu _ HUU.out).mono ?_); rintro e w5 ⟨rfl, hb5⟩; have HB5 := az hb5; clear hb5))
       go_meet
       exact ⟨by rw [d7]; first | done | rfl, ⟨below_then HB4.out HB4.out.size HB5.out⟩⟩
      ·
       have b7 : (tl == 7) = false := beq_eq_false_iff_ne.mpr h7
       have d7 : decide (tl = 7) = false := decide_eq_false h7
       clear h7
       go_wp2_with (first
        | (go_at_call 81; go_must (refine (impl_RuneLine.calls k ru tl _ HTL.out).mono ?_); rintro e w4 ⟨rfl, hb4⟩; have HB4 := az hb4; clear hb4))
       go_meet
       exact ⟨by rw [d7]; first | done | rfl, HB4⟩
     case rest =>
     obtain ⟨rfl, HBD⟩ := hcut
     have HO2 := az (Kd.R_below HO.out HBD.out)
     have HB2 := az (below_then HB.out HB.out.size HBD.out)
     have HL9 := az hlt
     cases vd : (decide (tl = 7) && !uu)
     case true =>
      have HXE3 := az (show x = 0 by rw [HXE2.out, if_pos (by simpa using vd)])
      go_wp2_with (first | ((with_reducible refine gate_builtin (b := .append) (xs := #[.tmp 56, .tmp 57]) rfl ?_); at_builtin; go_must (refine appI (w0 := w3) (base := w3.heap.size) Tryz.underlying22 info3 rfl (.tmp 56) (.tmp 57) rfl _ out 0 rfl rfl HO2.out HB2.out HB2.out.size ?aL ?_); (case aL => have := HLO.out; omega); intro v9 w9 ho9 hb9 hg9 hat9; have HO9 := az ho9; have HB9 := az hb9; clear ho9 hb9 hg9 hat9))
      go_roundg (cs.length - (i + 1))
      case measure => omega
      case rel => exact ⟨m, s2, _, by first | rfl | go_num, rfl, zE HM.out, zE HM.out, ⟨by rw [HM.out]; exact HFF.out⟩, ⟨by rw [List.length_append, HLO.out, HM.out]; rfl⟩, ⟨by have := HXE3.out; rw [this]; exact HO9.out⟩, HB9⟩
     case false =>
     have HXE4 := az (show x = placeV a bb s2 by rw [HXE2.out, if_neg (by simpa using vd)])
     go_wp2
     go_loopg [6, 61] 10 (fun gq s6 s61 wq => ∃ q : Nat, s61 = .int .i64 q ∧ q < 10 ∧ 10 - q ≤ gq ∧ Aside0 (placeV a bb s2 = placeR a bb s2 (10 - q) q) ∧ Aside0 (Below wc.heap.size wc wq) ∧ Aside0 (Kd.R (Kd.int .i64) 3 wq w3.heap.size (fun _ => True) s6 out))
     case atStart => exact ⟨0, rfl, by decide, by decide, ⟨rfl⟩, ⟨Below.refl _ _⟩, HO2⟩
     case round =>
      obtain ⟨q, rfl, hq, hgq, HP, HBq, HOq⟩ := hrel
      obtain ⟨vr, hvr, hra⟩ := ((HRU.out.below HB2.out).below HBq.out).2 q hq
      obtain ⟨lb, rfl, hcall⟩ := rule_calls hra a bb s2
      have HCALL := az hcall
      have hqz : (q : Int) < 10 := by omega
      have hq0 : (0 : Int) ≤ (q : Int) := by omega
      have hxb := ((HBq.out.cell (World.block_lt_of_cell? _ _ ((HBD.out.cell (World.block_lt_of_cell? _ _ HXB.out)).trans HXB.out))).trans ((HBD.out.cell (World.block_lt_of_cell? _ _ HXB.out)).trans HXB.out))
      clear hra hcall
      have eg := eg_of 102 Tryz.func102 (by kernel_rfl) rfl
      have hu := Tryz.underlying96
      cases hv : isV a bb s2 q
      case true =>
       have HXE5 := az (show x = ansV q by rw [HXE4.out, HP.out, show 10 - q = (10 - (q + 1)) + 1 by omega, place_at _ _ hv])
       rw [hv] at HCALL
       go_wp2_with (first | (go_at_call 102; go_must (refine (HCALL.out).mono ?_); rintro e w6 ⟨rfl, hb6⟩; have HB6 := az (below_then HBq.out HBq.out.size hb6); have HO6 := az (Kd.R_below HOq.out hb6); have HB7 := az (below_then (below_then HB2.out HB2.out.size HBq.out) (below_then HB2.out HB2.out.size HBq.out).size hb6); clear hb6) | ((with_reducible refine gate_builtin (b := .append) (xs := #[.tmp 79, .tmp 81]) rfl ?_); at_builtin; go_must (refine appI (w0 := w3) (base := w3.heap.size) Tryz.underlying22 info3 rfl (.tmp 79) (.tmp 81) rfl _ out (ansV q) rfl rfl HO6.out HB7.out HB7.out.size ?aL ?_); (case aL => have := HLO.out; omega); intro v9 w9 ho9 hb9 hg9 hat9; have HO9 := az ho9; have HB9 := az hb9; clear ho9 hb9 hg9 hat9))
       go_roundg (cs.length - (i + 1))
       case measure => have := HL9.out; omega
       case rel => exact ⟨m, s2, _, by first | rfl | go_num, rfl, zE HM.out, zE HM.out, ⟨by rw [HM.out]; exact HFF.out⟩, ⟨by rw [List.length_append, HLO.out, HM.out]; rfl⟩, ⟨by have := HXE5.out; rw [this]; exact HO9.out⟩, HB9⟩
      case false =>
       have HP2 := az (show placeV a bb s2 = placeR a bb s2 (10 - (q + 1)) (q + 1) by rw [HP.out, show 10 - q = (10 - (q + 1)) + 1 by omega, place_on _ _ hv])
       have hq9 : q ≠ 9 := by rintro rfl; exact absurd hv (show ¬ (true = false) by decide)
       rw [hv] at HCALL
       go_wp2_with (first | (go_at_call 102; go_must (refine (HCALL.out).mono ?_); rintro e w6 ⟨rfl, hb6⟩; have HB6 := az (below_then HBq.out HBq.out.size hb6); have HO6 := az (Kd.R_below HOq.out hb6); have HB7 := az (below_then (below_then HB2.out HB2.out.size HBq.out) (below_then HB2.out HB2.out.size HBq.out).size hb6); clear hb6))
       go_roundg (10 - (q + 1))
       case measure => omega
       case rel => exact ⟨q + 1, by go_num, by omega, by omega, HP2, HB6, HO6⟩
    ·
     rw [if_pos rfl] at hxx
     have HXE := az (Option.some.inj hxx).symm
     clear hxx
     go_wp2_with (first | ((with_reducible refine gate_builtin (b := .append) (xs := #[.tmp 56, .tmp 57]) rfl ?_); at_builtin; go_must (refine appI (w0 := w3) (base := w3.heap.size) Tryz.underlying22 info3 rfl (.tmp 56) (.tmp 57) rfl _ out 0 rfl rfl HO.out HB.out HB.out.size ?aL ?_); (case aL => have := HLO.out; omega); intro v9 w9 ho9 hb9 hg9 hat9; have HO9 := az ho9; have HB9 := az hb9; clear ho9 hb9 hg9 hat9))
     go_roundg (cs.length - (i + 1))
     case measure => omega
     case rel => exact ⟨m, s2, _, by first | rfl | go_num, rfl, zE HM.out, zE HM.out, ⟨by rw [HM.out]; exact HFF.out⟩, ⟨by rw [List.length_append, HLO.out, HM.out]; rfl⟩, ⟨by have := HXE.out; rw [this]; exact HO9.out⟩, HB9⟩
  ·
   have hltz : ¬ (i : Int) < (cs.length : Int) := by omega
   obtain rfl : i = cs.length := by omega
   have hf := HF.out
   rw [Nat.sub_self, brL] at hf
   obtain rfl := Option.some.inj hf
   clear hf HF
   go_wp2
   go_ret
   exact ⟨_, rfl, Kd.R_lower HO.out HB3.out.size, below_then HB3.out HB3.out.size HB.out⟩
def impl_starts.l0 : Nat → List Int → List Bool → Int → Int → Option (List Int)
 | 0, _, _, _, _ => none
 | k + 1, x3, x7, x8, x9 => if x9 < x8 then (if 0 ≤ x9 then (if x9 < (x7.length : Int) then (if rdOf false x7 x9 = true then (impl_starts.l0 k x3 x7 x8 (wrap64 (x9 + 1))) else (if x3.length < 17592186044416 then (impl_starts.l0 k (x3 ++ [x9]) x7 x8 (wrap64 (x9 + 1))) else (none))) else (none)) else (none)) else (some x3)
def impl_starts.f (k : Nat) (l0 : List Int) : Option (List Int) := (impl_joined.f k l0).bind fun t329 => (impl_starts.l0 k ([] : List Int) t329 (t329.length : Int) 0)
theorem impl_starts.mono_l : ∀ k, (∀ y0 y1 y2 y3, LeO (impl_starts.l0 k y0 y1 y2 y3) (impl_starts.l0 (k + 1) y0 y1 y2 y3))
 | 0 => fun _ _ _ _ r h => by simp [impl_starts.l0] at h
 | k + 1 => by
  have ih0 := impl_starts.mono_l k
  ·
   intro y0 y1 y2 y3; unfold impl_starts.l0
   repeat' first
   | (with_reducible exact ih0 _ _ _ _)
   | (with_reducible exact impl_joined.mono _ _)
   | (with_reducible exact LeO.refl _)
   | (with_reducible exact LeO.none _)
   | (with_reducible refine LeO.ite ?_ ?_)
   | (with_reducible refine LeO.bind ?_ (fun _ => ?_))
   | exact ih0 _ _ _ _
   | exact impl_joined.mono _ _
   | exact LeO.none _
   | refine LeO.ite ?_ ?_
   | refine LeO.bind ?_ (fun _ => ?_)
theorem impl_starts.mono : ∀ a0 k, LeO (impl_starts.f k a0) (impl_starts.f (k + 1) a0) := by
 intro a0 k; have ih0 := impl_starts.mono_l k; unfold impl_starts.f
 repeat' first
   | (with_reducible exact ih0 _ _ _ _)
   | (with_reducible exact impl_joined.mono _ _)
   | (with_reducible exact LeO.refl _)
   | (with_reducible exact LeO.none _)
   | (with_reducible refine LeO.ite ?_ ?_)
   | (with_reducible refine LeO.bind ?_ (fun _ => ?_))
   | exact ih0 _ _ _ _
   | exact impl_joined.mono _ _
   | exact LeO.none _
   | refine LeO.ite ?_ ?_
   | refine LeO.bind ?_ (fun _ => ?_)
theorem impl_starts.calls (k : Nat) (A0 : Option Addr) (c0 : Nat) (l0 : List Int) (r : List Int) (w : World) (hr0 : Kd.C (Kd.int .i64) w A0 l0.length l0) (hc0 : l0.length ≤ c0) (h : impl_starts.f k l0 = some r) :
  Calls Tryz.prog 85 #[.slice A0 l0.length c0] w fun e w' => ∃ v0_ : Value, e = .returned (v0_) ∧ Kd.R (Kd.int .i64) 3 w' w.heap.size (fun _ => True) v0_ r ∧ Below w.heap.size w w' := by
 have HR0 := az hr0; have HC0 := az hc0; clear hr0 hc0; have HB := az (Below.refl w.heap.size w); have H : ((impl_joined.f k l0).bind fun t329 => (impl_starts.l0 k ([] : List Int) t329 (t329.length : Int) 0)) = some r := h; clear h; replace H := Option.bind_eq_some_iff.mp H; obtain ⟨t329, A20, H⟩ := H; replace H : (impl_starts.l0 k ([] : List Int) t329 (t329.length : Int) 0) = some r := H; have A2 := az A20; clear A20; have H' := az H; clear H; go_enter Tryz.func85, Tryz.ntmps85; go_wp2_with (first | ((with_reducible refine gate_callee (f := 79) rfl ?_); refine goesL_ (some 7) rfl rfl Tryz.func79 (by kernel_rfl) rfl #[.slice A0 l0.length c0] rfl zC ?_; (with_reducible refine (impl_joined.calls k _ _ l0 t329 _ ?side1 ?side2 A2.out).mono ?_); (case side1 => exact (zP HR0.out)); (case side2 => exact HC0.out); rintro e w3 ⟨v330, rfl, ho0, hb⟩; refine ⟨_, rfl, ?_⟩; have n0_ := az (Kd.R_lower ho0 (below_size (zA HB.out))); have n1_ := az (below_step (zA HB.out) hb); clear HB; have HO331 := n0_; have HB := n1_; clear n0_ n1_; (try clear hb); (try clear hb2); (try clear hk); (try clear hi); (try clear ho0); obtain ⟨Ao4, co4, eo4⟩ := Kd.R_slice HO331.out; subst eo4)); go_loopg [3, 9] k (fun kq v3 v9 w' => ∃ (x3_1 : List Int) (x9_1 : Int), v9 = .int .i64 x9_1 ∧ Aside0 (impl_starts.l0 kq x3_1 t329 (t329.length : Int) x9_1 = some r) ∧ Aside0 (kq ≤ k) ∧ Aside0 (Kd.R (Kd.int .i64) 3 w' w.heap.size (fun _ => True) v3 x3_1) ∧ Aside0 (Kd.R Kd.bool 4 w' w.heap.size (fun _ => True) (.slice Ao4 t329.length co4) t329) ∧ Aside0 (Below w.heap.size w w'))
 case atStart => exact ⟨(([] : List Int)), (0), zB, H', ⟨Nat.le_refl _⟩, ⟨zW⟩, ⟨zF HO331.out⟩, ⟨zA HB.out⟩⟩
 case round =>
  clear H'; (try clear p2); obtain ⟨x3_1, x9_1, rfl, HA, HK1, HO_3, HO_7, HB⟩ := hrel
  cases gk with
  | zero => exact absurd HA.out (by simp [impl_starts.l0])
  | succ k1 =>
   have H := HA.out; clear HA; simp only [impl_starts.l0] at H; by_cases c5 : x9_1 < (t329.length : Int)
   ·
    rw [if_pos c5] at H; have c5b0 : decide (x9_1 < (t329.length : Int)) = true := decide_eq_true c5; clear c5; by_cases c6 : 0 ≤ x9_1
    ·
     rw [if_pos c6] at H; have c6b0 : decide (0 ≤ x9_1) = true := decide_eq_true c6; clear c6; by_cases c7 : x9_1 < (t329.length : Int)
     ·
      rw [if_pos c7] at H; have c7b0 : decide (x9_1 < (t329.length : Int)) = true := decide_eq_true c7; clear c7; obtain ⟨bq8, hbq8⟩ : ∃ b_ : Bool, b_ = (rdOf false t329 x9_1) := ⟨_, rfl⟩; replace H : (if bq8 = true then (impl_starts.l0 k1 x3_1 t329 (t329.length : Int) (wrap64 (x9_1 + 1))) else (if x3_1.length < 17592186044416 then (impl_starts.l0 k1 (x3_1 ++ [x9_1]) t329 (t329.length : Int) (wrap64 (x9_1 + 1))) else (none))) = some r := by rw [← hbq8] at H; exact H
      have Nbq8 := az hbq8; clear hbq8; by_cases c9 : bq8 = true
      ·
       subst c9; have H1 : (impl_starts.l0 k1 x3_1 t329 (t329.length : Int) (wrap64 (x9_1 + 1))) = some r := by rw [if_pos rfl] at H; exact H
       clear H; have H := H1; clear H1; have H' := az H; clear H; have p332 : 0 ≤ (x9_1 : Int) := of_decide_eq_true (by assumption); have q332 : x9_1 < (t329.length : Int) := of_decide_eq_true (by assumption); obtain ⟨ad332, e332, hx332_0⟩ := Kd.at_bool (Kd.R_reads' HO_7.out).2.2 x9_1 p332 q332; (try rw [← Nbq8.out] at hx332_0)
       cases e332
       replace p332 := eq_true p332; replace q332 := eq_true q332; go_wp2; go_roundg k1
       case measure => have := HK1.out; omega
       case rel => exact ⟨(x3_1), (wrap64 (x9_1 + 1)), zB, H', ⟨zE HK1.out⟩, ⟨zF HO_3.out⟩, ⟨zF HO_7.out⟩, ⟨zA HB.out⟩⟩
      ·
       replace c9 := Bool.eq_false_iff.mpr c9; subst c9; have H1 : (if x3_1.length < 17592186044416 then (impl_starts.l0 k1 (x3_1 ++ [x9_1]) t329 (t329.length : Int) (wrap64 (x9_1 + 1))) else (none)) = some r := by rw [if_neg (show ¬ (false = true) by decide)] at H; exact H
       clear H; have H := H1; clear H1; by_cases c10 : x3_1.length < 17592186044416
       ·
        rw [if_pos c10] at H; have LMc10 := az c10; clear c10; obtain ⟨y333, hy333⟩ : ∃ y_ : List Int, y_ = (x3_1 ++ [x9_1]) := ⟨_, rfl⟩; replace H : (impl_starts.l0 k1 y333 t329 (t329.length : Int) (wrap64 (x9_1 + 1))) = some r := by first | (rw [hy333]; with_reducible exact H) | (have H2_ := (Option.bind_some _ _).symm.trans H; rw [hy333]; with_reducible exact H2_) | (have H2_ := (Option.bind_some _ _).symm.trans H; with_reducible exact H2_) | with_reducible exact H | (rw [hy333]; exact H) | exact H
        have Ny333 := az hy333; clear hy333; have H' := az H; clear H; have p332 : 0 ≤ (x9_1 : Int) := of_decide_eq_true (by assumption); have q332 : x9_1 < (t329.length : Int) := of_decide_eq_true (by assumption); obtain ⟨ad332, e332, hx332_0⟩ := Kd.at_bool (Kd.R_reads' HO_7.out).2.2 x9_1 p332 q332; (try rw [← Nbq8.out] at hx332_0)
        cases e332
        replace p332 := eq_true p332; replace q332 := eq_true q332; go_wp2_with (first | ((with_reducible refine gate_builtin (b := .append) (xs := #[.tmp 16, .tmp 18]) rfl ?_); at_builtin; refine Kd.R_append (Kd.int .i64) (w0 := w) w.heap.size rfl (.tmp 16) (.tmp 18) 22 3 (.int .i64 0) 8 rfl Tryz.underlying22 info3 rfl (by decide) (by omega) u3 x3_1 x9_1 [.int .i64 x9_1] (fun _ => True) (fun _ => False) rfl rfl ?aP (fun _ hk => hk.elim) ?aF ?aO ?aB ?aS ?aL ?_; (case aP => exact rfl); (case aB => exact (zA HB.out)); (case aF => exact (fun _ _ => trivial)); (case aO => exact (zF HO_3.out)); (case aS => exact (below_size (zA HB.out))); (case aL => have := LMc10.out; omega); intro v334 w11 ho hb hg hat; rw [← Ny333.out] at ho; have n0_ := az (Kd.R_over' (zF HO_7.out) (Kd.R_typed (zF HO_3.out)) (by decide) hg); have n1_ := az (hb); have n2_ := az (ho); clear HO_7; clear HB; clear HO_3; have HO_7 := n0_; have HB := n1_; have HO335 := n2_; clear n0_ n1_ n2_; clear ho hb hg hat)); go_roundg k1
        case measure => have := HK1.out; omega
        case rel => exact ⟨(y333), (wrap64 (x9_1 + 1)), zB, H', ⟨zE HK1.out⟩, ⟨zF HO335.out⟩, ⟨zF HO_7.out⟩, ⟨zA HB.out⟩⟩
       ·
        rw [if_neg c10] at H; exact absurd H (by simp)
     ·
      rw [if_neg c7] at H; exact absurd H (by simp)
    ·
     rw [if_neg c6] at H; exact absurd H (by simp)
   ·
    rw [if_neg c5] at H; have c5b0 : decide (x9_1 < (t329.length : Int)) = false := decide_eq_false c5; clear c5; obtain rfl := Option.some.inj H; go_wp2; go_ret; exact ⟨_, zG, zF HO_3.out, zA HB.out⟩
mutual
def impl_RuneWide.j0 : Nat → Int → Int → Bool → Option (Int)
 | 0, _, _, _ => none
 | k + 1, x0, x3, x6 => if x6 = true then (some 0) else (if x0 = 105 then (impl_RuneWide.j1 k x0 x3 (x0 == 105)) else (if x0 = 106 then (impl_RuneWide.j1 k x0 x3 (x0 == 106)) else (if x0 = 108 then (impl_RuneWide.j1 k x0 x3 (x0 == 108)) else (if x0 = 102 then (impl_RuneWide.j1 k x0 x3 (x0 == 102)) else (impl_RuneWide.j1 k x0 x3 (x0 == 116))))))
def impl_RuneWide.j1 : Nat → Int → Int → Bool → Option (Int)
 | 0, _, _, _ => none
 | k + 1, x0, x3, x17 => if x17 = true then (some 6) else (if x0 = 109 then (impl_RuneWide.j2 k x0 x3 (x0 == 109)) else (impl_RuneWide.j2 k x0 x3 (x0 == 119)))
def impl_RuneWide.j2 : Nat → Int → Int → Bool → Option (Int)
 | 0, _, _, _ => none
 | k + 1, x0, x3, x28 => if x28 = true then (some 16) else (if x0 ≥ 19968 then (impl_RuneWide.j3 k x3 (decide (x0 ≤ 40959))) else (impl_RuneWide.j3 k x3 false))
def impl_RuneWide.j3 : Nat → Int → Bool → Option (Int)
 | 0, _, _ => none
 | k + 1, x3, x33 => if x33 = true then (some 20) else (if x3 = 2 then (impl_RuneWide.j4 k x3 (x3 == 2)) else (impl_RuneWide.j4 k x3 (x3 == 3)))
def impl_RuneWide.j4 : Nat → Int → Bool → Option (Int)
 | 0, _, _ => none
 | k + 1, x3, x40 => if x40 = true then (some 12) else (if x3 = 11 then (some 40) else (if x3 = 12 then (some 6) else (if x3 = 8 then (some 6) else (some 10))))
end
def impl_RuneWide.f (k : Nat) (a0 : Int) : Option (Int) := (impl_RuneBidi.f a0).bind fun t336 => (if t336 = 9 then (impl_RuneWide.j0 k a0 t336 (t336 == 9)) else (if t336 = 10 then (impl_RuneWide.j0 k a0 t336 (t336 == 10)) else (if t336 ≥ 14 then (impl_RuneWide.j0 k a0 t336 (decide (t336 ≥ 14))) else (if a0 = 10 then (impl_RuneWide.j0 k a0 t336 (a0 == 10)) else (impl_RuneWide.j0 k a0 t336 (a0 == 13))))))
theorem impl_RuneWide.mono_l : ∀ k, (∀ y0 y1 y2, LeO (impl_RuneWide.j0 k y0 y1 y2) (impl_RuneWide.j0 (k + 1) y0 y1 y2)) ∧ (∀ y0 y1 y2, LeO (impl_RuneWide.j1 k y0 y1 y2) (impl_RuneWide.j1 (k + 1) y0 y1 y2)) ∧ (∀ y0 y1 y2, LeO (impl_RuneWide.j2 k y0 y1 y2) (impl_RuneWide.j2 (k + 1) y0 y1 y2)) ∧ (∀ y0 y1, LeO (impl_RuneWide.j3 k y0 y1) (impl_RuneWide.j3 (k + 1) y0 y1)) ∧ (∀ y0 y1, LeO (impl_RuneWide.j4 k y0 y1) (impl_RuneWide.j4 (k + 1) y0 y1))
 | 0 => ⟨fun _ _ _ r h => by simp [impl_RuneWide.j0] at h, fun _ _ _ r h => by simp [impl_RuneWide.j1] at h, fun _ _ _ r h => by simp [impl_RuneWide.j2] at h, fun _ _ r h => by simp [impl_RuneWide.j3] at h, fun _ _ r h => by simp [impl_RuneWide.j4] at h⟩
 | k + 1 => by
  obtain ⟨ih0, ih1, ih2, ih3, ih4⟩ := impl_RuneWide.mono_l k; refine ⟨?_, ?_, ?_, ?_, ?_⟩
  ·
   intro y0 y1 y2; unfold impl_RuneWide.j0
   repeat' first
   | (with_reducible exact ih0 _ _ _)
   | (with_reducible exact ih1 _ _ _)
   | (with_reducible exact ih2 _ _ _)
   | (with_reducible exact ih3 _ _)
   | (with_reducible exact ih4 _ _)
   | (with_reducible exact LeO.refl _)
   | (with_reducible exact LeO.none _)
   | (with_reducible refine LeO.ite ?_ ?_)
   | (with_reducible refine LeO.bind ?_ (fun _ => ?_))
   | exact ih0 _ _ _
   | exact ih1 _ _ _
   | exact ih2 _ _ _
   | exact ih3 _ _
   | exact ih4 _ _
   | exact LeO.none _
   | refine LeO.ite ?_ ?_
   | refine LeO.bind ?_ (fun _ => ?_)
  ·
   intro y0 y1 y2; unfold impl_RuneWide.j1
   repeat' first
   | (with_reducible exact ih0 _ _ _)
   | (with_reducible exact ih1 _ _ _)
   | (with_reducible exact ih2 _ _ _)
   | (with_reducible exact ih3 _ _)
   | (with_reducible exact ih4 _ _)
   | (with_reducible exact LeO.refl _)
   | (with_reducible exact LeO.none _)
   | (with_reducible refine LeO.ite ?_ ?_)
   | (with_reducible refine LeO.bind ?_ (fun _ => ?_))
   | exact ih0 _ _ _
   | exact ih1 _ _ _
   | exact ih2 _ _ _
   | exact ih3 _ _
   | exact ih4 _ _
   | exact LeO.none _
   | refine LeO.ite ?_ ?_
   | refine LeO.bind ?_ (fun _ => ?_)
  ·
   intro y0 y1 y2; unfold impl_RuneWide.j2
   repeat' first
   | (with_reducible exact ih0 _ _ _)
   | (with_reducible exact ih1 _ _ _)
   | (with_reducible exact ih2 _ _ _)
   | (with_reducible exact ih3 _ _)
   | (with_reducible exact ih4 _ _)
   | (with_reducible exact LeO.refl _)
   | (with_reducible exact LeO.none _)
   | (with_reducible refine LeO.ite ?_ ?_)
   | (with_reducible refine LeO.bind ?_ (fun _ => ?_))
   | exact ih0 _ _ _
   | exact ih1 _ _ _
   | exact ih2 _ _ _
   | exact ih3 _ _
   | exact ih4 _ _
   | exact LeO.none _
   | refine LeO.ite ?_ ?_
   | refine LeO.bind ?_ (fun _ => ?_)
  ·
   intro y0 y1; unfold impl_RuneWide.j3
   repeat' first
   | (with_reducible exact ih0 _ _ _)
   | (with_reducible exact ih1 _ _ _)
   | (with_reducible exact ih2 _ _ _)
   | (with_reducible exact ih3 _ _)
   | (with_reducible exact ih4 _ _)
   | (with_reducible exact LeO.refl _)
   | (with_reducible exact LeO.none _)
   | (with_reducible refine LeO.ite ?_ ?_)
   | (with_reducible refine LeO.bind ?_ (fun _ => ?_))
   | exact ih0 _ _ _
   | exact ih1 _ _ _
   | exact ih2 _ _ _
   | exact ih3 _ _
   | exact ih4 _ _
   | exact LeO.none _
   | refine LeO.ite ?_ ?_
   | refine LeO.bind ?_ (fun _ => ?_)
  ·
   intro y0 y1; unfold impl_RuneWide.j4
   repeat' first
   | (with_reducible exact ih0 _ _ _)
   | (with_reducible exact ih1 _ _ _)
   | (with_reducible exact ih2 _ _ _)
   | (with_reducible exact ih3 _ _)
   | (with_reducible exact ih4 _ _)
   | (with_reducible exact LeO.refl _)
   | (with_reducible exact LeO.none _)
   | (with_reducible refine LeO.ite ?_ ?_)
   | (with_reducible refine LeO.bind ?_ (fun _ => ?_))
   | exact ih0 _ _ _
   | exact ih1 _ _ _
   | exact ih2 _ _ _
   | exact ih3 _ _
   | exact ih4 _ _
   | exact LeO.none _
   | refine LeO.ite ?_ ?_
   | refine LeO.bind ?_ (fun _ => ?_)
theorem impl_RuneWide.mono : ∀ a0 k, LeO (impl_RuneWide.f k a0) (impl_RuneWide.f (k + 1) a0) := by
 intro a0 k; obtain ⟨ih0, ih1, ih2, ih3, ih4⟩ := impl_RuneWide.mono_l k; unfold impl_RuneWide.f
 repeat' first
   | (with_reducible exact ih0 _ _ _)
   | (with_reducible exact ih1 _ _ _)
   | (with_reducible exact ih2 _ _ _)
   | (with_reducible exact ih3 _ _)
   | (with_reducible exact ih4 _ _)
   | (with_reducible exact LeO.refl _)
   | (with_reducible exact LeO.none _)
   | (with_reducible refine LeO.ite ?_ ?_)
   | (with_reducible refine LeO.bind ?_ (fun _ => ?_))
   | exact ih0 _ _ _
   | exact ih1 _ _ _
   | exact ih2 _ _ _
   | exact ih3 _ _
   | exact ih4 _ _
   | exact LeO.none _
   | refine LeO.ite ?_ ?_
   | refine LeO.bind ?_ (fun _ => ?_)
theorem impl_RuneWide.calls (k : Nat) (a0 : Int) (r : Int) (w : World) (h : impl_RuneWide.f k a0 = some r) :
  Calls Tryz.prog 118 #[.int .i64 a0] w fun e w' => e = .returned (.int .i64 r) ∧ Below w.heap.size w w' := by
 have HB := az (Below.refl w.heap.size w); have H : ((impl_RuneBidi.f a0).bind fun t336 => (if t336 = 9 then (impl_RuneWide.j0 k a0 t336 (t336 == 9)) else (if t336 = 10 then (impl_RuneWide.j0 k a0 t336 (t336 == 10)) else (if t336 ≥ 14 then (impl_RuneWide.j0 k a0 t336 (decide (t336 ≥ 14))) else (if a0 = 10 then (impl_RuneWide.j0 k a0 t336 (a0 == 10)) else (impl_RuneWide.j0 k a0 t336 (a0 == 13))))))) = some r := h; clear h; replace H := Option.bind_eq_some_iff.mp H; obtain ⟨t336, A20, H⟩ := H; replace H : (if t336 = 9 then (impl_RuneWide.j0 k a0 t336 (t336 == 9)) else (if t336 = 10 then (impl_RuneWide.j0 k a0 t336 (t336 == 10)) else (if t336 ≥ 14 then (impl_RuneWide.j0 k a0 t336 (decide (t336 ≥ 14))) else (if a0 = 10 then (impl_RuneWide.j0 k a0 t336 (a0 == 10)) else (impl_RuneWide.j0 k a0 t336 (a0 == 13)))))) = some r := H; have A2 := az A20; clear A20; have HC3 := az H; clear H; go_enter Tryz.func118, Tryz.ntmps118; go_upto_if 6 with (first | ((with_reducible refine gate_callee (f := 115) rfl ?_); refine goesL_ (some 5) rfl rfl Tryz.func115 (by kernel_rfl) rfl #[.int .i64 a0] rfl zC ?_; (with_reducible refine (impl_RuneBidi.calls a0 t336 _ A2.out).mono ?_); rintro e w4 ⟨rfl, hb⟩; refine ⟨_, rfl, ?_⟩; have n0_ := az (below_step (zA HB.out) hb); clear HB; have HB := n0_; clear n0_; (try clear hb); (try clear hb2); (try clear hk); (try clear hi)))
 (try simp only [Act.put, List.setIfInBounds_toArray, List.set_cons_zero, List.set_cons_succ]); go_cut [6] (fun v6 wc => ∃ (kq : Nat) (x6_2 : Bool), v6 = .bool x6_2 ∧ Aside0 (impl_RuneWide.j0 kq a0 t336 x6_2 = some r) ∧ Aside0 (kq ≤ k) ∧ Aside0 (Below w.heap.size w wc))
 case first =>
  have H := HC3.out; clear HC3; by_cases c5 : t336 = 9
  ·
   rw [if_pos c5] at H; have c5b0 : (t336 == 9) = true := beq_iff_eq.mpr c5; have c5b1 : (t336 != 9) = false := bne_eq_false_iff_eq.mpr c5; clear c5; (first | rw [c5b0] | (simp only [i64_w, i32_w]; rw [c5b0]) | skip); have H' := az H; clear H; go_wp2; go_meet
   case rel => exact ⟨_, ((t336 == 9)), zB, H', ⟨zJ⟩, ⟨zA HB.out⟩⟩
  ·
   rw [if_neg c5] at H; have c5b0 : (t336 == 9) = false := beq_eq_false_iff_ne.mpr c5; have c5b1 : (t336 != 9) = true := bne_iff_ne.mpr c5; (first | rw [c5b0] | (simp only [i64_w, i32_w]; rw [c5b0]) | skip); by_cases c6 : t336 = 10
   ·
    rw [if_pos c6] at H; have c6b0 : (t336 == 10) = true := beq_iff_eq.mpr c6; have c6b1 : (t336 != 10) = false := bne_eq_false_iff_eq.mpr c6; clear c6; have H' := az H; clear H; go_wp2; go_meet
    case rel => exact ⟨_, ((t336 == 10)), zB, H', ⟨zJ⟩, ⟨zA HB.out⟩⟩
   ·
    rw [if_neg c6] at H; have c6b0 : (t336 == 10) = false := beq_eq_false_iff_ne.mpr c6; have c6b1 : (t336 != 10) = true := bne_iff_ne.mpr c6; by_cases c7 : t336 ≥ 14
    ·
     rw [if_pos c7] at H; have c7b0 : decide (14 ≤ t336) = true := decide_eq_true c7; clear c7; have H' := az H; clear H; go_wp2; go_meet
     case rel => exact ⟨_, (decide (t336 ≥ 14)), zB, H', ⟨zJ⟩, ⟨zA HB.out⟩⟩
    ·
     rw [if_neg c7] at H; have c7b0 : decide (14 ≤ t336) = false := decide_eq_false c7; clear c7; by_cases c8 : a0 = 10
     ·
      rw [if_pos c8] at H; have c8b0 : (a0 == 10) = true := beq_iff_eq.mpr c8; have c8b1 : (a0 != 10) = false := bne_eq_false_iff_eq.mpr c8; clear c8; have H' := az H; clear H; go_wp2; go_meet
      case rel => exact ⟨_, ((a0 == 10)), zB, H', ⟨zJ⟩, ⟨zA HB.out⟩⟩
     ·
      rw [if_neg c8] at H; have c8b0 : (a0 == 10) = false := beq_eq_false_iff_ne.mpr c8; have c8b1 : (a0 != 10) = true := bne_iff_ne.mpr c8; have H' := az H; clear H; go_wp2; go_meet
      case rel => exact ⟨_, ((a0 == 13)), zB, H', ⟨zJ⟩, ⟨zA HB.out⟩⟩
 case rest =>
  clear HC3; (try clear c1); (try clear p2); (try clear c5); (try clear c5b0); (try clear c5b1); (try clear c6); (try clear c6b0); (try clear c6b1); (try clear c7); (try clear c7b0); (try clear c8); (try clear c8b0); (try clear c8b1); obtain ⟨kq, x6_2, rfl, HA, HJ2, HB⟩ := hcut
  cases kq with
  | zero => exact absurd HA.out (by simp [impl_RuneWide.j0])
  | succ kj2 =>
   have H := HA.out; clear HA; simp only [impl_RuneWide.j0] at H; by_cases c9 : x6_2 = true
   ·
    subst c9; have H1 : (some 0) = some r := by rw [if_pos rfl] at H; exact H
    clear H; have H := H1; clear H1; obtain rfl := Option.some.inj H; go_wp2; go_ret; exact ⟨zG, zA HB.out⟩
   ·
    replace c9 := Bool.eq_false_iff.mpr c9; subst c9; have H1 : (if a0 = 105 then (impl_RuneWide.j1 kj2 a0 t336 (a0 == 105)) else (if a0 = 106 then (impl_RuneWide.j1 kj2 a0 t336 (a0 == 106)) else (if a0 = 108 then (impl_RuneWide.j1 kj2 a0 t336 (a0 == 108)) else (if a0 = 102 then (impl_RuneWide.j1 kj2 a0 t336 (a0 == 102)) else (impl_RuneWide.j1 kj2 a0 t336 (a0 == 116)))))) = some r := by rw [if_neg (show ¬ (false = true) by decide)] at H; exact H
    clear H; have H := H1; clear H1; have HC10 := az H; clear H; go_upto_if 17 with (fail)
    go_cut [17] (fun v17 wc => ∃ (kq : Nat) (x17_9 : Bool), v17 = .bool x17_9 ∧ Aside0 (impl_RuneWide.j1 kq a0 t336 x17_9 = some r) ∧ Aside0 (kq ≤ kj2) ∧ Aside0 (Below w.heap.size w wc))
    case first =>
     have H := HC10.out; clear HC10; by_cases c11 : a0 = 105
     ·
      rw [if_pos c11] at H; have c11b0 : (a0 == 105) = true := beq_iff_eq.mpr c11; have c11b1 : (a0 != 105) = false := bne_eq_false_iff_eq.mpr c11; clear c11; (first | rw [c11b0] | (simp only [i64_w, i32_w]; rw [c11b0]) | skip); have H' := az H; clear H; go_wp2; go_meet
      case rel => exact ⟨_, ((a0 == 105)), zB, H', ⟨zK HJ2.out⟩, ⟨zA HB.out⟩⟩
     ·
      rw [if_neg c11] at H; have c11b0 : (a0 == 105) = false := beq_eq_false_iff_ne.mpr c11; have c11b1 : (a0 != 105) = true := bne_iff_ne.mpr c11; (first | rw [c11b0] | (simp only [i64_w, i32_w]; rw [c11b0]) | skip); by_cases c12 : a0 = 106
      ·
       rw [if_pos c12] at H; have c12b0 : (a0 == 106) = true := beq_iff_eq.mpr c12; have c12b1 : (a0 != 106) = false := bne_eq_false_iff_eq.mpr c12; clear c12; have H' := az H; clear H; go_wp2; go_meet
       case rel => exact ⟨_, ((a0 == 106)), zB, H', ⟨zK HJ2.out⟩, ⟨zA HB.out⟩⟩
      ·
       rw [if_neg c12] at H; have c12b0 : (a0 == 106) = false := beq_eq_false_iff_ne.mpr c12; have c12b1 : (a0 != 106) = true := bne_iff_ne.mpr c12; by_cases c13 : a0 = 108
       ·
        rw [if_pos c13] at H; have c13b0 : (a0 == 108) = true := beq_iff_eq.mpr c13; have c13b1 : (a0 != 108) = false := bne_eq_false_iff_eq.mpr c13; clear c13; have H' := az H; clear H; go_wp2; go_meet
        case rel => exact ⟨_, ((a0 == 108)), zB, H', ⟨zK HJ2.out⟩, ⟨zA HB.out⟩⟩
       ·
        rw [if_neg c13] at H; have c13b0 : (a0 == 108) = false := beq_eq_false_iff_ne.mpr c13; have c13b1 : (a0 != 108) = true := bne_iff_ne.mpr c13; by_cases c14 : a0 = 102
        ·
         rw [if_pos c14] at H; have c14b0 : (a0 == 102) = true := beq_iff_eq.mpr c14; have c14b1 : (a0 != 102) = false := bne_eq_false_iff_eq.mpr c14; clear c14; have H' := az H; clear H; go_wp2; go_meet
         case rel => exact ⟨_, ((a0 == 102)), zB, H', ⟨zK HJ2.out⟩, ⟨zA HB.out⟩⟩
        ·
         rw [if_neg c14] at H; have c14b0 : (a0 == 102) = false := beq_eq_false_iff_ne.mpr c14; have c14b1 : (a0 != 102) = true := bne_iff_ne.mpr c14; have H' := az H; clear H; go_wp2; go_meet
         case rel => exact ⟨_, ((a0 == 116)), zB, H', ⟨zK HJ2.out⟩, ⟨zA HB.out⟩⟩
    case rest =>
     clear HC10; (try clear c1); (try clear p2); (try clear c5); (try clear c5b0); (try clear c5b1); (try clear c6); (try clear c6b0); (try clear c6b1); (try clear c7); (try clear c7b0); (try clear c8); (try clear c8b0); (try clear c8b1); (try clear c9); (try clear c11); (try clear c11b0); (try clear c11b1); (try clear c12); (try clear c12b0); (try clear c12b1); (try clear c13); (try clear c13b0); (try clear c13b1); (try clear c14); (try clear c14b0); (try clear c14b1); (try clear p2); obtain ⟨kq, x17_9, rfl, HA, HJ9, HB⟩ := hcut
     cases kq with
     | zero => exact absurd HA.out (by simp [impl_RuneWide.j1])
     | succ kj9 =>
      have H := HA.out; clear HA; simp only [impl_RuneWide.j1] at H; by_cases c15 : x17_9 = true
      ·
       subst c15; have H1 : (some 6) = some r := by rw [if_pos rfl] at H; exact H
       clear H; have H := H1; clear H1; obtain rfl := Option.some.inj H; go_wp2; go_ret; exact ⟨zG, zA HB.out⟩
      ·
       replace c15 := Bool.eq_false_iff.mpr c15; subst c15; have H1 : (if a0 = 109 then (impl_RuneWide.j2 kj9 a0 t336 (a0 == 109)) else (impl_RuneWide.j2 kj9 a0 t336 (a0 == 119))) = some r := by rw [if_neg (show ¬ (false = true) by decide)] at H; exact H
       clear H; have H := H1; clear H1; have HC16 := az H; clear H; go_upto_if 28 with (fail)
       go_cut [28] (fun v28 wc => ∃ (kq : Nat) (x28_15 : Bool), v28 = .bool x28_15 ∧ Aside0 (impl_RuneWide.j2 kq a0 t336 x28_15 = some r) ∧ Aside0 (kq ≤ kj9) ∧ Aside0 (Below w.heap.size w wc))
       case first =>
        have H := HC16.out; clear HC16; by_cases c17 : a0 = 109
        ·
         rw [if_pos c17] at H; have c17b0 : (a0 == 109) = true := beq_iff_eq.mpr c17; have c17b1 : (a0 != 109) = false := bne_eq_false_iff_eq.mpr c17; clear c17; (first | rw [c17b0] | (simp only [i64_w, i32_w]; rw [c17b0]) | skip); have H' := az H; clear H; go_wp2; go_meet
         case rel => exact ⟨_, ((a0 == 109)), zB, H', ⟨zM HJ2.out HJ9.out⟩, ⟨zA HB.out⟩⟩
        ·
         rw [if_neg c17] at H; have c17b0 : (a0 == 109) = false := beq_eq_false_iff_ne.mpr c17; have c17b1 : (a0 != 109) = true := bne_iff_ne.mpr c17; (first | rw [c17b0] | (simp only [i64_w, i32_w]; rw [c17b0]) | skip); have H' := az H; clear H; go_wp2; go_meet
         case rel => exact ⟨_, ((a0 == 119)), zB, H', ⟨zM HJ2.out HJ9.out⟩, ⟨zA HB.out⟩⟩
       case rest =>
        clear HC16; (try clear c1); (try clear p2); (try clear c5); (try clear c5b0); (try clear c5b1); (try clear c6); (try clear c6b0); (try clear c6b1); (try clear c7); (try clear c7b0); (try clear c8); (try clear c8b0); (try clear c8b1); (try clear c9); (try clear c11); (try clear c11b0); (try clear c11b1); (try clear c12); (try clear c12b0); (try clear c12b1); (try clear c13); (try clear c13b0); (try clear c13b1); (try clear c14); (try clear c14b0); (try clear c14b1); (try clear c15); (try clear c17); (try clear c17b0); (try clear c17b1); (try clear p2); obtain ⟨kq, x28_15, rfl, HA, HJ15, HB⟩ := hcut
        cases kq with
        | zero => exact absurd HA.out (by simp [impl_RuneWide.j2])
        | succ kj15 =>
         have H := HA.out; clear HA; simp only [impl_RuneWide.j2] at H; by_cases c18 : x28_15 = true
         ·
          subst c18; have H1 : (some 16) = some r := by rw [if_pos rfl] at H; exact H
          clear H; have H := H1; clear H1; obtain rfl := Option.some.inj H; go_wp2; go_ret; exact ⟨zG, zA HB.out⟩
         ·
          replace c18 := Bool.eq_false_iff.mpr c18; subst c18; have H1 : (if a0 ≥ 19968 then (impl_RuneWide.j3 kj15 t336 (decide (a0 ≤ 40959))) else (impl_RuneWide.j3 kj15 t336 false)) = some r := by rw [if_neg (show ¬ (false = true) by decide)] at H; exact H
          clear H; have H := H1; clear H1; have HC19 := az H; clear H; go_upto_region 17 with (fail)
          go_cut [33] (fun v33 wc => ∃ (kq : Nat) (x33_18 : Bool), v33 = .bool x33_18 ∧ Aside0 (impl_RuneWide.j3 kq t336 x33_18 = some r) ∧ Aside0 (kq ≤ kj15) ∧ Aside0 (Below w.heap.size w wc))
          case first =>
           have H := HC19.out; clear HC19; by_cases c20 : a0 ≥ 19968
           ·
            rw [if_pos c20] at H; have c20b0 : decide (19968 ≤ a0) = true := decide_eq_true c20; clear c20; (first | rw [c20b0] | (simp only [i64_w, i32_w]; rw [c20b0]) | skip); have H' := az H; clear H; go_wp2; go_meet
            case rel => exact ⟨_, (decide (a0 ≤ 40959)), zB, H', ⟨zS HJ2.out HJ9.out HJ15.out⟩, ⟨zA HB.out⟩⟩
           ·
            rw [if_neg c20] at H; have c20b0 : decide (19968 ≤ a0) = false := decide_eq_false c20; clear c20; (first | rw [c20b0] | (simp only [i64_w, i32_w]; rw [c20b0]) | skip); have H' := az H; clear H; go_wp2; go_meet
            case rel => exact ⟨_, (false), zB, H', ⟨zS HJ2.out HJ9.out HJ15.out⟩, ⟨zA HB.out⟩⟩
          case rest =>
           clear HC19; (try clear c1); (try clear c2); (try clear p2); (try clear c5); (try clear c5b0); (try clear c5b1); (try clear c6); (try clear c6b0); (try clear c6b1); (try clear c7); (try clear c7b0); (try clear c8); (try clear c8b0); (try clear c8b1); (try clear c9); (try clear c11); (try clear c11b0); (try clear c11b1); (try clear c12); (try clear c12b0); (try clear c12b1); (try clear c13); (try clear c13b0); (try clear c13b1); (try clear c14); (try clear c14b0); (try clear c14b1); (try clear c15); (try clear c17); (try clear c17b0); (try clear c17b1); (try clear c18); (try clear c20); (try clear c20b0); (try clear p2); obtain ⟨kq, x33_18, rfl, HA, HJ18, HB⟩ := hcut
           cases kq with
           | zero => exact absurd HA.out (by simp [impl_RuneWide.j3])
           | succ kj18 =>
            have H := HA.out; clear HA; simp only [impl_RuneWide.j3] at H; by_cases c21 : x33_18 = true
            ·
             subst c21; have H1 : (some 20) = some r := by rw [if_pos rfl] at H; exact H
             clear H; have H := H1; clear H1; obtain rfl := Option.some.inj H; go_wp2; go_ret; exact ⟨zG, zA HB.out⟩
            ·
             replace c21 := Bool.eq_false_iff.mpr c21; subst c21; have H1 : (if t336 = 2 then (impl_RuneWide.j4 kj18 t336 (t336 == 2)) else (impl_RuneWide.j4 kj18 t336 (t336 == 3))) = some r := by rw [if_neg (show ¬ (false = true) by decide)] at H; exact H
             clear H; have H := H1; clear H1; have HC22 := az H; clear H; go_upto_if 40 with (fail)
             go_cut [40] (fun v40 wc => ∃ (kq : Nat) (x40_21 : Bool), v40 = .bool x40_21 ∧ Aside0 (impl_RuneWide.j4 kq t336 x40_21 = some r) ∧ Aside0 (kq ≤ kj18) ∧ Aside0 (Below w.heap.size w wc))
             case first =>
              have H := HC22.out; clear HC22; by_cases c23 : t336 = 2
              ·
               rw [if_pos c23] at H; have c23b0 : (t336 == 2) = true := beq_iff_eq.mpr c23; have c23b1 : (t336 != 2) = false := bne_eq_false_iff_eq.mpr c23; clear c23; (first | rw [c23b0] | (simp only [i64_w, i32_w]; rw [c23b0]) | skip); have H' := az H; clear H; go_wp2; go_meet
               case rel => exact ⟨_, ((t336 == 2)), zB, H', ⟨by have := HJ2.out; have := HJ9.out; have := HJ15.out; have := HJ18.out; first | omega | exact Nat.le_refl _⟩, ⟨zA HB.out⟩⟩
              ·
               rw [if_neg c23] at H; have c23b0 : (t336 == 2) = false := beq_eq_false_iff_ne.mpr c23; have c23b1 : (t336 != 2) = true := bne_iff_ne.mpr c23; (first | rw [c23b0] | (simp only [i64_w, i32_w]; rw [c23b0]) | skip); have H' := az H; clear H; go_wp2; go_meet
               case rel => exact ⟨_, ((t336 == 3)), zB, H', ⟨by have := HJ2.out; have := HJ9.out; have := HJ15.out; have := HJ18.out; first | omega | exact Nat.le_refl _⟩, ⟨zA HB.out⟩⟩
             case rest =>
              clear HC22; (try clear c1); (try clear c2); (try clear p2); (try clear c5); (try clear c5b0); (try clear c5b1); (try clear c6); (try clear c6b0); (try clear c6b1); (try clear c7); (try clear c7b0); (try clear c8); (try clear c8b0); (try clear c8b1); (try clear c9); (try clear c11); (try clear c11b0); (try clear c11b1); (try clear c12); (try clear c12b0); (try clear c12b1); (try clear c13); (try clear c13b0); (try clear c13b1); (try clear c14); (try clear c14b0); (try clear c14b1); (try clear c15); (try clear c17); (try clear c17b0); (try clear c17b1); (try clear c18); (try clear c20); (try clear c20b0); (try clear c21); (try clear c23); (try clear c23b0); (try clear c23b1); (try clear p2); obtain ⟨kq, x40_21, rfl, HA, HJ21, HB⟩ := hcut
              cases kq with
              | zero => exact absurd HA.out (by simp [impl_RuneWide.j4])
              | succ kj21 =>
               have H := HA.out; clear HA; simp only [impl_RuneWide.j4] at H; by_cases c24 : x40_21 = true
               ·
                subst c24; have H1 : (some 12) = some r := by rw [if_pos rfl] at H; exact H
                clear H; have H := H1; clear H1; obtain rfl := Option.some.inj H; go_wp2; go_ret; exact ⟨zG, zA HB.out⟩
               ·
                replace c24 := Bool.eq_false_iff.mpr c24; subst c24; have H1 : (if t336 = 11 then (some 40) else (if t336 = 12 then (some 6) else (if t336 = 8 then (some 6) else (some 10)))) = some r := by rw [if_neg (show ¬ (false = true) by decide)] at H; exact H
                clear H; have H := H1; clear H1; by_cases c25 : t336 = 11
                ·
                 rw [if_pos c25] at H; have c25b0 : (t336 == 11) = true := beq_iff_eq.mpr c25; have c25b1 : (t336 != 11) = false := bne_eq_false_iff_eq.mpr c25; clear c25; obtain rfl := Option.some.inj H; go_wp2; go_ret; exact ⟨zG, zA HB.out⟩
                ·
                 rw [if_neg c25] at H; have c25b0 : (t336 == 11) = false := beq_eq_false_iff_ne.mpr c25; have c25b1 : (t336 != 11) = true := bne_iff_ne.mpr c25; by_cases c26 : t336 = 12
                 ·
                  rw [if_pos c26] at H; have c26b0 : (t336 == 12) = true := beq_iff_eq.mpr c26; have c26b1 : (t336 != 12) = false := bne_eq_false_iff_eq.mpr c26; clear c26; obtain rfl := Option.some.inj H; go_wp2; go_ret; exact ⟨zG, zA HB.out⟩
                 ·
                  rw [if_neg c26] at H; have c26b0 : (t336 == 12) = false := beq_eq_false_iff_ne.mpr c26; have c26b1 : (t336 != 12) = true := bne_iff_ne.mpr c26; by_cases c27 : t336 = 8
                  ·
                   rw [if_pos c27] at H; have c27b0 : (t336 == 8) = true := beq_iff_eq.mpr c27; have c27b1 : (t336 != 8) = false := bne_eq_false_iff_eq.mpr c27; clear c27; obtain rfl := Option.some.inj H; go_wp2; go_ret; exact ⟨zG, zA HB.out⟩
                  ·
                   rw [if_neg c27] at H; have c27b0 : (t336 == 8) = false := beq_eq_false_iff_ne.mpr c27; have c27b1 : (t336 != 8) = true := bne_iff_ne.mpr c27; obtain rfl := Option.some.inj H; go_wp2; go_ret; exact ⟨zG, zA HB.out⟩
def impl_clusterWide.l0 : Nat → List Int → List Bool → Int → Int → Option (Int)
 | 0, _, _, _, _ => none
 | k + 1, x0, x5, x6, x7 => if x7 < (x0.length : Int) then (if 0 ≤ x7 then (if x7 < (x5.length : Int) then (if rdOf false x5 x7 = true then ((impl_RuneWide.f k (rd x0 x7)).bind fun t344 => (impl_clusterWide.l0 k x0 x5 (mx x6 t344) (wrap64 (x7 + 1)))) else (some x6)) else (none)) else (none)) else (some x6)
def impl_clusterWide.f (k : Nat) (l0 : List Int) (a1 : Int) : Option (Int) := (impl_joined.f k l0).bind fun t337 => (if 0 ≤ a1 then (if a1 < (l0.length : Int) then ((impl_RuneWide.f k (rd l0 a1)).bind fun t341 => (impl_clusterWide.l0 k l0 t337 t341 (wrap64 (a1 + 1)))) else (none)) else (none))
theorem impl_clusterWide.mono_l : ∀ k, (∀ y0 y1 y2 y3, LeO (impl_clusterWide.l0 k y0 y1 y2 y3) (impl_clusterWide.l0 (k + 1) y0 y1 y2 y3))
 | 0 => fun _ _ _ _ r h => by simp [impl_clusterWide.l0] at h
 | k + 1 => by
  have ih0 := impl_clusterWide.mono_l k
  ·
   intro y0 y1 y2 y3; unfold impl_clusterWide.l0
   repeat' first
   | (with_reducible exact ih0 _ _ _ _)
   | (with_reducible exact impl_RuneWide.mono _ _)
   | (with_reducible exact impl_joined.mono _ _)
   | (with_reducible exact LeO.refl _)
   | (with_reducible exact LeO.none _)
   | (with_reducible refine LeO.ite ?_ ?_)
   | (with_reducible refine LeO.bind ?_ (fun _ => ?_))
   | exact ih0 _ _ _ _
   | exact impl_RuneWide.mono _ _
   | exact impl_joined.mono _ _
   | exact LeO.none _
   | refine LeO.ite ?_ ?_
   | refine LeO.bind ?_ (fun _ => ?_)
theorem impl_clusterWide.mono : ∀ a0 a1 k, LeO (impl_clusterWide.f k a0 a1) (impl_clusterWide.f (k + 1) a0 a1) := by
 intro a0 a1 k; have ih0 := impl_clusterWide.mono_l k; unfold impl_clusterWide.f
 repeat' first
   | (with_reducible exact ih0 _ _ _ _)
   | (with_reducible exact impl_RuneWide.mono _ _)
   | (with_reducible exact impl_joined.mono _ _)
   | (with_reducible exact LeO.refl _)
   | (with_reducible exact LeO.none _)
   | (with_reducible refine LeO.ite ?_ ?_)
   | (with_reducible refine LeO.bind ?_ (fun _ => ?_))
   | exact ih0 _ _ _ _
   | exact impl_RuneWide.mono _ _
   | exact impl_joined.mono _ _
   | exact LeO.none _
   | refine LeO.ite ?_ ?_
   | refine LeO.bind ?_ (fun _ => ?_)
theorem impl_clusterWide.calls (k : Nat) (A0 : Option Addr) (c0 : Nat) (l0 : List Int) (a1 : Int) (r : Int) (w : World) (hr0 : Kd.C (Kd.int .i64) w A0 l0.length l0) (hc0 : l0.length ≤ c0) (h : impl_clusterWide.f k l0 a1 = some r) :
  Calls Tryz.prog 86 #[.slice A0 l0.length c0, .int .i64 a1] w fun e w' => e = .returned (.int .i64 r) ∧ Below w.heap.size w w' := by
 have HR0 := az hr0; have HC0 := az hc0; clear hr0 hc0; have HB := az (Below.refl w.heap.size w); have H : ((impl_joined.f k l0).bind fun t337 => (if 0 ≤ a1 then (if a1 < (l0.length : Int) then ((impl_RuneWide.f k (rd l0 a1)).bind fun t341 => (impl_clusterWide.l0 k l0 t337 t341 (wrap64 (a1 + 1)))) else (none)) else (none))) = some r := h; clear h; replace H := Option.bind_eq_some_iff.mp H; obtain ⟨t337, A30, H⟩ := H; replace H : (if 0 ≤ a1 then (if a1 < (l0.length : Int) then ((impl_RuneWide.f k (rd l0 a1)).bind fun t341 => (impl_clusterWide.l0 k l0 t337 t341 (wrap64 (a1 + 1)))) else (none)) else (none)) = some r := H; have A3 := az A30; clear A30; by_cases c4 : 0 ≤ a1
 ·
  rw [if_pos c4] at H; have c4b0 : decide (0 ≤ a1) = true := decide_eq_true c4; clear c4; by_cases c5 : a1 < (l0.length : Int)
  ·
   rw [if_pos c5] at H; have c5b0 : decide (a1 < (l0.length : Int)) = true := decide_eq_true c5; clear c5; replace H := Option.bind_eq_some_iff.mp H; obtain ⟨t341, A60, H⟩ := H; replace H : (impl_clusterWide.l0 k l0 t337 t341 (wrap64 (a1 + 1))) = some r := H; have A6 := az A60; clear A60; have H' := az H; clear H; go_enter Tryz.func86, Tryz.ntmps86; go_wp2_with (first | ((with_reducible refine gate_callee (f := 79) rfl ?_); refine goesL_ (some 9) rfl rfl Tryz.func79 (by kernel_rfl) rfl #[.slice A0 l0.length c0] rfl zC ?_; (with_reducible refine (impl_joined.calls k _ _ l0 t337 _ ?side1 ?side2 A3.out).mono ?_); (case side1 => exact (zP HR0.out)); (case side2 => exact HC0.out); rintro e w7 ⟨v338, rfl, ho0, hb⟩; refine ⟨_, rfl, ?_⟩; have n0_ := az (Kd.R_lower ho0 (below_size (zA HB.out))); have n1_ := az (below_step (zA HB.out) hb); clear HB; have HO339 := n0_; have HB := n1_; clear n0_ n1_; (try clear hb); (try clear hb2); (try clear hk); (try clear hi); (try clear ho0); have p340 : 0 ≤ (a1 : Int) := of_decide_eq_true (by assumption); have q340 : a1 < (l0.length : Int) := of_decide_eq_true (by assumption); obtain ⟨ad340, e340, hx340_0⟩ := Kd.at_int HR0.out a1 p340 q340; cases e340; replace hx340_0 := (HB.out.cell (World.block_lt_of_cell? w _ hx340_0)).trans hx340_0; replace p340 := eq_true p340; replace q340 := eq_true q340) | ((with_reducible refine gate_callee (f := 118) rfl ?_); refine goesL_ (some 14) rfl rfl Tryz.func118 (by kernel_rfl) rfl #[.int .i64 (rd l0 a1)] rfl zC ?_; (with_reducible refine (impl_RuneWide.calls k (rd l0 a1) t341 _ A6.out).mono ?_); rintro e w8 ⟨rfl, hb⟩; refine ⟨_, rfl, ?_⟩; have n0_ := az (Kd.R_below (zF HO339.out) hb); have n1_ := az (below_step (zA HB.out) hb); clear HO339; clear HB; have HO339 := n0_; have HB := n1_; clear n0_ n1_; (try clear hb); (try clear hb2); (try clear hk); (try clear hi))); go_loopg [6, 7] k (fun kq v6 v7 w' => ∃ (x6_1 : Int) (x7_1 : Int), v6 = .int .i64 x6_1 ∧ v7 = .int .i64 x7_1 ∧ Aside0 (impl_clusterWide.l0 kq l0 t337 x6_1 x7_1 = some r) ∧ Aside0 (kq ≤ k) ∧ Aside0 (Kd.R Kd.bool 4 w' w.heap.size (fun _ => True) v338 t337) ∧ Aside0 (Below w.heap.size w w'))
   case atStart => exact ⟨(t341), (wrap64 (a1 + 1)), zB, zB, H', ⟨Nat.le_refl _⟩, ⟨zF HO339.out⟩, ⟨zA HB.out⟩⟩
   case round =>
    clear H'; (try clear c1); (try clear p2); (try clear p3); (try clear q3); (try clear hx3); (try clear c4); (try clear c4b0); (try clear c5); (try clear c5b0); (try clear p6); (try clear c7); (try clear c8); (try clear hx340_0); (try clear p340); (try clear q340); obtain ⟨x6_1, x7_1, rfl, rfl, HA, HK1, HO_5, HB⟩ := hrel
    cases gk with
    | zero => exact absurd HA.out (by simp [impl_clusterWide.l0])
    | succ k1 =>
     have H := HA.out; clear HA; simp only [impl_clusterWide.l0] at H; by_cases c9 : x7_1 < (l0.length : Int)
     ·
      rw [if_pos c9] at H; have c9b0 : decide (x7_1 < (l0.length : Int)) = true := decide_eq_true c9; clear c9; by_cases c10 : 0 ≤ x7_1
      ·
       rw [if_pos c10] at H; have c10b0 : decide (0 ≤ x7_1) = true := decide_eq_true c10; clear c10; by_cases c11 : x7_1 < (t337.length : Int)
       ·
        rw [if_pos c11] at H; have c11b0 : decide (x7_1 < (t337.length : Int)) = true := decide_eq_true c11; clear c11; obtain ⟨bq12, hbq12⟩ : ∃ b_ : Bool, b_ = (rdOf false t337 x7_1) := ⟨_, rfl⟩; replace H : (if bq12 = true then ((impl_RuneWide.f k1 (rd l0 x7_1)).bind fun t344 => (impl_clusterWide.l0 k1 l0 t337 (mx x6_1 t344) (wrap64 (x7_1 + 1)))) else (some x6_1)) = some r := by rw [← hbq12] at H; exact H
        have Nbq12 := az hbq12; clear hbq12; by_cases c13 : bq12 = true
        ·
         subst c13; have H1 : ((impl_RuneWide.f k1 (rd l0 x7_1)).bind fun t344 => (impl_clusterWide.l0 k1 l0 t337 (mx x6_1 t344) (wrap64 (x7_1 + 1)))) = some r := by rw [if_pos rfl] at H; exact H
         clear H; have H := H1; clear H1; replace H := Option.bind_eq_some_iff.mp H; obtain ⟨t344, A140, H⟩ := H; replace H : (impl_clusterWide.l0 k1 l0 t337 (mx x6_1 t344) (wrap64 (x7_1 + 1))) = some r := H; have A14 := az A140; clear A140; obtain ⟨ji15, hji15⟩ : ∃ j_ : Int, (mx x6_1 t344) = j_ := ⟨_, rfl⟩; replace H : (impl_clusterWide.l0 k1 l0 t337 ji15 (wrap64 (x7_1 + 1))) = some r := by first | (rw [hji15] at H; exact H) | (simp only [hji15] at H ⊢; exact H)
         (try rw [hji15] at A14); have hji15_ : (if x6_1 < t344 then t344 else x6_1) = ji15 := hji15; have H' := az H; clear H; obtain ⟨Ao16, co16, eo16⟩ := Kd.R_slice HO_5.out; subst eo16; have p342 : 0 ≤ (x7_1 : Int) := of_decide_eq_true (by assumption); have q342 : x7_1 < (t337.length : Int) := of_decide_eq_true (by assumption); obtain ⟨ad342, e342, hx342_0⟩ := Kd.at_bool (Kd.R_reads' HO_5.out).2.2 x7_1 p342 q342; (try rw [← Nbq12.out] at hx342_0)
         cases e342
         replace p342 := eq_true p342; replace q342 := eq_true q342; have p343 : 0 ≤ (x7_1 : Int) := of_decide_eq_true (by assumption); have q343 : x7_1 < (l0.length : Int) := of_decide_eq_true (by assumption); obtain ⟨ad343, e343, hx343_0⟩ := Kd.at_int HR0.out x7_1 p343 q343; obtain rfl : ad340 = ad343 := (by injection e343); replace hx343_0 := (HB.out.cell (World.block_lt_of_cell? w _ hx343_0)).trans hx343_0; replace p343 := eq_true p343; replace q343 := eq_true q343; go_wp2_with (first | ((with_reducible refine gate_callee (f := 118) rfl ?_); refine goesL_ (some 34) rfl rfl Tryz.func118 (by kernel_rfl) rfl #[.int .i64 (rd l0 x7_1)] rfl zC ?_; (with_reducible refine (impl_RuneWide.calls k1 (rd l0 x7_1) t344 _ A14.out).mono ?_); rintro e w17 ⟨rfl, hb⟩; refine ⟨_, rfl, ?_⟩; have n0_ := az (Kd.R_below (zF HO_5.out) hb); have n1_ := az (below_step (zA HB.out) hb); clear HO_5; clear HB; have HO_5 := n0_; have HB := n1_; clear n0_ n1_; (try clear hb); (try clear hb2); (try clear hk); (try clear hi))); go_roundg k1
         case measure => have := HK1.out; omega
         case rel => exact ⟨(ji15), (wrap64 (x7_1 + 1)), (by first | rfl | (simp; done) | (simp only [← hji15] <;> (first | rfl | simp)) | (simp [*]; done)), zB, H', ⟨zE HK1.out⟩, ⟨zF HO_5.out⟩, ⟨zA HB.out⟩⟩
        ·
         replace c13 := Bool.eq_false_iff.mpr c13; subst c13; have H1 : (some x6_1) = some r := by rw [if_neg (show ¬ (false = true) by decide)] at H; exact H
         clear H; have H := H1; clear H1; obtain rfl := Option.some.inj H; obtain ⟨Ao18, co18, eo18⟩ := Kd.R_slice HO_5.out; subst eo18; have p342 : 0 ≤ (x7_1 : Int) := of_decide_eq_true (by assumption); have q342 : x7_1 < (t337.length : Int) := of_decide_eq_true (by assumption); obtain ⟨ad342, e342, hx342_0⟩ := Kd.at_bool (Kd.R_reads' HO_5.out).2.2 x7_1 p342 q342; (try rw [← Nbq12.out] at hx342_0)
         cases e342
         replace p342 := eq_true p342; replace q342 := eq_true q342; go_wp2; go_ret; exact ⟨zG, zA HB.out⟩
       ·
        rw [if_neg c11] at H; exact absurd H (by simp)
      ·
       rw [if_neg c10] at H; exact absurd H (by simp)
     ·
      rw [if_neg c9] at H; have c9b0 : decide (x7_1 < (l0.length : Int)) = false := decide_eq_false c9; clear c9; obtain rfl := Option.some.inj H; go_wp2; go_ret; exact ⟨zG, zA HB.out⟩
  ·
   rw [if_neg c5] at H; exact absurd H (by simp)
 ·
  rw [if_neg c4] at H; exact absurd H (by simp)
def impl_plainLook.f  : Option (Int × Int) := some (10, 0)
theorem impl_plainLook.calls  (r1 : Int) (r2 : Int) (w : World) (h : impl_plainLook.f  = some (r1, r2)) :
  Calls Tryz.prog 119 #[] w fun e w' => e = .returned (.agg #[.int .i64 r1, .int .i64 r2]) ∧ Below w.heap.size w w' := by
 have hu99 := Tryz.underlying99
 have HB := az (Below.refl w.heap.size w)
 have H : (some (10, 0)) = some (r1, r2) := h
 clear h
 simp only [Option.some.injEq, Prod.mk.injEq] at H
 obtain ⟨rfl, rfl⟩ := H
 go_enter Tryz.func119, Tryz.ntmps119
 go_wp2_with (first | ((with_reducible refine gate_dst (N := 0) rfl ?_); refine box_event ?hg (N := 0) ?hd (cs := #[.int .i64 0, .int .i64 0]) (t := 99) ?hr ?_; (case hd => rfl); (case hg => rfl); (case hr => first | (go_simp; done) | (go_simp; rfl)); intro gb345 hg w1 hbox hb; have n0_ := az (below_step (zA HB.out) hb); have n1_ := az (hbox); have n2_ := az ((by rw [hg]; exact (below_size (zA HB.out)) : w.heap.size ≤ gb345)); have n3_ := az ((by rw [hg]; exact (below_size (zA HB.out)) : w.heap.size ≤ gb345)); clear HB; have HB := n0_; have BK345 := n1_; have GW345 := n2_; have GE345 := n3_; clear n0_ n1_ n2_ n3_; clear hb hbox hg; have hcz2_0 : w1.cell? ⟨gb345, 0, none⟩ = some (.int .i64 0) := (blk_cell BK345.out 0).trans rfl; have hcz2_1 : w1.cell? ⟨gb345, 1, none⟩ = some (.int .i64 0) := (blk_cell BK345.out 1).trans rfl; have hfz2_0 := blk_frozen BK345.out 0; have hfz2_1 := blk_frozen BK345.out 1))
 refine bodyPost_ret (results_cell_row rfl _ _ gb345 99 #[.int .i64 10, .int .i64 0] (0, 0) _ rfl (by (with_reducible repeat (first | refine blk_drewN ?_ _ | refine blk_drew ?_ | refine blk_alloc ?_ _)); refine blk_put (cs := #[.int .i64 10, .int .i64 0]) ?_ 1 _ rfl; (with_reducible repeat (first | refine blk_drewN ?_ _ | refine blk_drew ?_ | refine blk_alloc ?_ _)); refine blk_put (cs := #[.int .i64 0, .int .i64 0]) ?_ 0 _ rfl; (with_reducible repeat (first | refine blk_drewN ?_ _ | refine blk_drew ?_ | refine blk_alloc ?_ _)); exact BK345.out) Tryz.underlying99 rfl (by kernel_rfl)) rfl ?_
 exact ⟨zG, zI HB.out GE345.out⟩
def impl_lookAt.l0 : Nat → Int → List (S50) → Int → Int → Option (Int × Int)
 | 0, _, _, _, _ => none
 | k + 1, x1, x7, x8, x9 => if x9 < x8 then (if 0 ≤ x9 then (if x9 < (x7.length : Int) then (if x1 ≥ ((rd_T50 x7 x9).f0) then (if x1 < ((rd_T50 x7 x9).f1) then (some ((rd_T50 x7 x9).f2, (rd_T50 x7 x9).f3)) else (impl_lookAt.l0 k x1 x7 x8 (wrap64 (x9 + 1)))) else (impl_lookAt.l0 k x1 x7 x8 (wrap64 (x9 + 1)))) else (none)) else (none)) else ((impl_plainLook.f).bind fun bt349 => (some (bt349.1, bt349.2)))
def impl_lookAt.f (k : Nat) (l0 : List (S50)) (a1 : Int) : Option (Int × Int) := impl_lookAt.l0 k a1 l0 (l0.length : Int) 0
theorem impl_lookAt.mono_l : ∀ k, (∀ y0 y1 y2 y3, LeO (impl_lookAt.l0 k y0 y1 y2 y3) (impl_lookAt.l0 (k + 1) y0 y1 y2 y3))
 | 0 => fun _ _ _ _ r h => by simp [impl_lookAt.l0] at h
 | k + 1 => by
  have ih0 := impl_lookAt.mono_l k
  ·
   intro y0 y1 y2 y3; unfold impl_lookAt.l0
   repeat' first
   | (with_reducible exact ih0 _ _ _ _)
   | (with_reducible exact LeO.refl _)
   | (with_reducible exact LeO.none _)
   | (with_reducible refine LeO.ite ?_ ?_)
   | (with_reducible refine LeO.bind ?_ (fun _ => ?_))
   | exact ih0 _ _ _ _
   | exact LeO.none _
   | refine LeO.ite ?_ ?_
   | refine LeO.bind ?_ (fun _ => ?_)
theorem impl_lookAt.mono : ∀ a0 a1 k, LeO (impl_lookAt.f k a0 a1) (impl_lookAt.f (k + 1) a0 a1) := by
 intro a0 a1 k; have ih0 := impl_lookAt.mono_l k; unfold impl_lookAt.f
 repeat' first
   | (with_reducible exact ih0 _ _ _ _)
   | (with_reducible exact LeO.refl _)
   | (with_reducible exact LeO.none _)
   | (with_reducible refine LeO.ite ?_ ?_)
   | (with_reducible refine LeO.bind ?_ (fun _ => ?_))
   | exact ih0 _ _ _ _
   | exact LeO.none _
   | refine LeO.ite ?_ ?_
   | refine LeO.bind ?_ (fun _ => ?_)
theorem impl_lookAt.calls (k : Nat) (A0 : Option Addr) (c0 : Nat) (l0 : List (S50)) (a1 : Int) (r1 : Int) (r2 : Int) (w : World) (hr0 : Kd.C k50 w A0 l0.length l0) (hc0 : l0.length ≤ c0) (h : impl_lookAt.f k l0 a1 = some (r1, r2)) :
  Calls Tryz.prog 87 #[.slice A0 l0.length c0, .int .i64 a1] w fun e w' => e = .returned (.agg #[.int .i64 r1, .int .i64 r2]) ∧ Below w.heap.size w w' := by
 have hu99 := Tryz.underlying99; have hu50 := Tryz.underlying50; have HR0 := az hr0; have HC0 := az hc0; clear hr0 hc0; have HB := az (Below.refl w.heap.size w); have H : (impl_lookAt.l0 k a1 l0 (l0.length : Int) 0) = some (r1, r2) := h; clear h; have H' := az H; clear H; go_enter Tryz.func87, Tryz.ntmps87; go_wp2_with (first | ((with_reducible refine gate_dst (N := 4) rfl ?_); refine box_event ?hg (N := 4) ?hd (cs := #[.int .i64 0, .int .i64 0]) (t := 99) ?hr ?_; (case hd => rfl); (case hg => rfl); (case hr => first | (go_simp; done) | (go_simp; rfl)); intro gb346 hg w3 hbox hb; have n0_ := az (below_step (zA HB.out) hb); have n1_ := az (hbox); have n2_ := az ((by rw [hg]; exact (below_size (zA HB.out)) : w.heap.size ≤ gb346)); have n3_ := az ((by rw [hg]; exact (below_size (zA HB.out)) : w.heap.size ≤ gb346)); clear HB; have HB := n0_; have BK346 := n1_; have GW346 := n2_; have GE346 := n3_; clear n0_ n1_ n2_ n3_; clear hb hbox hg)); go_loopg [9] k (fun kq v9 w' => ∃ (x9_1 : Int) (x347000_1 : Int) (x347001_1 : Int), v9 = .int .i64 x9_1 ∧ Aside0 (impl_lookAt.l0 kq a1 l0 (l0.length : Int) x9_1 = some (r1, r2)) ∧ Aside0 (kq ≤ k) ∧ Aside0 (w'.heap[gb346]? = some (.cells #[.int .i64 x347000_1, .int .i64 x347001_1] 99 (0, 0))) ∧ Aside0 (Below w.heap.size w w'))
 case atStart => exact ⟨(0), (0), (0), zB, H', ⟨Nat.le_refl _⟩, ⟨zN BK346.out⟩, ⟨zI HB.out GE346.out⟩⟩
 case round =>
  clear H'; (try clear p2); obtain ⟨x9_1, x347000_1, x347001_1, rfl, HA, HK1, BK346, HB⟩ := hrel
  cases gk with
  | zero => exact absurd HA.out (by simp [impl_lookAt.l0])
  | succ k1 =>
   have H := HA.out; clear HA; simp only [impl_lookAt.l0] at H; by_cases c4 : x9_1 < (l0.length : Int)
   ·
    rw [if_pos c4] at H; have c4b0 : decide (x9_1 < (l0.length : Int)) = true := decide_eq_true c4; clear c4; by_cases c5 : 0 ≤ x9_1
    ·
     rw [if_pos c5] at H; have c5b0 : decide (0 ≤ x9_1) = true := decide_eq_true c5; clear c5; by_cases c6 : x9_1 < (l0.length : Int)
     ·
      rw [if_pos c6] at H; have c6b0 : decide (x9_1 < (l0.length : Int)) = true := decide_eq_true c6; clear c6; by_cases c7 : a1 ≥ ((rd_T50 l0 x9_1).f0)
      ·
       rw [if_pos c7] at H; have c7b0 : decide (((rd_T50 l0 x9_1).f0) ≤ a1) = true := decide_eq_true c7; clear c7; by_cases c8 : a1 < ((rd_T50 l0 x9_1).f1)
       ·
        rw [if_pos c8] at H; have c8b0 : decide (a1 < ((rd_T50 l0 x9_1).f1)) = true := decide_eq_true c8; clear c8; simp only [Option.some.injEq, Prod.mk.injEq] at H; obtain ⟨rfl, rfl⟩ := H; have p347 : 0 ≤ (x9_1 : Int) := of_decide_eq_true (by assumption); have q347 : x9_1 < (l0.length : Int) := of_decide_eq_true (by assumption); obtain ⟨ad347, e347, hx347_0, hx347_1, hx347_2, hx347_3⟩ := at_T50 HR0.out x9_1 p347 q347
        cases e347
        replace hx347_0 := (HB.out.cell (World.block_lt_of_cell? w _ hx347_0)).trans hx347_0; replace hx347_1 := (HB.out.cell (World.block_lt_of_cell? w _ hx347_1)).trans hx347_1; replace hx347_2 := (HB.out.cell (World.block_lt_of_cell? w _ hx347_2)).trans hx347_2; replace hx347_3 := (HB.out.cell (World.block_lt_of_cell? w _ hx347_3)).trans hx347_3; replace p347 := eq_true p347; replace q347 := eq_true q347; go_wp2_with (first | ((with_reducible refine gate_dst (N := 6) rfl ?_); refine box_event ?hg (N := 6) ?hd (cs := #[.int .i64 0, .int .i64 0, .int .i64 0, .int .i64 0]) (t := 50) ?hr ?_; (case hd => rfl); (case hg => rfl); (case hr => first | (go_simp; done) | (go_simp; rfl)); intro gb348 hg w9 hbox hb; have n0_ := az (blk_below (g := gb346) (o := .cells #[.int .i64 x347000_1, .int .i64 x347001_1] 99 (0, 0)) (zN BK346.out) hb); have n1_ := az (below_step (zI HB.out GE346.out) hb); have n2_ := az (hbox); have n3_ := az ((by rw [hg]; exact (below_size (zI HB.out GE346.out)) : w.heap.size ≤ gb348)); have n4_ := az ((by rw [hg]; exact (below_size (zI HB.out GE346.out)) : w.heap.size ≤ gb348)); have n5_ := az ((by rw [hg]; exact Nat.ne_of_lt (blk_lt (g := gb346) (o := .cells #[.int .i64 x347000_1, .int .i64 x347001_1] 99 (0, 0)) (zN BK346.out)) : gb346 ≠ gb348)); have n6_ := az ((by rw [hg]; exact Nat.ne_of_gt (blk_lt (g := gb346) (o := .cells #[.int .i64 x347000_1, .int .i64 x347001_1] 99 (0, 0)) (zN BK346.out)) : gb348 ≠ gb346)); clear BK346; clear HB; have BK346 := n0_; have HB := n1_; have BK348 := n2_; have GW348 := n3_; have GE348 := n4_; have NB346_348 := n5_; have NB348_346 := n6_; clear n0_ n1_ n2_ n3_ n4_ n5_ n6_; clear hb hbox hg; have hnb10 := NB348_346.out; have hnc10 := NB346_348.out; have hcz11_0 : w9.cell? ⟨gb348, 0, none⟩ = some (.int .i64 0) := (blk_cell BK348.out 0).trans rfl; have hcz11_1 : w9.cell? ⟨gb348, 1, none⟩ = some (.int .i64 0) := (blk_cell BK348.out 1).trans rfl; have hcz11_2 : w9.cell? ⟨gb348, 2, none⟩ = some (.int .i64 0) := (blk_cell BK348.out 2).trans rfl; have hcz11_3 : w9.cell? ⟨gb348, 3, none⟩ = some (.int .i64 0) := (blk_cell BK348.out 3).trans rfl; have hfz11_0 := blk_frozen BK348.out 0; have hfz11_1 := blk_frozen BK348.out 1; have hfz11_2 := blk_frozen BK348.out 2; have hfz11_3 := blk_frozen BK348.out 3; have hcz12_0 : w9.cell? ⟨gb346, 0, none⟩ = some (.int .i64 x347000_1) := (blk_cell BK346.out 0).trans rfl; have hcz12_1 : w9.cell? ⟨gb346, 1, none⟩ = some (.int .i64 x347001_1) := (blk_cell BK346.out 1).trans rfl; have hfz12_0 := blk_frozen BK346.out 0; have hfz12_1 := blk_frozen BK346.out 1)); refine bodyPost_ret (results_cell_row rfl _ _ gb346 99 #[.int .i64 ((rd_T50 l0 x9_1).f2), .int .i64 ((rd_T50 l0 x9_1).f3)] (0, 0) _ rfl (by (with_reducible repeat (first | refine blk_drewN ?_ _ | refine blk_drew ?_ | refine blk_alloc ?_ _)); refine blk_put (cs := #[.int .i64 ((rd_T50 l0 x9_1).f2), .int .i64 x347001_1]) ?_ 1 _ rfl; (with_reducible repeat (first | refine blk_drewN ?_ _ | refine blk_drew ?_ | refine blk_alloc ?_ _)); refine blk_put (cs := #[.int .i64 x347000_1, .int .i64 x347001_1]) ?_ 0 _ rfl; (with_reducible repeat (first | refine blk_drewN ?_ _ | refine blk_drew ?_ | refine blk_alloc ?_ _)); refine blk_far ?_ NB346_348.out _; (with_reducible repeat (first | refine blk_drewN ?_ _ | refine blk_drew ?_ | refine blk_alloc ?_ _)); refine blk_far ?_ NB346_348.out _; (with_reducible repeat (first | refine blk_drewN ?_ _ | refine blk_drew ?_ | refine blk_alloc ?_ _)); refine blk_far ?_ NB346_348.out _; (with_reducible repeat (first | refine blk_drewN ?_ _ | refine blk_drew ?_ | refine blk_alloc ?_ _)); refine blk_far ?_ NB346_348.out _; (with_reducible repeat (first | refine blk_drewN ?_ _ | refine blk_drew ?_ | refine blk_alloc ?_ _)); exact BK346.out) Tryz.underlying99 rfl (by kernel_rfl)) rfl ?_
        exact ⟨zG, zX HB.out GE346.out GE348.out⟩
       ·
        rw [if_neg c8] at H; have c8b0 : decide (a1 < ((rd_T50 l0 x9_1).f1)) = false := decide_eq_false c8; clear c8; have H' := az H; clear H; have p347 : 0 ≤ (x9_1 : Int) := of_decide_eq_true (by assumption); have q347 : x9_1 < (l0.length : Int) := of_decide_eq_true (by assumption); obtain ⟨ad347, e347, hx347_0, hx347_1, hx347_2, hx347_3⟩ := at_T50 HR0.out x9_1 p347 q347
        cases e347
        replace hx347_0 := (HB.out.cell (World.block_lt_of_cell? w _ hx347_0)).trans hx347_0; replace hx347_1 := (HB.out.cell (World.block_lt_of_cell? w _ hx347_1)).trans hx347_1; replace hx347_2 := (HB.out.cell (World.block_lt_of_cell? w _ hx347_2)).trans hx347_2; replace hx347_3 := (HB.out.cell (World.block_lt_of_cell? w _ hx347_3)).trans hx347_3; replace p347 := eq_true p347; replace q347 := eq_true q347; go_wp2_with (first | ((with_reducible refine gate_dst (N := 6) rfl ?_); refine box_event ?hg (N := 6) ?hd (cs := #[.int .i64 0, .int .i64 0, .int .i64 0, .int .i64 0]) (t := 50) ?hr ?_; (case hd => rfl); (case hg => rfl); (case hr => first | (go_simp; done) | (go_simp; rfl)); intro gb348 hg w13 hbox hb; have n0_ := az (blk_below (g := gb346) (o := .cells #[.int .i64 x347000_1, .int .i64 x347001_1] 99 (0, 0)) (zN BK346.out) hb); have n1_ := az (below_step (zI HB.out GE346.out) hb); have n2_ := az (hbox); have n3_ := az ((by rw [hg]; exact (below_size (zI HB.out GE346.out)) : w.heap.size ≤ gb348)); have n4_ := az ((by rw [hg]; exact (below_size (zI HB.out GE346.out)) : w.heap.size ≤ gb348)); have n5_ := az ((by rw [hg]; exact Nat.ne_of_lt (blk_lt (g := gb346) (o := .cells #[.int .i64 x347000_1, .int .i64 x347001_1] 99 (0, 0)) (zN BK346.out)) : gb346 ≠ gb348)); have n6_ := az ((by rw [hg]; exact Nat.ne_of_gt (blk_lt (g := gb346) (o := .cells #[.int .i64 x347000_1, .int .i64 x347001_1] 99 (0, 0)) (zN BK346.out)) : gb348 ≠ gb346)); clear BK346; clear HB; have BK346 := n0_; have HB := n1_; have BK348 := n2_; have GW348 := n3_; have GE348 := n4_; have NB346_348 := n5_; have NB348_346 := n6_; clear n0_ n1_ n2_ n3_ n4_ n5_ n6_; clear hb hbox hg; have hnb14 := NB348_346.out; have hnc14 := NB346_348.out; have hcz15_0 : w13.cell? ⟨gb348, 0, none⟩ = some (.int .i64 0) := (blk_cell BK348.out 0).trans rfl; have hcz15_1 : w13.cell? ⟨gb348, 1, none⟩ = some (.int .i64 0) := (blk_cell BK348.out 1).trans rfl; have hcz15_2 : w13.cell? ⟨gb348, 2, none⟩ = some (.int .i64 0) := (blk_cell BK348.out 2).trans rfl; have hcz15_3 : w13.cell? ⟨gb348, 3, none⟩ = some (.int .i64 0) := (blk_cell BK348.out 3).trans rfl; have hfz15_0 := blk_frozen BK348.out 0; have hfz15_1 := blk_frozen BK348.out 1; have hfz15_2 := blk_frozen BK348.out 2; have hfz15_3 := blk_frozen BK348.out 3)); go_roundg k1
        case measure => have := HK1.out; omega
        case rel => exact ⟨(wrap64 (x9_1 + 1)), (x347000_1), (x347001_1), zB, H', ⟨zE HK1.out⟩, ⟨by (with_reducible repeat (first | refine blk_drewN ?_ _ | refine blk_drew ?_ | refine blk_alloc ?_ _)); refine blk_far ?_ NB346_348.out _; (with_reducible repeat (first | refine blk_drewN ?_ _ | refine blk_drew ?_ | refine blk_alloc ?_ _)); refine blk_far ?_ NB346_348.out _; (with_reducible repeat (first | refine blk_drewN ?_ _ | refine blk_drew ?_ | refine blk_alloc ?_ _)); refine blk_far ?_ NB346_348.out _; (with_reducible repeat (first | refine blk_drewN ?_ _ | refine blk_drew ?_ | refine blk_alloc ?_ _)); refine blk_far ?_ NB346_348.out _; (with_reducible repeat (first | refine blk_drewN ?_ _ | refine blk_drew ?_ | refine blk_alloc ?_ _)); exact BK346.out⟩, ⟨zX HB.out GE346.out GE348.out⟩⟩
      ·
       rw [if_neg c7] at H; have c7b0 : decide (((rd_T50 l0 x9_1).f0) ≤ a1) = false := decide_eq_false c7; clear c7; have H' := az H; clear H; have p347 : 0 ≤ (x9_1 : Int) := of_decide_eq_true (by assumption); have q347 : x9_1 < (l0.length : Int) := of_decide_eq_true (by assumption); obtain ⟨ad347, e347, hx347_0, hx347_1, hx347_2, hx347_3⟩ := at_T50 HR0.out x9_1 p347 q347
       cases e347
       replace hx347_0 := (HB.out.cell (World.block_lt_of_cell? w _ hx347_0)).trans hx347_0; replace hx347_1 := (HB.out.cell (World.block_lt_of_cell? w _ hx347_1)).trans hx347_1; replace hx347_2 := (HB.out.cell (World.block_lt_of_cell? w _ hx347_2)).trans hx347_2; replace hx347_3 := (HB.out.cell (World.block_lt_of_cell? w _ hx347_3)).trans hx347_3; replace p347 := eq_true p347; replace q347 := eq_true q347; go_wp2_with (first | ((with_reducible refine gate_dst (N := 6) rfl ?_); refine box_event ?hg (N := 6) ?hd (cs := #[.int .i64 0, .int .i64 0, .int .i64 0, .int .i64 0]) (t := 50) ?hr ?_; (case hd => rfl); (case hg => rfl); (case hr => first | (go_simp; done) | (go_simp; rfl)); intro gb348 hg w16 hbox hb; have n0_ := az (blk_below (g := gb346) (o := .cells #[.int .i64 x347000_1, .int .i64 x347001_1] 99 (0, 0)) (zN BK346.out) hb); have n1_ := az (below_step (zI HB.out GE346.out) hb); have n2_ := az (hbox); have n3_ := az ((by rw [hg]; exact (below_size (zI HB.out GE346.out)) : w.heap.size ≤ gb348)); have n4_ := az ((by rw [hg]; exact (below_size (zI HB.out GE346.out)) : w.heap.size ≤ gb348)); have n5_ := az ((by rw [hg]; exact Nat.ne_of_lt (blk_lt (g := gb346) (o := .cells #[.int .i64 x347000_1, .int .i64 x347001_1] 99 (0, 0)) (zN BK346.out)) : gb346 ≠ gb348)); have n6_ := az ((by rw [hg]; exact Nat.ne_of_gt (blk_lt (g := gb346) (o := .cells #[.int .i64 x347000_1, .int .i64 x347001_1] 99 (0, 0)) (zN BK346.out)) : gb348 ≠ gb346)); clear BK346; clear HB; have BK346 := n0_; have HB := n1_; have BK348 := n2_; have GW348 := n3_; have GE348 := n4_; have NB346_348 := n5_; have NB348_346 := n6_; clear n0_ n1_ n2_ n3_ n4_ n5_ n6_; clear hb hbox hg; have hnb17 := NB348_346.out; have hnc17 := NB346_348.out; have hcz18_0 : w16.cell? ⟨gb348, 0, none⟩ = some (.int .i64 0) := (blk_cell BK348.out 0).trans rfl; have hcz18_1 : w16.cell? ⟨gb348, 1, none⟩ = some (.int .i64 0) := (blk_cell BK348.out 1).trans rfl; have hcz18_2 : w16.cell? ⟨gb348, 2, none⟩ = some (.int .i64 0) := (blk_cell BK348.out 2).trans rfl; have hcz18_3 : w16.cell? ⟨gb348, 3, none⟩ = some (.int .i64 0) := (blk_cell BK348.out 3).trans rfl; have hfz18_0 := blk_frozen BK348.out 0; have hfz18_1 := blk_frozen BK348.out 1; have hfz18_2 := blk_frozen BK348.out 2; have hfz18_3 := blk_frozen BK348.out 3)); go_roundg k1
       case measure => have := HK1.out; omega
       case rel => exact ⟨(wrap64 (x9_1 + 1)), (x347000_1), (x347001_1), zB, H', ⟨zE HK1.out⟩, ⟨by (with_reducible repeat (first | refine blk_drewN ?_ _ | refine blk_drew ?_ | refine blk_alloc ?_ _)); refine blk_far ?_ NB346_348.out _; (with_reducible repeat (first | refine blk_drewN ?_ _ | refine blk_drew ?_ | refine blk_alloc ?_ _)); refine blk_far ?_ NB346_348.out _; (with_reducible repeat (first | refine blk_drewN ?_ _ | refine blk_drew ?_ | refine blk_alloc ?_ _)); refine blk_far ?_ NB346_348.out _; (with_reducible repeat (first | refine blk_drewN ?_ _ | refine blk_drew ?_ | refine blk_alloc ?_ _)); refine blk_far ?_ NB346_348.out _; (with_reducible repeat (first | refine blk_drewN ?_ _ | refine blk_drew ?_ | refine blk_alloc ?_ _)); exact BK346.out⟩, ⟨zX HB.out GE346.out GE348.out⟩⟩
     ·
      rw [if_neg c6] at H; exact absurd H (by simp)
    ·
     rw [if_neg c5] at H; exact absurd H (by simp)
   ·
    rw [if_neg c4] at H; have c4b0 : decide (x9_1 < (l0.length : Int)) = false := decide_eq_false c4; clear c4; replace H := Option.bind_eq_some_iff.mp H; obtain ⟨⟨t349, t350⟩, A190, H⟩ := H; replace H : (some (t349, t350)) = some (r1, r2) := H; have A19 := az A190; clear A190; simp only [Option.some.injEq, Prod.mk.injEq] at H; obtain ⟨rfl, rfl⟩ := H; go_wp2_with (first | ((with_reducible refine gate_callee (f := 119) rfl ?_); refine goesL_ (some 29) rfl rfl Tryz.func119 (by kernel_rfl) rfl #[] rfl zC ?_; (with_reducible refine (impl_plainLook.calls  t349 t350 _ A19.out).mono ?_); rintro e w20 ⟨rfl, hb⟩; refine ⟨_, rfl, ?_⟩; have n0_ := az (blk_below (g := gb346) (o := .cells #[.int .i64 x347000_1, .int .i64 x347001_1] 99 (0, 0)) (zN BK346.out) hb); have n1_ := az (below_step (zI HB.out GE346.out) hb); clear BK346; clear HB; have BK346 := n0_; have HB := n1_; clear n0_ n1_; (try clear hb); (try clear hb2); (try clear hk); (try clear hi); have hcz21_0 : w20.cell? ⟨gb346, 0, none⟩ = some (.int .i64 x347000_1) := (blk_cell BK346.out 0).trans rfl; have hcz21_1 : w20.cell? ⟨gb346, 1, none⟩ = some (.int .i64 x347001_1) := (blk_cell BK346.out 1).trans rfl; have hfz21_0 := blk_frozen BK346.out 0; have hfz21_1 := blk_frozen BK346.out 1)); refine bodyPost_ret (results_cell_row rfl _ _ gb346 99 #[.int .i64 t349, .int .i64 t350] (0, 0) _ rfl (by (with_reducible repeat (first | refine blk_drewN ?_ _ | refine blk_drew ?_ | refine blk_alloc ?_ _)); refine blk_put (cs := #[.int .i64 t349, .int .i64 x347001_1]) ?_ 1 _ rfl; (with_reducible repeat (first | refine blk_drewN ?_ _ | refine blk_drew ?_ | refine blk_alloc ?_ _)); refine blk_put (cs := #[.int .i64 x347000_1, .int .i64 x347001_1]) ?_ 0 _ rfl; (with_reducible repeat (first | refine blk_drewN ?_ _ | refine blk_drew ?_ | refine blk_alloc ?_ _)); exact BK346.out) Tryz.underlying99 rfl (by kernel_rfl)) rfl ?_; exact ⟨zG, zI HB.out GE346.out⟩
def impl_widesOf.l0 : Nat → List Int → List (S50) → List Int → List Int → Int → Int → Option (List Int)
 | 0, _, _, _, _, _, _ => none
 | k + 1, x0, x1, x5, x12, x13, x14 => if x14 < x13 then (if 0 ≤ x14 then (if x14 < (x12.length : Int) then ((impl_clusterWide.f k x0 (rd x12 x14)).bind fun t358 => ((impl_lookAt.f k x1 (rd x12 x14)).bind fun bt359 => (if 0 ≤ (rd x12 x14) then (if (rd x12 x14) < (x5.length : Int) then (impl_widesOf.l0 k x0 x1 (x5.set ((rd x12 x14) : Int).toNat (wrap64 (t358 * bt359.1))) x12 x13 (wrap64 (x14 + 1))) else (none)) else (none)))) else (none)) else (none)) else (some x5)
def impl_widesOf.f (k : Nat) (l0 : List Int) (l1 : List (S50)) : Option (List Int) := if 0 ≤ (l0.length : Int) then (if ((l0.length : Int) : Int).toNat ≤ 35184372088832 then ((impl_starts.f k l0).bind fun t354 => (impl_widesOf.l0 k l0 l1 (List.replicate ((l0.length : Int) : Int).toNat 0) t354 (t354.length : Int) 0)) else (none)) else (none)
theorem impl_widesOf.mono_l : ∀ k, (∀ y0 y1 y2 y3 y4 y5, LeO (impl_widesOf.l0 k y0 y1 y2 y3 y4 y5) (impl_widesOf.l0 (k + 1) y0 y1 y2 y3 y4 y5))
 | 0 => fun _ _ _ _ _ _ r h => by simp [impl_widesOf.l0] at h
 | k + 1 => by
  have ih0 := impl_widesOf.mono_l k
  ·
   intro y0 y1 y2 y3 y4 y5; unfold impl_widesOf.l0
   repeat' first
   | (with_reducible exact ih0 _ _ _ _ _ _)
   | (with_reducible exact impl_clusterWide.mono _ _ _)
   | (with_reducible exact impl_lookAt.mono _ _ _)
   | (with_reducible exact impl_starts.mono _ _)
   | (with_reducible exact LeO.refl _)
   | (with_reducible exact LeO.none _)
   | (with_reducible refine LeO.ite ?_ ?_)
   | (with_reducible refine LeO.bind ?_ (fun _ => ?_))
   | exact ih0 _ _ _ _ _ _
   | exact impl_clusterWide.mono _ _ _
   | exact impl_lookAt.mono _ _ _
   | exact impl_starts.mono _ _
   | exact LeO.none _
   | refine LeO.ite ?_ ?_
   | refine LeO.bind ?_ (fun _ => ?_)
theorem impl_widesOf.mono : ∀ a0 a1 k, LeO (impl_widesOf.f k a0 a1) (impl_widesOf.f (k + 1) a0 a1) := by
 intro a0 a1 k; have ih0 := impl_widesOf.mono_l k; unfold impl_widesOf.f
 repeat' first
   | (with_reducible exact ih0 _ _ _ _ _ _)
   | (with_reducible exact impl_clusterWide.mono _ _ _)
   | (with_reducible exact impl_lookAt.mono _ _ _)
   | (with_reducible exact impl_starts.mono _ _)
   | (with_reducible exact LeO.refl _)
   | (with_reducible exact LeO.none _)
   | (with_reducible refine LeO.ite ?_ ?_)
   | (with_reducible refine LeO.bind ?_ (fun _ => ?_))
   | exact ih0 _ _ _ _ _ _
   | exact impl_clusterWide.mono _ _ _
   | exact impl_lookAt.mono _ _ _
   | exact impl_starts.mono _ _
   | exact LeO.none _
   | refine LeO.ite ?_ ?_
   | refine LeO.bind ?_ (fun _ => ?_)
theorem fldLook (a b : Int) (w : World) : (Instr.field 99 (.agg #[.int .i64 a, .int .i64 b]) 0).run Tryz.prog w = .ok (.int .i64 a) w := by kernel_rfl
attribute [local go_sem] fldLook
theorem impl_widesOf.calls (k : Nat) (A0 : Option Addr) (c0 : Nat) (l0 : List Int) (A1 : Option Addr) (c1 : Nat) (l1 : List (S50)) (r : List Int) (w : World) (hr0 : Kd.C (Kd.int .i64) w A0 l0.length l0) (hc0 : l0.length ≤ c0) (hr1 : Kd.C k50 w A1 l1.length l1) (hc1 : l1.length ≤ c1) (h : impl_widesOf.f k l0 l1 = some r) :
  Calls Tryz.prog 55 #[.slice A0 l0.length c0, .slice A1 l1.length c1] w fun e w' => ∃ v0_ : Value, e = .returned (v0_) ∧ Kd.R (Kd.int .i64) 3 w' w.heap.size (fun _ => True) v0_ r ∧ Below w.heap.size w w' := by
 have HR0 := az hr0; have HC0 := az hc0; clear hr0 hc0; have HR1 := az hr1; have HC1 := az hc1; clear hr1 hc1; have HB := az (Below.refl w.heap.size w); have H : (if 0 ≤ (l0.length : Int) then (if ((l0.length : Int) : Int).toNat ≤ 35184372088832 then ((impl_starts.f k l0).bind fun t354 => (impl_widesOf.l0 k l0 l1 (List.replicate ((l0.length : Int) : Int).toNat 0) t354 (t354.length : Int) 0)) else (none)) else (none)) = some r := h; clear h; by_cases c3 : 0 ≤ (l0.length : Int)
 ·
  rw [if_pos c3] at H; have c3b0 := eq_true c3; have c3b1 : decide (0 ≤ (l0.length : Int)) = true := decide_eq_true c3; clear c3; by_cases c4 : ((l0.length : Int) : Int).toNat ≤ 35184372088832
  ·
   rw [if_pos c4] at H; have c4b0 := eq_true c4; have c4b1 : decide (((l0.length : Int) : Int).toNat ≤ 35184372088832) = true := decide_eq_true c4; clear c4; obtain ⟨y351, hy351⟩ : ∃ y_ : List Int, y_ = (List.replicate ((l0.length : Int) : Int).toNat 0) := ⟨_, rfl⟩; replace H : ((impl_starts.f k l0).bind fun t354 => (impl_widesOf.l0 k l0 l1 y351 t354 (t354.length : Int) 0)) = some r := by first | (rw [hy351]; with_reducible exact H) | (have H2_ := (Option.bind_some _ _).symm.trans H; rw [hy351]; with_reducible exact H2_) | (have H2_ := (Option.bind_some _ _).symm.trans H; with_reducible exact H2_) | with_reducible exact H | (rw [hy351]; exact H) | exact H
   have Ny351 := az hy351; clear hy351; replace H := Option.bind_eq_some_iff.mp H; obtain ⟨t354, A50, H⟩ := H; replace H : (impl_widesOf.l0 k l0 l1 y351 t354 (t354.length : Int) 0) = some r := H; have A5 := az A50; clear A50; have H' := az H; clear H; go_enter Tryz.func55, Tryz.ntmps55; go_wp2_with (first | ((with_reducible refine gate_dst (N := 10) rfl ?_); refine Kd.R_make (Kd.int .i64) _ 3 rfl (N := 10) rfl 22 _ _ rfl (l0.length : Int) rfl rfl Tryz.underlying22 (.int .i64 0) 8 info3 rfl (by decide) (by omega) 0 (ok := fun _ => True) (okp := fun _ => True) rfl (fun _ hk => hk) trivial (of_decide_eq_true (by assumption)) (Nat.le_trans (Nat.mul_le_mul_right _ (of_decide_eq_true (by assumption) : (l0.length : Int).toNat ≤ 35184372088832)) (by omega)) (Below.refl _ _) (Nat.le_refl _) ?_; intro v352 w6 ho7 hb hg_ hnew_; clear hg_ hnew_; (first | rw [← Ny351.out] at ho7 | (simp only [Int.reduceToNat] at ho7; rw [← Ny351.out] at ho7)); have n0_ := az (Kd.R_lower ho7 (below_size (zA HB.out))); have n1_ := az (below_step (zA HB.out) hb); clear HB; have HO353 := n0_; have HB := n1_; clear n0_ n1_; clear hb ho7) | ((with_reducible refine gate_callee (f := 85) rfl ?_); refine goesL_ (some 12) rfl rfl Tryz.func85 (by kernel_rfl) rfl #[.slice A0 l0.length c0] rfl zC ?_; (with_reducible refine (impl_starts.calls k _ _ l0 t354 _ ?side1 ?side2 A5.out).mono ?_); (case side1 => exact (zO HR0.out HB.out)); (case side2 => exact HC0.out); rintro e w8 ⟨v355, rfl, ho0, hb⟩; refine ⟨_, rfl, ?_⟩; have n0_ := az (Kd.R_elder' (zF HO353.out) (Kd.R_base ho0) hb); have n1_ := az (Kd.R_lower (Kd.R_new' ho0 (Kd.R_lt (zF HO353.out))) (below_size (zA HB.out))); have n2_ := az (below_step (zA HB.out) hb); clear HO353; clear HB; have HO353 := n0_; have HO356 := n1_; have HB := n2_; clear n0_ n1_ n2_; (try clear hb); (try clear hb2); (try clear hk); (try clear hi); (try clear ho0); obtain ⟨Ao9, co9, eo9⟩ := Kd.R_slice HO356.out; subst eo9)); go_loopg [14] k (fun kq v14 w' => ∃ (x5_1 : List Int) (x14_1 : Int), v14 = .int .i64 x14_1 ∧ Aside0 (impl_widesOf.l0 kq l0 l1 x5_1 t354 (t354.length : Int) x14_1 = some r) ∧ Aside0 (kq ≤ k) ∧ Aside0 (Kd.R (Kd.int .i64) 3 w' w.heap.size (fun k_ => some k_ ≠ ((.slice Ao9 t354.length co9) : Value).ownBlock) v352 x5_1) ∧ Aside0 (Kd.R (Kd.int .i64) 3 w' w.heap.size (fun k_ => some k_ ≠ (v352 : Value).ownBlock) (.slice Ao9 t354.length co9) t354) ∧ Aside0 (Below w.heap.size w w'))
   case atStart => exact ⟨(y351), (0), zB, H', ⟨Nat.le_refl _⟩, ⟨zQ HO353.out⟩, ⟨zQ HO356.out⟩, ⟨zA HB.out⟩⟩
   case round =>
    clear H'; (try clear c1); (try clear p2); (try clear c3); (try clear c3b0); (try clear c3b1); (try clear c4); (try clear c4b0); (try clear c4b1); (try clear c5); (try clear c8); obtain ⟨x5_1, x14_1, rfl, HA, HK1, HO_5, HO_12, HB⟩ := hrel
    cases gk with
    | zero => exact absurd HA.out (by simp [impl_widesOf.l0])
    | succ k1 =>
     have H := HA.out; clear HA; simp only [impl_widesOf.l0] at H; by_cases c10 : x14_1 < (t354.length : Int)
     ·
      rw [if_pos c10] at H; have c10b0 : decide (x14_1 < (t354.length : Int)) = true := decide_eq_true c10; clear c10; by_cases c11 : 0 ≤ x14_1
      ·
       rw [if_pos c11] at H; have c11b0 : decide (0 ≤ x14_1) = true := decide_eq_true c11; clear c11; by_cases c12 : x14_1 < (t354.length : Int)
       ·
        rw [if_pos c12] at H; have c12b0 : decide (x14_1 < (t354.length : Int)) = true := decide_eq_true c12; clear c12; replace H := Option.bind_eq_some_iff.mp H; obtain ⟨t358, A130, H⟩ := H; replace H : ((impl_lookAt.f k1 l1 (rd t354 x14_1)).bind fun bt359 => (if 0 ≤ (rd t354 x14_1) then (if (rd t354 x14_1) < (x5_1.length : Int) then (impl_widesOf.l0 k1 l0 l1 (x5_1.set ((rd t354 x14_1) : Int).toNat (wrap64 (t358 * bt359.1))) t354 (t354.length : Int) (wrap64 (x14_1 + 1))) else (none)) else (none))) = some r := H; have A13 := az A130; clear A130; replace H := Option.bind_eq_some_iff.mp H; obtain ⟨⟨t359, t360⟩, A140, H⟩ := H; replace H : (if 0 ≤ (rd t354 x14_1) then (if (rd t354 x14_1) < (x5_1.length : Int) then (impl_widesOf.l0 k1 l0 l1 (x5_1.set ((rd t354 x14_1) : Int).toNat (wrap64 (t358 * t359))) t354 (t354.length : Int) (wrap64 (x14_1 + 1))) else (none)) else (none)) = some r := H; have A14 := az A140; clear A140; by_cases c15 : 0 ≤ (rd t354 x14_1)
        ·
         rw [if_pos c15] at H; have c15b0 : decide (0 ≤ (rd t354 x14_1)) = true := decide_eq_true c15; clear c15; by_cases c16 : (rd t354 x14_1) < (x5_1.length : Int)
         ·
          rw [if_pos c16] at H; have c16b0 : decide ((rd t354 x14_1) < (x5_1.length : Int)) = true := decide_eq_true c16; clear c16; obtain ⟨y361, hy361⟩ : ∃ y_ : List Int, y_ = (x5_1.set ((rd t354 x14_1) : Int).toNat (wrap64 (t358 * t359))) := ⟨_, rfl⟩; replace H : (impl_widesOf.l0 k1 l0 l1 y361 t354 (t354.length : Int) (wrap64 (x14_1 + 1))) = some r := by first | (rw [hy361]; with_reducible exact H) | (have H2_ := (Option.bind_some _ _).symm.trans H; rw [hy361]; with_reducible exact H2_) | (have H2_ := (Option.bind_some _ _).symm.trans H; with_reducible exact H2_) | with_reducible exact H | (rw [hy361]; exact H) | exact H
          have Ny361 := az hy361; clear hy361; have H' := az H; clear H; have p357 : 0 ≤ (x14_1 : Int) := of_decide_eq_true (by assumption); have q357 : x14_1 < (t354.length : Int) := of_decide_eq_true (by assumption); obtain ⟨ad357, e357, hx357_0⟩ := Kd.at_int (Kd.R_reads' HO_12.out).2.2 x14_1 p357 q357
          cases e357
          replace p357 := eq_true p357; replace q357 := eq_true q357; go_wp2_with (first | ((with_reducible refine gate_callee (f := 86) rfl ?_); refine goesL_ (some 22) rfl rfl Tryz.func86 (by kernel_rfl) rfl #[.slice A0 l0.length c0, .int .i64 (rd t354 x14_1)] rfl zC ?_; (with_reducible refine (impl_clusterWide.calls k1 _ _ l0 (rd t354 x14_1) t358 _ ?side1 ?side2 A13.out).mono ?_); (case side1 => exact (zO HR0.out HB.out)); (case side2 => exact HC0.out); rintro e w18 ⟨rfl, hb⟩; refine ⟨_, rfl, ?_⟩; have n0_ := az (Kd.R_below (zF HO_5.out) hb); have n1_ := az (Kd.R_below (zF HO_12.out) hb); have n2_ := az (below_step (zA HB.out) hb); clear HO_5; clear HO_12; clear HB; have HO_5 := n0_; have HO_12 := n1_; have HB := n2_; clear n0_ n1_ n2_; (try clear hb); (try clear hb2); (try clear hk); (try clear hi)) | ((with_reducible refine gate_callee (f := 87) rfl ?_); refine goesL_ (some 25) rfl rfl Tryz.func87 (by kernel_rfl) rfl #[.slice A1 l1.length c1, .int .i64 (rd t354 x14_1)] rfl zC ?_; (with_reducible refine (impl_lookAt.calls k1 _ _ l1 (rd t354 x14_1) t359 t360 _ ?side1 ?side2 A14.out).mono ?_); (case side1 => exact (zO HR1.out HB.out)); (case side2 => exact HC1.out); rintro e w19 ⟨rfl, hb⟩; refine ⟨_, rfl, ?_⟩; have n0_ := az (Kd.R_below (zF HO_5.out) hb); have n1_ := az (Kd.R_below (zF HO_12.out) hb); have n2_ := az (below_step (zA HB.out) hb); clear HO_5; clear HO_12; clear HB; have HO_5 := n0_; have HO_12 := n1_; have HB := n2_; clear n0_ n1_ n2_; (try clear hb); (try clear hb2); (try clear hk); (try clear hi); have p17 : 0 ≤ ((rd t354 x14_1) : Int) := of_decide_eq_true (by assumption); have q17 : ((rd t354 x14_1) : Int) < ((x5_1.length : Int) : Int) := of_decide_eq_true (by assumption); obtain ⟨go17, co17, eo17, gb17, gl17, cl17, HG17⟩ := Kd.R_form HO_5.out (by omega); (first | cases eo17 | (injection eo17 with ea_ en_ ec_; (first | subst ea_ | (injection ea_ with ea_; subst ea_)); subst ec_; clear en_)); have GB17 := az gb17; have GG17 := az HG17; clear gb17 gl17 HG17; obtain ⟨hx17_0, hf17_0⟩ := Kd.R_celln 0 HO_5.out ((rd t354 x14_1) : Int) p17 q17; replace p17 := eq_true p17; replace q17 := eq_true q17; obtain ⟨hy20_, hz20_⟩ := Kd.R_celln 0 HO_5.out ((rd t354 x14_1) : Int) (of_decide_eq_true (by assumption)) (of_decide_eq_true (by assumption)); have HP20 := Kd.R_putg HO_5.out ((rd t354 x14_1) : Int) (wrap64 (t358 * t359))) | ((with_reducible refine gate_store (t := 3) (p := 28) rfl ?_); refine store_event (t := 3) (p := 28) (v := ?vo_w21) (w1 := (w19.setCell ⟨go17, ((rd t354 x14_1) : Int).toNat, none⟩ (.int .i64 (wrap64 (t358 * t359))))) ?hg ?ho ?hn ?hr ?_; (case ho => rfl); (case hg => rfl); (case hn => rfl); (case hr => first | (go_simp; done) | (go_simp; rfl)); intro w21 hw; have hg : w19.grownBy w21 (some go17) := (by rw [hw]; exact HP20.2); have hp_ : Kd.R (Kd.int .i64) 3 w21 w.heap.size (fun k_ => some k_ ≠ (.slice (some ad357) t354.length co9 : Value).ownBlock) (.slice (some ⟨go17, 0, none⟩) x5_1.length co17) y361 := (by rw [hw, Ny361.out]; exact HP20.1); clear HP20; have n0_ := az (hp_); have n1_ := az (Kd.R_after (v := (.slice (some ⟨go17, 0, none⟩) x5_1.length co17)) (v1 := (.slice (some ⟨go17, 0, none⟩) x5_1.length co17)) (ok := (fun _ => True)) (zU HO_12.out) hg (.inl rfl)); have n2_ := az ((by rw [hw]; exact below_set (HB.out) GB17.out : Below w.heap.size w w21)); clear HO_5; clear HO_12; clear HB; have HO_5 := n0_; have HO_12 := n1_; have HB := n2_; clear n0_ n1_ n2_; clear hg hw hp_))
          go_roundg k1
          case measure => have := HK1.out; omega
          case rel => exact ⟨(y361), (wrap64 (x14_1 + 1)), zB, H', ⟨zE HK1.out⟩, ⟨zF HO_5.out⟩, ⟨zQ HO_12.out⟩, ⟨zA HB.out⟩⟩
         ·
          rw [if_neg c16] at H; exact absurd H (by simp)
        ·
         rw [if_neg c15] at H; exact absurd H (by simp)
       ·
        rw [if_neg c12] at H; exact absurd H (by simp)
      ·
       rw [if_neg c11] at H; exact absurd H (by simp)
     ·
      rw [if_neg c10] at H; have c10b0 : decide (x14_1 < (t354.length : Int)) = false := decide_eq_false c10; clear c10; obtain rfl := Option.some.inj H; go_wp2; go_ret; exact ⟨_, zG, by (with_reducible repeat (first | apply Kd.R_alloc | apply Kd.R_drewN | apply Kd.R_drew)); exact Kd.R_mono HO_5.out (fun _ hk => trivial), zA HB.out⟩
  ·
   rw [if_neg c4] at H; exact absurd H (by simp)
 ·
  rw [if_neg c3] at H; exact absurd H (by simp)
def impl_body.l0 : Nat → List Int → Int → Int → Option (Int)
 | 0, _, _, _ => none
 | k + 1, x0, x1, x2 => if x2 > x1 then (if 0 ≤ (wrap64 (x2 - 1)) then (if (wrap64 (x2 - 1)) < (x0.length : Int) then (if (rd x0 (wrap64 (x2 - 1))) = 32 then (impl_body.l0 k x0 x1 (wrap64 (x2 - 1))) else (if (rd x0 (wrap64 (x2 - 1))) = 10 then (impl_body.l0 k x0 x1 (wrap64 (x2 - 1))) else ((impl_RuneWide.f k (rd x0 (wrap64 (x2 - 1)))).bind fun t365 => (if t365 = 0 then (impl_body.l0 k x0 x1 (wrap64 (x2 - 1))) else (some x2))))) else (none)) else (none)) else (some x2)
def impl_body.f (k : Nat) (l0 : List Int) (a1 : Int) (a2 : Int) : Option (Int) := impl_body.l0 k l0 a1 a2
theorem impl_body.mono_l : ∀ k, (∀ y0 y1 y2, LeO (impl_body.l0 k y0 y1 y2) (impl_body.l0 (k + 1) y0 y1 y2))
 | 0 => fun _ _ _ r h => by simp [impl_body.l0] at h
 | k + 1 => by
  have ih0 := impl_body.mono_l k
  ·
   intro y0 y1 y2; unfold impl_body.l0
   repeat' first
   | (with_reducible exact ih0 _ _ _)
   | (with_reducible exact impl_RuneWide.mono _ _)
   | (with_reducible exact LeO.refl _)
   | (with_reducible exact LeO.none _)
   | (with_reducible refine LeO.ite ?_ ?_)
   | (with_reducible refine LeO.bind ?_ (fun _ => ?_))
   | exact ih0 _ _ _
   | exact impl_RuneWide.mono _ _
   | exact LeO.none _
   | refine LeO.ite ?_ ?_
   | refine LeO.bind ?_ (fun _ => ?_)
theorem impl_body.mono : ∀ a0 a1 a2 k, LeO (impl_body.f k a0 a1 a2) (impl_body.f (k + 1) a0 a1 a2) := by
 intro a0 a1 a2 k; have ih0 := impl_body.mono_l k; unfold impl_body.f
 repeat' first
   | (with_reducible exact ih0 _ _ _)
   | (with_reducible exact impl_RuneWide.mono _ _)
   | (with_reducible exact LeO.refl _)
   | (with_reducible exact LeO.none _)
   | (with_reducible refine LeO.ite ?_ ?_)
   | (with_reducible refine LeO.bind ?_ (fun _ => ?_))
   | exact ih0 _ _ _
   | exact impl_RuneWide.mono _ _
   | exact LeO.none _
   | refine LeO.ite ?_ ?_
   | refine LeO.bind ?_ (fun _ => ?_)
theorem impl_body.calls (k : Nat) (A0 : Option Addr) (c0 : Nat) (l0 : List Int) (a1 : Int) (a2 : Int) (r : Int) (w : World) (hr0 : Kd.C (Kd.int .i64) w A0 l0.length l0) (hc0 : l0.length ≤ c0) (h : impl_body.f k l0 a1 a2 = some r) :
  Calls Tryz.prog 89 #[.slice A0 l0.length c0, .int .i64 a1, .int .i64 a2] w fun e w' => e = .returned (.int .i64 r) ∧ Below w.heap.size w w' := by
 have HR0 := az hr0; have HC0 := az hc0; clear hr0 hc0; have HB := az (Below.refl w.heap.size w); have H : (impl_body.l0 k l0 a1 a2) = some r := h; clear h; have H' := az H; clear H; go_enter Tryz.func89, Tryz.ntmps89; go_wp2; go_loopg [2] k (fun kq v2 w' => ∃ (x2_1 : Int), v2 = .int .i64 x2_1 ∧ Aside0 (impl_body.l0 kq l0 a1 x2_1 = some r) ∧ Aside0 (kq ≤ k) ∧ Aside0 (Below w.heap.size w w'))
 case atStart => exact ⟨(a2), zB, H', ⟨Nat.le_refl _⟩, ⟨zA HB.out⟩⟩
 case round =>
  clear H'; (try clear p2); obtain ⟨x2_1, rfl, HA, HK1, HB⟩ := hrel
  cases gk with
  | zero => exact absurd HA.out (by simp [impl_body.l0])
  | succ k1 =>
   have H := HA.out; clear HA; simp only [impl_body.l0] at H; by_cases c4 : x2_1 > a1
   ·
    rw [if_pos c4] at H; have c4b0 : decide (a1 < x2_1) = true := decide_eq_true c4; clear c4; obtain ⟨ji5, hji5⟩ : ∃ j_ : Int, (wrap64 (x2_1 - 1)) = j_ := ⟨_, rfl⟩; replace H : (if 0 ≤ (ji5) then (if (ji5) < (l0.length : Int) then (if (rd l0 (ji5)) = 32 then (impl_body.l0 k1 l0 a1 ji5) else (if (rd l0 (ji5)) = 10 then (impl_body.l0 k1 l0 a1 ji5) else ((impl_RuneWide.f k1 (rd l0 (ji5))).bind fun t365 => (if t365 = 0 then (impl_body.l0 k1 l0 a1 ji5) else (some x2_1))))) else (none)) else (none)) = some r := by first | (rw [hji5] at H; exact H) | (simp only [hji5] at H ⊢; exact H)
    have hji5w : (IntKind.i64.wrap (x2_1 - 1)) = ji5 := (i64_w _).trans hji5; by_cases c6 : 0 ≤ (ji5)
    ·
     rw [if_pos c6] at H; have c6b0 : decide (0 ≤ (ji5)) = true := decide_eq_true c6; clear c6; by_cases c7 : (ji5) < (l0.length : Int)
     ·
      rw [if_pos c7] at H; have c7b0 : decide ((ji5) < (l0.length : Int)) = true := decide_eq_true c7; clear c7; by_cases c8 : (rd l0 (ji5)) = 32
      ·
       rw [if_pos c8] at H; have c8b0 : ((rd l0 (ji5)) == 32) = true := beq_iff_eq.mpr c8; have c8b1 : ((rd l0 (ji5)) != 32) = false := bne_eq_false_iff_eq.mpr c8; clear c8; have H' := az H; clear H; have p362 : 0 ≤ ((ji5) : Int) := of_decide_eq_true (by assumption); have q362 : (ji5) < (l0.length : Int) := of_decide_eq_true (by assumption); obtain ⟨ad362, e362, hx362_0⟩ := Kd.at_int HR0.out (ji5) p362 q362
       cases e362
       replace hx362_0 := (HB.out.cell (World.block_lt_of_cell? w _ hx362_0)).trans hx362_0; replace p362 := eq_true p362; replace q362 := eq_true q362; go_wp2; go_roundg k1
       case measure => have := HK1.out; omega
       case rel => exact ⟨(ji5), (by first | rfl | (simp; done) | (simp only [← hji5] <;> (first | rfl | simp)) | (simp [*]; done)), H', ⟨zE HK1.out⟩, ⟨zA HB.out⟩⟩
      ·
       rw [if_neg c8] at H; have c8b0 : ((rd l0 (ji5)) == 32) = false := beq_eq_false_iff_ne.mpr c8; have c8b1 : ((rd l0 (ji5)) != 32) = true := bne_iff_ne.mpr c8; by_cases c9 : (rd l0 (ji5)) = 10
       ·
        rw [if_pos c9] at H; have c9b0 : ((rd l0 (ji5)) == 10) = true := beq_iff_eq.mpr c9; have c9b1 : ((rd l0 (ji5)) != 10) = false := bne_eq_false_iff_eq.mpr c9; clear c9; have H' := az H; clear H; have p362 : 0 ≤ ((ji5) : Int) := of_decide_eq_true (by assumption); have q362 : (ji5) < (l0.length : Int) := of_decide_eq_true (by assumption); obtain ⟨ad362, e362, hx362_0⟩ := Kd.at_int HR0.out (ji5) p362 q362
        cases e362
        replace hx362_0 := (HB.out.cell (World.block_lt_of_cell? w _ hx362_0)).trans hx362_0; replace p362 := eq_true p362; replace q362 := eq_true q362; have p363 : 0 ≤ ((ji5) : Int) := of_decide_eq_true (by assumption); have q363 : (ji5) < (l0.length : Int) := of_decide_eq_true (by assumption); obtain ⟨ad363, e363, hx363_0⟩ := Kd.at_int HR0.out (ji5) p363 q363; obtain rfl : ad362 = ad363 := (by injection e363); replace hx363_0 := (HB.out.cell (World.block_lt_of_cell? w _ hx363_0)).trans hx363_0; replace p363 := eq_true p363; replace q363 := eq_true q363; go_wp2; go_roundg k1
        case measure => have := HK1.out; omega
        case rel => exact ⟨(ji5), (by first | rfl | (simp; done) | (simp only [← hji5] <;> (first | rfl | simp)) | (simp [*]; done)), H', ⟨zE HK1.out⟩, ⟨zA HB.out⟩⟩
       ·
        rw [if_neg c9] at H; have c9b0 : ((rd l0 (ji5)) == 10) = false := beq_eq_false_iff_ne.mpr c9; have c9b1 : ((rd l0 (ji5)) != 10) = true := bne_iff_ne.mpr c9; replace H := Option.bind_eq_some_iff.mp H; obtain ⟨t365, A100, H⟩ := H; replace H : (if t365 = 0 then (impl_body.l0 k1 l0 a1 ji5) else (some x2_1)) = some r := H; have A10 := az A100; clear A100; by_cases c11 : t365 = 0
        ·
         rw [if_pos c11] at H; have c11b0 : (t365 == 0) = true := beq_iff_eq.mpr c11; have c11b1 : (t365 != 0) = false := bne_eq_false_iff_eq.mpr c11; clear c11; have H' := az H; clear H; have p362 : 0 ≤ ((ji5) : Int) := of_decide_eq_true (by assumption); have q362 : (ji5) < (l0.length : Int) := of_decide_eq_true (by assumption); obtain ⟨ad362, e362, hx362_0⟩ := Kd.at_int HR0.out (ji5) p362 q362
         cases e362
         replace hx362_0 := (HB.out.cell (World.block_lt_of_cell? w _ hx362_0)).trans hx362_0; replace p362 := eq_true p362; replace q362 := eq_true q362; have p363 : 0 ≤ ((ji5) : Int) := of_decide_eq_true (by assumption); have q363 : (ji5) < (l0.length : Int) := of_decide_eq_true (by assumption); obtain ⟨ad363, e363, hx363_0⟩ := Kd.at_int HR0.out (ji5) p363 q363; obtain rfl : ad362 = ad363 := (by injection e363); replace hx363_0 := (HB.out.cell (World.block_lt_of_cell? w _ hx363_0)).trans hx363_0; replace p363 := eq_true p363; replace q363 := eq_true q363; have p364 : 0 ≤ ((ji5) : Int) := of_decide_eq_true (by assumption); have q364 : (ji5) < (l0.length : Int) := of_decide_eq_true (by assumption); obtain ⟨ad364, e364, hx364_0⟩ := Kd.at_int HR0.out (ji5) p364 q364; obtain rfl : ad362 = ad364 := (by injection e364); replace hx364_0 := (HB.out.cell (World.block_lt_of_cell? w _ hx364_0)).trans hx364_0; replace p364 := eq_true p364; replace q364 := eq_true q364; go_wp2_with (first | (go_at_call 118; (with_reducible refine (impl_RuneWide.calls k1 (rd l0 (ji5)) t365 _ A10.out).mono ?_); rintro e w12 ⟨rfl, hb⟩; have n0_ := az (below_step (zA HB.out) hb); clear HB; have HB := n0_; clear n0_; (try clear hb); (try clear hb2); (try clear hk); (try clear hi))); go_roundg k1
         case measure => have := HK1.out; omega
         case rel => exact ⟨(ji5), (by first | rfl | (simp; done) | (simp only [← hji5] <;> (first | rfl | simp)) | (simp [*]; done)), H', ⟨zE HK1.out⟩, ⟨zA HB.out⟩⟩
        ·
         rw [if_neg c11] at H; have c11b0 : (t365 == 0) = false := beq_eq_false_iff_ne.mpr c11; have c11b1 : (t365 != 0) = true := bne_iff_ne.mpr c11; obtain rfl := Option.some.inj H; have p362 : 0 ≤ ((ji5) : Int) := of_decide_eq_true (by assumption); have q362 : (ji5) < (l0.length : Int) := of_decide_eq_true (by assumption); obtain ⟨ad362, e362, hx362_0⟩ := Kd.at_int HR0.out (ji5) p362 q362
         cases e362
         replace hx362_0 := (HB.out.cell (World.block_lt_of_cell? w _ hx362_0)).trans hx362_0; replace p362 := eq_true p362; replace q362 := eq_true q362; have p363 : 0 ≤ ((ji5) : Int) := of_decide_eq_true (by assumption); have q363 : (ji5) < (l0.length : Int) := of_decide_eq_true (by assumption); obtain ⟨ad363, e363, hx363_0⟩ := Kd.at_int HR0.out (ji5) p363 q363; obtain rfl : ad362 = ad363 := (by injection e363); replace hx363_0 := (HB.out.cell (World.block_lt_of_cell? w _ hx363_0)).trans hx363_0; replace p363 := eq_true p363; replace q363 := eq_true q363; have p364 : 0 ≤ ((ji5) : Int) := of_decide_eq_true (by assumption); have q364 : (ji5) < (l0.length : Int) := of_decide_eq_true (by assumption); obtain ⟨ad364, e364, hx364_0⟩ := Kd.at_int HR0.out (ji5) p364 q364; obtain rfl : ad362 = ad364 := (by injection e364); replace hx364_0 := (HB.out.cell (World.block_lt_of_cell? w _ hx364_0)).trans hx364_0; replace p364 := eq_true p364; replace q364 := eq_true q364; go_wp2_with (first | (go_at_call 118; (with_reducible refine (impl_RuneWide.calls k1 (rd l0 (ji5)) t365 _ A10.out).mono ?_); rintro e w13 ⟨rfl, hb⟩; have n0_ := az (below_step (zA HB.out) hb); clear HB; have HB := n0_; clear n0_; (try clear hb); (try clear hb2); (try clear hk); (try clear hi))); go_ret; exact ⟨by first | rfl | (simp [errW_none, errW_some] <;> rfl) | (simp only [← hji5]; first | rfl | (simp [errW_none, errW_some] <;> rfl)) | (simp [*, errW_none, errW_some] <;> rfl), zA HB.out⟩
     ·
      rw [if_neg c7] at H; exact absurd H (by simp)
    ·
     rw [if_neg c6] at H; exact absurd H (by simp)
   ·
    rw [if_neg c4] at H; have c4b0 : decide (a1 < x2_1) = false := decide_eq_false c4; clear c4; obtain rfl := Option.some.inj H; go_wp2; go_ret; exact ⟨zG, zA HB.out⟩
def sumW : List Int → Int → Int
 | [], a => a
 | x :: r, a => sumW r (wrap64 (a + x))
def impl_lineWide.f (k : Nat) (l0 l1 : List Int) (a2 a3 : Int) : Option Int := (impl_body.f k l0 a2 a3).bind fun b => if 0 ≤ a2 ∧ a2 ≤ b ∧ b ≤ (l1.length : Int) then some (sumW ((l1.take b.toNat).drop a2.toNat) 0) else none
theorem impl_lineWide.mono : ∀ a0 a1 a2 a3 k, LeO (impl_lineWide.f k a0 a1 a2 a3) (impl_lineWide.f (k + 1) a0 a1 a2 a3) := by
 intro a0 a1 a2 a3 k
 unfold impl_lineWide.f
 exact LeO.bind (impl_body.mono _ _ _ _) (fun b => LeO.refl _)
theorem cut_get {xs : List Int} {a b j : Nat} (h : a + j < b) (hb : b ≤ xs.length) : ((xs.take b).drop a).getD j 0 = xs.getD (a + j) 0 := by
 simp only [List.getD_eq_getElem?_getD, List.getElem?_drop]
 rw [List.getElem?_take_of_lt h]
theorem impl_lineWide.calls (k : Nat) (A0 : Option Addr) (c0 : Nat) (l0 : List Int) (A1 : Option Addr) (c1 : Nat) (l1 : List Int) (a2 a3 : Int) (r : Int) (w : World) (hr0 : Kd.C (Kd.int .i64) w A0 l0.length l0) (hc0 : l0.length ≤ c0) (hr1 : Kd.C (Kd.int .i64) w A1 l1.length l1) (hc1 : l1.length ≤ c1) (h : impl_lineWide.f k l0 l1 a2 a3 = some r) :
  Calls Tryz.prog 60 #[.slice A0 l0.length c0, .slice A1 l1.length c1, .int .i64 a2, .int .i64 a3] w fun e w' => e = .returned (.int .i64 r) ∧ Below w.heap.size w w' := by
 have HR := az hr0
 have HC := az hc0
 have HR1 := az hr1
 have hmx := hr1.2.1
 have HMX := az hmx
 unfold impl_lineWide.f at h
 replace h := Option.bind_eq_some_iff.mp h
 obtain ⟨b, hb, h⟩ := h
 by_cases hab : 0 ≤ a2 ∧ a2 ≤ b ∧ b ≤ (l1.length : Int)
 case neg => rw [if_neg hab] at h; cases h
 case pos =>
 rw [if_pos hab] at h
 have HF := az (Option.some.inj h)
 have HBD := az hb
 obtain ⟨h1, h2, h3⟩ := hab
 obtain ⟨n, hn⟩ : ∃ n : Nat, b.toNat - a2.toNat = n := ⟨_, rfl⟩
 obtain ⟨na, rfl⟩ : ∃ na : Nat, a2 = na := ⟨a2.toNat, by omega⟩
 obtain ⟨nb, rfl⟩ : ∃ nb : Nat, b = nb := ⟨b.toNat, by omega⟩
 simp only [Int.toNat_natCast] at hn HF
 have hlen : ((l1.take nb).drop na).length = n := by simp; omega
 have hbc : (nb : Int) ≤ (c1 : Int) := by omega
 have hab2 : (na : Int) ≤ (nb : Int) := h2
 have hna0 : (0 : Int) ≤ (na : Int) := h1
 have HLEN := az hlen
 have HN := az hn
 have H3 := az h3
 clear hr0 hc0 hr1 h hb h1 h2 hlen hn hmx
 by_cases hz : na = nb
 ·
  subst hz
  have hr0 : r = 0 := by
   have := HF.out
   rw [List.drop_eq_nil_of_le (by simp; omega), sumW] at this
   exact this.symm
  subst hr0
  clear HF
  go_enter Tryz.func60, Tryz.ntmps60
  go_wp2_with (first
   | (go_at_call 89; go_must (refine (impl_body.calls k A0 c0 l0 (na : Int) a3 (na : Int) _ HR.out HC.out HBD.out).mono ?_); rintro e w1 ⟨rfl, hb1⟩; have HB1 := az hb1; clear hb1))
  all_goals
   go_loopg [9, 20] 0 (fun gg s9 s20 wr => s9 = .int .i64 0 ∧ s20 = .int .i64 0 ∧ Aside0 (Below w.heap.size w wr))
   case atStart => exact ⟨rfl, rfl, HB1⟩
   case round =>
    obtain ⟨rfl, rfl, HB⟩ := hrel
    go_wp2
    go_ret
    exact ⟨rfl, HB.out⟩
 ·
  have hlt0 : na < nb := by omega
  have hb9 : nb ≤ 9223372036854775807 := by have := H3.out; have := HMX.out; omega
  have hcn : ¬ c1 = na := by omega
  obtain ⟨ad1, hA1, _⟩ := Kd.at_int HR1.out 0 (by omega) (zE H3.out)
  subst hA1
  go_enter Tryz.func60, Tryz.ntmps60
  go_wp2_with (first
   | (go_at_call 89; go_must (refine (impl_body.calls k A0 c0 l0 (na : Int) a3 (nb : Int) _ HR.out HC.out HBD.out).mono ?_); rintro e w1 ⟨rfl, hb1⟩; have HB1 := az hb1; clear hb1))
  go_loopg [9, 20] (nb - na) (fun gg s9 s20 wr => ∃ (i : Nat) (s : Int), s20 = .int .i64 i ∧ s9 = .int .i64 s ∧ i ≤ nb - na ∧ nb - na - i ≤ gg ∧ Aside0 (sumW (((l1.take nb).drop na).drop i) s = r) ∧ Aside0 (Below w.heap.size w wr))
  case atStart => exact ⟨0, 0, rfl, rfl, Nat.zero_le _, by omega, HF, HB1⟩
  case round =>
   clear HF
   obtain ⟨i, s, rfl, rfl, hi, hg, HF, HB⟩ := hrel
   by_cases hlt : i < nb - na
   ·
    have HLT := az hlt
    have hltz : (i : Int) < ((nb - na : Nat) : Int) := by omega
    obtain ⟨ad, hA, hx⟩ := Kd.at_int (Kd.C_below HR1.out HB.out) ((na + i : Nat) : Int) (by omega) (zE H3.out)
    obtain rfl : ad1 = ad := by injection hA
    rw [Int.toNat_natCast, ← add_add] at hx
    have hx1 : rd l1 ((na + i : Nat) : Int) = l1.getD (na + i) 0 := by unfold rd; rw [Int.toNat_natCast]
    rw [hx1] at hx
    have hq := HF.out
    have hl1 : i < ((l1.take nb).drop na).length := by rw [HLEN.out, ← HN.out]; exact hlt
    rw [List.drop_eq_getElem_cons hl1, sumW] at hq
    have hx2 : ((l1.take nb).drop na)[i] = l1.getD (na + i) 0 := by
     rw [← cut_get (a := na) (b := nb) (j := i) (xs := l1) (by omega) (zE H3.out), List.getD_eq_getElem?_getD, List.getElem?_eq_getElem hl1, Option.getD_some]
    rw [hx2] at hq
    obtain ⟨x, hxx⟩ : ∃ x, l1.getD (na + i) 0 = x := ⟨_, rfl⟩
    rw [hxx] at hx hq
    have HQ := az hq
    clear hx1 hx2 hxx hq hl1 hA HF
    go_wp2
    go_roundg (nb - na - (i + 1))
    case measure => have := HLT.out; omega
    case rel => exact ⟨i + 1, _, by go_num, by first | rfl | (rw [i64_w]), HLT.out, Nat.le_refl _, HQ, HB⟩
   ·
    have hltz : ¬ (i : Int) < ((nb - na : Nat) : Int) := by omega
    obtain rfl : i = nb - na := by omega
    have hq := HF.out
    rw [List.drop_eq_nil_of_le (by rw [HLEN.out, ← HN.out]; exact Nat.le_refl _), sumW] at hq
    subst hq
    clear HF
    go_wp2
    go_ret
    exact ⟨rfl, HB.out⟩
def slices_Index_int_int.l0 : Nat → List Int → Int → Int → Int → Option (Int)
 | 0, _, _, _, _ => none
 | k + 1, x0, x1, x7, x8 => if x8 < x7 then (if 0 ≤ x8 then (if x8 < (x0.length : Int) then (if x1 = (rd x0 x8) then (some x8) else (slices_Index_int_int.l0 k x0 x1 x7 (wrap64 (x8 + 1)))) else (none)) else (none)) else (some (-1))
def slices_Index_int_int.f (k : Nat) (l0 : List Int) (a1 : Int) : Option (Int) := slices_Index_int_int.l0 k l0 a1 (l0.length : Int) 0
theorem slices_Index_int_int.mono_l : ∀ k, (∀ y0 y1 y2 y3, LeO (slices_Index_int_int.l0 k y0 y1 y2 y3) (slices_Index_int_int.l0 (k + 1) y0 y1 y2 y3))
 | 0 => fun _ _ _ _ r h => by simp [slices_Index_int_int.l0] at h
 | k + 1 => by
  have ih0 := slices_Index_int_int.mono_l k
  ·
   intro y0 y1 y2 y3; unfold slices_Index_int_int.l0
   repeat' first
   | (with_reducible exact ih0 _ _ _ _)
   | (with_reducible exact LeO.refl _)
   | (with_reducible exact LeO.none _)
   | (with_reducible refine LeO.ite ?_ ?_)
   | (with_reducible refine LeO.bind ?_ (fun _ => ?_))
   | exact ih0 _ _ _ _
   | exact LeO.none _
   | refine LeO.ite ?_ ?_
   | refine LeO.bind ?_ (fun _ => ?_)
theorem slices_Index_int_int.mono : ∀ a0 a1 k, LeO (slices_Index_int_int.f k a0 a1) (slices_Index_int_int.f (k + 1) a0 a1) := by
 intro a0 a1 k; have ih0 := slices_Index_int_int.mono_l k; unfold slices_Index_int_int.f
 repeat' first
   | (with_reducible exact ih0 _ _ _ _)
   | (with_reducible exact LeO.refl _)
   | (with_reducible exact LeO.none _)
   | (with_reducible refine LeO.ite ?_ ?_)
   | (with_reducible refine LeO.bind ?_ (fun _ => ?_))
   | exact ih0 _ _ _ _
   | exact LeO.none _
   | refine LeO.ite ?_ ?_
   | refine LeO.bind ?_ (fun _ => ?_)
theorem slices_Index_int_int.calls (k : Nat) (A0 : Option Addr) (c0 : Nat) (l0 : List Int) (a1 : Int) (r : Int) (w : World) (hr0 : Kd.C (Kd.int .i64) w A0 l0.length l0) (hc0 : l0.length ≤ c0) (h : slices_Index_int_int.f k l0 a1 = some r) :
  Calls Tryz.prog 83 #[.slice A0 l0.length c0, .int .i64 a1] w fun e w' => e = .returned (.int .i64 r) ∧ Drawn0 w w' := by
 have HR0 := az hr0; have HC0 := az hc0; clear hr0 hc0; have H : (slices_Index_int_int.l0 k l0 a1 (l0.length : Int) 0) = some r := h; clear h; have H' := az H; clear H; go_enter Tryz.func83, Tryz.ntmps83; go_wp2; go_loopg [8] k (fun kq v8 w' => ∃ (x8_1 : Int), v8 = .int .i64 x8_1 ∧ Aside0 (slices_Index_int_int.l0 kq l0 a1 (l0.length : Int) x8_1 = some r) ∧ Aside0 (kq ≤ k) ∧ Drawn0 w w')
 case atStart => exact ⟨(0), zB, H', ⟨Nat.le_refl _⟩, zD⟩
 case round =>
  clear H'; (try clear p2); obtain ⟨x8_1, rfl, HA, HK1, ⟨m1, rfl⟩⟩ := hrel
  cases gk with
  | zero => exact absurd HA.out (by simp [slices_Index_int_int.l0])
  | succ k1 =>
   have H := HA.out; clear HA; simp only [slices_Index_int_int.l0] at H; by_cases c3 : x8_1 < (l0.length : Int)
   ·
    rw [if_pos c3] at H; have c3b0 : decide (x8_1 < (l0.length : Int)) = true := decide_eq_true c3; clear c3; by_cases c4 : 0 ≤ x8_1
    ·
     rw [if_pos c4] at H; have c4b0 : decide (0 ≤ x8_1) = true := decide_eq_true c4; clear c4; by_cases c5 : x8_1 < (l0.length : Int)
     ·
      rw [if_pos c5] at H; have c5b0 : decide (x8_1 < (l0.length : Int)) = true := decide_eq_true c5; clear c5; by_cases c6 : a1 = (rd l0 x8_1)
      ·
       rw [if_pos c6] at H; have c6b0 : (a1 == (rd l0 x8_1)) = true := beq_iff_eq.mpr c6; have c6b1 : (a1 != (rd l0 x8_1)) = false := bne_eq_false_iff_eq.mpr c6; clear c6; obtain rfl := Option.some.inj H; have p366 : 0 ≤ (x8_1 : Int) := of_decide_eq_true (by assumption); have q366 : x8_1 < (l0.length : Int) := of_decide_eq_true (by assumption); obtain ⟨ad366, e366, hx366_0⟩ := Kd.at_int HR0.out x8_1 p366 q366
       cases e366
       replace p366 := eq_true p366; replace q366 := eq_true q366; go_wp2; go_ret; exact ⟨zB, zD⟩
      ·
       rw [if_neg c6] at H; have c6b0 : (a1 == (rd l0 x8_1)) = false := beq_eq_false_iff_ne.mpr c6; have c6b1 : (a1 != (rd l0 x8_1)) = true := bne_iff_ne.mpr c6; have H' := az H; clear H; have p366 : 0 ≤ (x8_1 : Int) := of_decide_eq_true (by assumption); have q366 : x8_1 < (l0.length : Int) := of_decide_eq_true (by assumption); obtain ⟨ad366, e366, hx366_0⟩ := Kd.at_int HR0.out x8_1 p366 q366
       cases e366
       replace p366 := eq_true p366; replace q366 := eq_true q366; go_wp2; go_roundg k1
       case measure => have := HK1.out; omega
       case rel => exact ⟨(wrap64 (x8_1 + 1)), zB, H', ⟨zE HK1.out⟩, zD⟩
     ·
      rw [if_neg c5] at H; exact absurd H (by simp)
    ·
     rw [if_neg c4] at H; exact absurd H (by simp)
   ·
    rw [if_neg c3] at H; have c3b0 : decide (x8_1 < (l0.length : Int)) = false := decide_eq_false c3; clear c3; obtain rfl := Option.some.inj H; go_wp2; go_ret; exact ⟨zB, zD⟩
theorem newFiller_calls (k : Nat) (A0 : Option Addr) (c0 : Nat) (rs : List Int) (A1 : Option Addr) (c1 : Nat) (sp : List S50) (wide : Int) (ws bs : List Int) (w : World) (hr0 : Kd.C (Kd.int .i64) w A0 rs.length rs) (hc0 : rs.length ≤ c0) (hr1 : Kd.C k50 w A1 sp.length sp) (hc1 : sp.length ≤ c1) (hw : impl_widesOf.f k rs sp = some ws) (hb : impl_breaks.f k rs = some bs) :
  Calls Tryz.prog 40 #[.slice A0 rs.length c0, .slice A1 sp.length c1, .int .i64 wide] w fun e w' => ∃ (gb : Nat) (A2 : Option Addr) (c2 : Nat) (A3 : Option Addr) (c3 : Nat), e = .returned (.pointer (some ⟨gb, 0, none⟩)) ∧ FlO 69 gb A0 c0 rs A2 c2 ws A3 c3 bs wide w' ∧ Below w.heap.size w w' := by
 have HR := az hr0
 have HC := az hc0
 have HR1 := az hr1
 have HC1 := az hc1
 have HW := az hw
 have HB := az hb
 clear hr0 hc0 hr1 hc1 hw hb
 go_enter Tryz.func40, Tryz.ntmps40
 go_wp2_with (first
  | (go_at_call 55; go_must (refine (impl_widesOf.calls k A0 c0 rs A1 c1 sp ws _ HR.out HC.out HR1.out HC1.out HW.out).mono ?_); rintro e w1 ⟨v1, rfl, ho1, hb1⟩; obtain ⟨A2, c2, e2⟩ := Kd.R_slice ho1; subst e2; have HO1 := az ho1; have HB1 := az hb1; clear ho1 hb1)
  | (go_at_call 49; go_must (refine (impl_breaks.calls k A0 c0 rs bs _ (Kd.C_below HR.out HB1.out) HC.out HB.out).mono ?_); rintro e w2 ⟨v2, rfl, ho2, hb2⟩; obtain ⟨A3, c3, e3⟩ := Kd.R_slice ho2; subst e3; have HO2 := az ho2; have HW2 := az (Kd.C_below (Kd.R_reads' HO1.out).2.2 hb2); have HB2 := az (below_then HB1.out HB1.out.size hb2); clear ho2 hb2))
 go_ret
 have hn := blk_new w2 (.cells #[.slice A0 rs.length c0, .slice A2 ws.length c2, .slice A3 bs.length c3, .int .i64 wide] 69)
 have ha : Below w2.heap.size w2 (w2.alloc (.cells #[.slice A0 rs.length c0, .slice A2 ws.length c2, .slice A3 bs.length c3, .int .i64 wide] 69)) := below_alloc (Below.refl _ _) _
 exact ⟨w2.heap.size, A2, c2, A3, c3, rfl, ⟨hn, Kd.C_below (Kd.C_below HR.out HB2.out) ha, HC.out, Kd.C_below HW2.out ha, (Kd.R_reads' HO1.out).2.1, Kd.C_below (Kd.R_reads' HO2.out).2.2 ha, (Kd.R_reads' HO2.out).2.1⟩, below_alloc HB2.out _⟩
theorem fitsI_calls (k : Nat) (gb : Nat) (A0 : Option Addr) (c0 : Nat) (rs : List Int) (A1 : Option Addr) (c1 : Nat) (ws : List Int) (A2 : Option Addr) (c2 : Nat) (bs : List Int) (wide from_ to_ x : Int) (w : World) (hf : FlO 69 gb A0 c0 rs A1 c1 ws A2 c2 bs wide w) (hx : impl_lineWide.f k rs ws from_ to_ = some x) :
  Calls Tryz.prog 53 #[.pointer (some ⟨gb, 0, none⟩), .int .i64 from_, .int .i64 to_] w fun e w' => e = .returned (.bool (decide (x ≤ wide))) ∧ Below w.heap.size w w' := by
 have hS := FlI.of (w0 := w) hf (Below.refl _ _)
 have HX := az hx
 unfold FlI at hS
 clear hf hx
 go_enter Tryz.func53, Tryz.ntmps53
 go_upto_region 1 with fail
 go_region_held3 (fun W => W.cell? ⟨gb, 0, none⟩ = some (.slice A0 rs.length c0) ∧ W.cell? ⟨gb, 1, none⟩ = some (.slice A1 ws.length c1) ∧ W.cell? ⟨gb, 2, none⟩ = some (.slice A2 bs.length c2) ∧ W.cell? ⟨gb, 3, none⟩ = some (.int .i64 wide) ∧ Aside0 (FlO 69 gb A0 c0 rs A1 c1 ws A2 c2 bs wide W ∧ Below w.heap.size w W)) (first | (with_reducible assumption) | (with_reducible refine FlI.below ?_ zH; with_reducible assumption) | (with_reducible exact FlI.drew zH)) (first
  | (go_at_call 60; refine (impl_lineWide.calls k A0 c0 rs A1 c1 ws from_ to_ x _ ?s1 ?s2 ?s3 ?s4 HX.out).mono ?_; (case s1 => exact (show FlI 69 gb A0 c0 rs A1 c1 ws A2 c2 bs wide w _ from zH).2.2.2.2.out.1.2.1); (case s2 => exact (show FlI 69 gb A0 c0 rs A1 c1 ws A2 c2 bs wide w _ from zH).2.2.2.2.out.1.2.2.1); (case s3 => exact (show FlI 69 gb A0 c0 rs A1 c1 ws A2 c2 bs wide w _ from zH).2.2.2.2.out.1.2.2.2.1); (case s4 => exact (show FlI 69 gb A0 c0 rs A1 c1 ws A2 c2 bs wide w _ from zH).2.2.2.2.out.1.2.2.2.2.1); rintro e w3 ⟨rfl, p⟩))
 all_goals
  go_wp2
  go_ret
  exact ⟨rfl, (show FlI 69 gb A0 c0 rs A1 c1 ws A2 c2 bs wide w _ from zH).2.2.2.2.out.2⟩
theorem mustI_calls (k : Nat) (gb : Nat) (A0 : Option Addr) (c0 : Nat) (rs : List Int) (A1 : Option Addr) (c1 : Nat) (ws : List Int) (A2 : Option Addr) (c2 : Nat) (bs : List Int) (wide : Int) (m : Nat) (x : Int) (w : World) (hf : FlO 69 gb A0 c0 rs A1 c1 ws A2 c2 bs wide w) (hm : m ≤ bs.length) (hn : bs.length ≤ 1000) (hx : slices_Index_int_int.f k (bs.drop m) 2 = some x) (hx0 : -1 ≤ x) (hx1 : x ≤ 1000) :
  Calls Tryz.prog 52 #[.pointer (some ⟨gb, 0, none⟩), .int .i64 m] w fun e w' => e = .returned (.int .i64 (m + x + 1)) ∧ Drawn0 w w' := by
 have q2 := (blk_cell hf.1 2).trans (show _ = some (Value.slice A2 bs.length c2) from rfl)
 have hC := hf.2.2.2.2.2.1
 have hcc := hf.2.2.2.2.2.2
 have HD := az (Kd.C_drop (m := m) (c := c2) hC hm hcc)
 have HX := az hx
 have hw1 : wrap64 ((m : Int) + x) = (m : Int) + x := by unfold wrap64; omega
 have hw2 : IntKind.i64.wrap ((m : Int) + x) = (m : Int) + x := by rw [i64_w]; exact hw1
 have hw3 : wrap64 ((m : Int) + x + 1) = (m : Int) + x + 1 := by unfold wrap64; omega
 have hw4 : IntKind.i64.wrap ((m : Int) + x + 1) = (m : Int) + x + 1 := by rw [i64_w]; exact hw3
 have hm0 : (0 : Int) ≤ (m : Int) := by omega
 have hm1 : (m : Int) ≤ (bs.length : Int) := by omega
 have hm2 : (bs.length : Int) ≤ (c2 : Int) := by omega
 clear hf hC hx
 by_cases hc : c2 = m
 ·
  subst hc
  rw [if_pos rfl] at HD
  have he : bs.drop c2 = [] := List.drop_eq_nil_of_le (by omega)
  rw [he] at HD HX
  clear he
  go_enter Tryz.func52, Tryz.ntmps52
  go_wp2_with (go_at_call 83; go_must (refine (slices_Index_int_int.calls k A2 0 [] 2 x _ HD.out (Nat.le_refl _) HX.out).mono ?_); rintro e w1 ⟨rfl, ⟨nd, rfl⟩⟩)
  go_ret
  exact ⟨rfl, ⟨⟨_, rfl⟩⟩⟩
 ·
  rw [if_neg hc, show (Kd.int .i64).sz = 1 from rfl, Nat.mul_one] at HD
  go_enter Tryz.func52, Tryz.ntmps52
  go_wp2_with (go_at_call 83; rw [show bs.length - m = (bs.drop m).length from (List.length_drop ..).symm]; go_must (refine (slices_Index_int_int.calls k _ _ (bs.drop m) 2 x _ HD.out (by simp; omega) HX.out).mono ?_); rintro e w1 ⟨rfl, ⟨nd, rfl⟩⟩)
  go_ret
  exact ⟨rfl, ⟨⟨_, rfl⟩⟩⟩
def impl_endsOk.l0 : Nat → Int → Int → List Int → Int → Int → Option (Bool)
 | 0, _, _, _, _, _ => none
 | k + 1, x1, x5, x8, x9, x10 => if x10 < x9 then (if 0 ≤ x10 then (if x10 < (x8.length : Int) then (if (rd x8 x10) ≤ x5 then (some false) else (impl_endsOk.l0 k x1 (rd x8 x10) x8 x9 (wrap64 (x10 + 1)))) else (none)) else (none)) else (some (x5 == x1))
def impl_endsOk.f (k : Nat) (l0 : List Int) (a1 : Int) : Option (Bool) := impl_endsOk.l0 k a1 0 l0 (l0.length : Int) 0
theorem impl_endsOk.mono_l : ∀ k, (∀ y0 y1 y2 y3 y4, LeO (impl_endsOk.l0 k y0 y1 y2 y3 y4) (impl_endsOk.l0 (k + 1) y0 y1 y2 y3 y4))
 | 0 => fun _ _ _ _ _ r h => by simp [impl_endsOk.l0] at h
 | k + 1 => by
  have ih0 := impl_endsOk.mono_l k
  ·
   intro y0 y1 y2 y3 y4; unfold impl_endsOk.l0
   repeat' first
   | (with_reducible exact ih0 _ _ _ _ _)
   | (with_reducible exact LeO.refl _)
   | (with_reducible exact LeO.none _)
   | (with_reducible refine LeO.ite ?_ ?_)
   | (with_reducible refine LeO.bind ?_ (fun _ => ?_))
   | exact ih0 _ _ _ _ _
   | exact LeO.none _
   | refine LeO.ite ?_ ?_
   | refine LeO.bind ?_ (fun _ => ?_)
theorem impl_endsOk.mono : ∀ a0 a1 k, LeO (impl_endsOk.f k a0 a1) (impl_endsOk.f (k + 1) a0 a1) := by
 intro a0 a1 k; have ih0 := impl_endsOk.mono_l k; unfold impl_endsOk.f
 repeat' first
   | (with_reducible exact ih0 _ _ _ _ _)
   | (with_reducible exact LeO.refl _)
   | (with_reducible exact LeO.none _)
   | (with_reducible refine LeO.ite ?_ ?_)
   | (with_reducible refine LeO.bind ?_ (fun _ => ?_))
   | exact ih0 _ _ _ _ _
   | exact LeO.none _
   | refine LeO.ite ?_ ?_
   | refine LeO.bind ?_ (fun _ => ?_)
theorem impl_endsOk.calls (k : Nat) (A0 : Option Addr) (c0 : Nat) (l0 : List Int) (a1 : Int) (r : Bool) (w : World) (hr0 : Kd.C (Kd.int .i64) w A0 l0.length l0) (hc0 : l0.length ≤ c0) (h : impl_endsOk.f k l0 a1 = some r) :
  Calls Tryz.prog 50 #[.slice A0 l0.length c0, .int .i64 a1] w fun e w' => e = .returned (.bool r) ∧ Drawn0 w w' := by
 have HR0 := az hr0; have HC0 := az hc0; clear hr0 hc0; have H : (impl_endsOk.l0 k a1 0 l0 (l0.length : Int) 0) = some r := h; clear h; have H' := az H; clear H; go_enter Tryz.func50, Tryz.ntmps50; go_wp2; go_loopg [5, 10] k (fun kq v5 v10 w' => ∃ (x5_1 : Int) (x10_1 : Int), v5 = .int .i64 x5_1 ∧ v10 = .int .i64 x10_1 ∧ Aside0 (impl_endsOk.l0 kq a1 x5_1 l0 (l0.length : Int) x10_1 = some r) ∧ Aside0 (kq ≤ k) ∧ Drawn0 w w')
 case atStart => exact ⟨(0), (0), zB, zB, H', ⟨Nat.le_refl _⟩, zD⟩
 case round =>
  clear H'; (try clear p2); obtain ⟨x5_1, x10_1, rfl, rfl, HA, HK1, ⟨m1, rfl⟩⟩ := hrel
  cases gk with
  | zero => exact absurd HA.out (by simp [impl_endsOk.l0])
  | succ k1 =>
   have H := HA.out; clear HA; simp only [impl_endsOk.l0] at H; by_cases c3 : x10_1 < (l0.length : Int)
   ·
    rw [if_pos c3] at H; have c3b0 : decide (x10_1 < (l0.length : Int)) = true := decide_eq_true c3; clear c3; by_cases c4 : 0 ≤ x10_1
    ·
     rw [if_pos c4] at H; have c4b0 : decide (0 ≤ x10_1) = true := decide_eq_true c4; clear c4; by_cases c5 : x10_1 < (l0.length : Int)
     ·
      rw [if_pos c5] at H; have c5b0 : decide (x10_1 < (l0.length : Int)) = true := decide_eq_true c5; clear c5; by_cases c6 : (rd l0 x10_1) ≤ x5_1
      ·
       rw [if_pos c6] at H; have c6b0 : decide ((rd l0 x10_1) ≤ x5_1) = true := decide_eq_true c6; clear c6; obtain rfl := Option.some.inj H; have p443 : 0 ≤ (x10_1 : Int) := of_decide_eq_true (by assumption); have q443 : x10_1 < (l0.length : Int) := of_decide_eq_true (by assumption); obtain ⟨ad443, e443, hx443_0⟩ := Kd.at_int HR0.out x10_1 p443 q443
       cases e443
       replace p443 := eq_true p443; replace q443 := eq_true q443; go_wp2; go_ret; exact ⟨zB, zD⟩
      ·
       rw [if_neg c6] at H; have c6b0 : decide ((rd l0 x10_1) ≤ x5_1) = false := decide_eq_false c6; clear c6; have H' := az H; clear H; have p443 : 0 ≤ (x10_1 : Int) := of_decide_eq_true (by assumption); have q443 : x10_1 < (l0.length : Int) := of_decide_eq_true (by assumption); obtain ⟨ad443, e443, hx443_0⟩ := Kd.at_int HR0.out x10_1 p443 q443
       cases e443
       replace p443 := eq_true p443; replace q443 := eq_true q443; go_wp2; go_roundg k1
       case measure => have := HK1.out; omega
       case rel => exact ⟨(rd l0 x10_1), (wrap64 (x10_1 + 1)), zB, zB, H', ⟨zE HK1.out⟩, zD⟩
     ·
      rw [if_neg c5] at H; exact absurd H (by simp)
    ·
     rw [if_neg c4] at H; exact absurd H (by simp)
   ·
    rw [if_neg c3] at H; have c3b0 : decide (x10_1 < (l0.length : Int)) = false := decide_eq_false c3; clear c3; obtain rfl := Option.some.inj H; go_wp2; go_ret; exact ⟨zB, zD⟩
theorem costI_calls (k : Nat) (gb : Nat) (A0 : Option Addr) (c0 : Nat) (rs : List Int) (A1 : Option Addr) (c1 : Nat) (ws : List Int) (A2 : Option Addr) (c2 : Nat) (bs : List Int) (wide from_ to_ x : Int) (m : Nat) (w : World) (hf : FlO 69 gb A0 c0 rs A1 c1 ws A2 c2 bs wide w) (hm : to_ - 1 = (m : Int)) (hmb : m < bs.length) (hx : impl_lineWide.f k rs ws from_ to_ = some x) (hb : (wide - x).natAbs ≤ 1000000000) :
  Calls Tryz.prog 51 #[.pointer (some ⟨gb, 0, none⟩), .int .i64 from_, .int .i64 to_] w fun e w' => e = .returned (.int .i64 (if bs.getD m 0 = 2 then 0 else (wide - x) * (wide - x))) ∧ Below w.heap.size w w' := by
 have hm0 : (0 : Int) ≤ (m : Int) := by omega
 have hmz : (m : Int) < (bs.length : Int) := by omega
 have hl := hf.2.2.2.2.2.1.2.1
 obtain ⟨ad5, hA5, hx5⟩ := Kd.at_int hf.2.2.2.2.2.1 (m : Int) hm0 hmz
 subst hA5
 have hxx : rd bs (m : Int) = bs.getD m 0 := by simp [rd]
 rw [hxx, Int.toNat_natCast] at hx5
 obtain ⟨y, hy⟩ : ∃ y, bs.getD m 0 = y := ⟨_, rfl⟩
 rw [hy] at hx5 ⊢
 have hw1 : IntKind.i64.wrap (to_ - 1) = (m : Int) := by rw [i64_w]; unfold wrap64; omega
 have hw2 : wrap64 (to_ - 1) = (m : Int) := by unfold wrap64; omega
 obtain ⟨d, hd⟩ : ∃ d, wide - x = d := ⟨_, rfl⟩
 rw [hd] at hb ⊢
 have hs := sq_fit d hb
 have hw3 : wrap64 (wide - x) = d := by unfold wrap64; omega
 have hw4 : IntKind.i64.wrap (wide - x) = d := by rw [i64_w]; exact hw3
 have hw5 : wrap64 (d * d) = d * d := by unfold wrap64; omega
 have hw6 : IntKind.i64.wrap (d * d) = d * d := by rw [i64_w]; exact hw5
 clear hxx hy hm hs hb hd hmb
 have HX := az hx
 clear hx
 by_cases h2 : y = 2
 ·
  rw [if_pos h2]
  have b2 : (y == 2) = true := beq_iff_eq.mpr h2
  have q2 := (blk_cell hf.1 2).trans (show _ = some (Value.slice (some ad5) bs.length c2) from rfl)
  clear h2 hf
  go_enter Tryz.func51, Tryz.ntmps51
  go_wp2
  go_ret
  exact ⟨rfl, by repeat (first | exact Below.refl _ _ | apply pw_below_drewN | apply below_drew1)⟩
 ·
  rw [if_neg h2]
  have b2 : (y == 2) = false := beq_eq_false_iff_ne.mpr h2
  have hS := FlI.of (w0 := w) hf (Below.refl _ _)
  unfold FlI at hS
  clear h2 hf
  go_enter Tryz.func51, Tryz.ntmps51
  obtain ⟨q0, q1, q2, q3, q4⟩ := hS
  go_upto_region 3 with fail
  have hS : FlI 69 gb A0 c0 rs A1 c1 ws (some ad5) c2 bs wide w w := ⟨q0, q1, q2, q3, q4⟩
  unfold FlI at hS
  clear q0 q1 q2 q3 q4 hx5
  go_region_held3 (fun W => W.cell? ⟨gb, 0, none⟩ = some (.slice A0 rs.length c0) ∧ W.cell? ⟨gb, 1, none⟩ = some (.slice A1 ws.length c1) ∧ W.cell? ⟨gb, 2, none⟩ = some (.slice (some ad5) bs.length c2) ∧ W.cell? ⟨gb, 3, none⟩ = some (.int .i64 wide) ∧ Aside0 (FlO 69 gb A0 c0 rs A1 c1 ws (some ad5) c2 bs wide W ∧ Below w.heap.size w W)) (first | (with_reducible assumption) | (with_reducible refine FlI.below ?_ zH; with_reducible assumption) | (with_reducible exact FlI.drew zH)) (first
   | (go_at_call 60; refine (impl_lineWide.calls k A0 c0 rs A1 c1 ws from_ to_ x _ ?s1 ?s2 ?s3 ?s4 HX.out).mono ?_; (case s1 => exact (show FlI 69 gb A0 c0 rs A1 c1 ws (some ad5) c2 bs wide w _ from zH).2.2.2.2.out.1.2.1); (case s2 => exact (show FlI 69 gb A0 c0 rs A1 c1 ws (some ad5) c2 bs wide w _ from zH).2.2.2.2.out.1.2.2.1); (case s3 => exact (show FlI 69 gb A0 c0 rs A1 c1 ws (some ad5) c2 bs wide w _ from zH).2.2.2.2.out.1.2.2.2.1); (case s4 => exact (show FlI 69 gb A0 c0 rs A1 c1 ws (some ad5) c2 bs wide w _ from zH).2.2.2.2.out.1.2.2.2.2.1); rintro e w3 ⟨rfl, p⟩))
  all_goals
   go_wp2
   go_ret
   exact ⟨rfl, (show FlI 69 gb A0 c0 rs A1 c1 ws (some ad5) c2 bs wide w _ from zH).2.2.2.2.out.2⟩
def costIL (k : Nat) (rs ws bs : List Int) (wide : Int) : List Int → Int → Int → Option Int
 | [], _, s => some s
 | e :: r, fr, s => if 1 ≤ e ∧ e ≤ (bs.length : Int) ∧ s.natAbs ≤ 1000000000000000000 then (impl_lineWide.f k rs ws fr e).bind fun x => if (wide - x).natAbs ≤ 1000000000 then costIL k rs ws bs wide r e (s + if bs.getD (e - 1).toNat 0 = 2 then 0 else (wide - x) * (wide - x)) else none else none
def impl_FillCost.f (k : Nat) (l0 : List Int) (l1 : List S50) (a2 : Int) (l3 : List Int) : Option (Int × Bool) := (impl_fillable.f k l0 l1 a2).bind fun a => if a = true then (impl_endsOk.f k l3 (l0.length : Int)).bind fun b => if b = true then (impl_widesOf.f k l0 l1).bind fun ws => (impl_breaks.f k l0).bind fun bs => (costIL k l0 ws bs a2 l3 0 0).bind fun s => some (s, true) else some (0, false) else some (0, false)
theorem costIL_mono (k : Nat) (rs ws bs : List Int) (wide : Int) : ∀ (es : List Int) (fr s : Int), LeO (costIL k rs ws bs wide es fr s) (costIL (k + 1) rs ws bs wide es fr s)
 | [], _, _ => LeO.refl _
 | e :: r, fr, s => by
  simp only [costIL]
  exact LeO.ite (LeO.bind (impl_lineWide.mono _ _ _ _ _) (fun y => LeO.ite (costIL_mono k rs ws bs wide r e _) (LeO.refl _))) (LeO.refl _)
theorem impl_FillCost.mono : ∀ a0 a1 a2 a3 k, LeO (impl_FillCost.f k a0 a1 a2 a3) (impl_FillCost.f (k + 1) a0 a1 a2 a3) := by
 intro a0 a1 a2 a3 k
 unfold impl_FillCost.f
 exact LeO.bind (impl_fillable.mono _ _ _ _) (fun a => LeO.ite (LeO.bind (impl_endsOk.mono _ _ _) (fun b => LeO.ite (LeO.bind (impl_widesOf.mono _ _ _) (fun ws => LeO.bind (impl_breaks.mono _ _) (fun bs => LeO.bind (costIL_mono _ _ _ _ _ _ _ _) (fun s => LeO.refl _)))) (LeO.refl _))) (LeO.refl _))
theorem impl_FillCost.calls (k : Nat) (A0 : Option Addr) (c0 : Nat) (l0 : List Int) (A1 : Option Addr) (c1 : Nat) (l1 : List S50) (a2 : Int) (A3 : Option Addr) (c3 : Nat) (l3 : List Int) (r : Int × Bool) (w : World) (hr0 : Kd.C (Kd.int .i64) w A0 l0.length l0) (hc0 : l0.length ≤ c0) (hr1 : Kd.C k50 w A1 l1.length l1) (hc1 : l1.length ≤ c1) (hr3 : Kd.C (Kd.int .i64) w A3 l3.length l3) (hc3 : l3.length ≤ c3) (h : impl_FillCost.f k l0 l1 a2 l3 = some r) :
  Calls Tryz.prog 25 #[.slice A0 l0.length c0, .slice A1 l1.length c1, .int .i64 a2, .slice A3 l3.length c3] w fun e w' => e = .returned (.tuple #[.int .i64 r.1, .bool r.2]) ∧ Below w.heap.size w w' := by
 have HR := az hr0
 have HC := az hc0
 have HR1 := az hr1
 have HC1 := az hc1
 have HR3 := az hr3
 have HC3 := az hc3
 have hmx := hr3.2.1
 have HMX := az hmx
 clear hr0 hc0 hr1 hc1 hr3 hc3 hmx
 unfold impl_FillCost.f at h
 replace h := Option.bind_eq_some_iff.mp h
 obtain ⟨a, ha, h⟩ := h
 have HA := az ha
 clear ha
 cases a
 ·
  rw [if_neg (by decide)] at h
  obtain rfl := Option.some.inj h
  clear h
  go_enter Tryz.func25, Tryz.ntmps25
  go_wp2_with (go_at_call 39; go_must (refine (impl_fillable.calls k A0 c0 l0 A1 c1 l1 a2 false _ HR.out HC.out HR1.out HC1.out HA.out).mono ?_); rintro e w1 ⟨rfl, hb1⟩; have HB1 := az hb1; clear hb1)
  refine bodyPost_ret (results_tmp2 rfl _ _ _) rfl ?_
  exact ⟨rfl, HB1.out⟩
 rw [if_pos rfl] at h
 replace h := Option.bind_eq_some_iff.mp h
 obtain ⟨b, hb, h⟩ := h
 have HE := az hb
 clear hb
 cases b
 ·
  rw [if_neg (by decide)] at h
  obtain rfl := Option.some.inj h
  clear h
  go_enter Tryz.func25, Tryz.ntmps25
  go_wp2_with (first
   | (go_at_call 39; go_must (refine (impl_fillable.calls k A0 c0 l0 A1 c1 l1 a2 true _ HR.out HC.out HR1.out HC1.out HA.out).mono ?_); rintro e w1 ⟨rfl, hb1⟩; have HB1 := az hb1; clear hb1)
   | (go_at_call 50; go_must (refine (impl_endsOk.calls k A3 c3 l3 (l0.length : Int) false _ (Kd.C_below HR3.out HB1.out) HC3.out HE.out).mono ?_); rintro e w2 ⟨rfl, ⟨nd, rfl⟩⟩))
  refine bodyPost_ret (results_tmp2 rfl _ _ _) rfl ?_
  exact ⟨rfl, pw_below_drewN HB1.out _⟩
 rw [if_pos rfl] at h
 replace h := Option.bind_eq_some_iff.mp h
 obtain ⟨ws, hws, h⟩ := h
 replace h := Option.bind_eq_some_iff.mp h
 obtain ⟨bs, hbs, h⟩ := h
 replace h := Option.bind_eq_some_iff.mp h
 obtain ⟨s, h, h9⟩ := h
 obtain rfl := Option.some.inj h9
 have HF0 := az h
 have HWS := az hws
 have HBS := az hbs
 clear h hws hbs h9
 go_enter Tryz.func25, Tryz.ntmps25
 go_wp2_with (first
  | (go_at_call 39; go_must (refine (impl_fillable.calls k A0 c0 l0 A1 c1 l1 a2 true _ HR.out HC.out HR1.out HC1.out HA.out).mono ?_); rintro e w1 ⟨rfl, hb1⟩; have HB1 := az hb1; clear hb1)
  | (go_at_call 50; go_must (refine (impl_endsOk.calls k A3 c3 l3 (l0.length : Int) true _ (Kd.C_below HR3.out HB1.out) HC3.out HE.out).mono ?_); rintro e w2 ⟨rfl, ⟨nd, rfl⟩⟩; have HB2 := az (pw_below_drewN HB1.out nd); clear HB1)
  | (go_at_call 40; go_must (refine (newFiller_calls k A0 c0 l0 A1 c1 l1 a2 ws bs _ (Kd.C_below HR.out HB2.out) HC.out (Kd.C_below HR1.out HB2.out) HC1.out HWS.out HBS.out).mono ?_); rintro e w3 ⟨gb, A4, c4, A5, c5, rfl, hfl, hb3⟩; have HFL := az hfl; have HB3 := az (below_then HB2.out HB2.out.size hb3); clear hfl hb3))
 go_loopg [11, 12, 33] l3.length (fun gg s11 s12 s33 wr => ∃ (i : Nat) (fr t : Int), s33 = .int .i64 i ∧ s12 = .int .i64 fr ∧ s11 = .int .i64 t ∧ i ≤ l3.length ∧ l3.length - i ≤ gg ∧ Aside0 (costIL k l0 ws bs a2 (l3.drop i) fr t = some s) ∧ Aside0 (Below w3.heap.size w3 wr))
 case atStart => exact ⟨0, 0, 0, rfl, rfl, rfl, Nat.zero_le _, by omega, HF0, ⟨Below.refl _ _⟩⟩
 case round =>
  clear HF0
  obtain ⟨i, fr, t, rfl, rfl, rfl, hi, hg, HF, HB⟩ := hrel
  by_cases hlt : i < l3.length
  ·
   have hltz : (i : Int) < (l3.length : Int) := by omega
   have hi0 : (0 : Int) ≤ (i : Int) := by omega
   have hl9 : l3.length ≤ 9223372036854775807 := HMX.out
   obtain ⟨ad, hA, hx⟩ := Kd.at_int (Kd.C_below HR3.out (below_then HB3.out HB3.out.size HB.out)) (i : Int) hi0 hltz
   subst hA
   have hxx : rd l3 (i : Int) = l3.getD i 0 := by simp [rd]
   rw [hxx, Int.toNat_natCast] at hx
   have hq := HF.out
   rw [List.drop_eq_getElem_cons hlt, costIL] at hq
   obtain ⟨e, he⟩ : ∃ e, l3[i] = e := ⟨_, rfl⟩
   have he2 : l3.getD i 0 = e := by rw [List.getD_eq_getElem?_getD, List.getElem?_eq_getElem hlt, Option.getD_some]; exact he
   rw [he2] at hx
   rw [he] at hq
   clear hxx he he2 HF
   by_cases hbd : 1 ≤ e ∧ e ≤ (bs.length : Int) ∧ t.natAbs ≤ 1000000000000000000
   case neg => rw [if_neg hbd] at hq; cases hq
   case pos =>
   rw [if_pos hbd] at hq
   replace hq := Option.bind_eq_some_iff.mp hq
   obtain ⟨x, hlw, hq⟩ := hq
   by_cases hxb : (a2 - x).natAbs ≤ 1000000000
   case neg => rw [if_neg hxb] at hq; cases hq
   case pos =>
   rw [if_pos hxb] at hq
   obtain ⟨h1, h2, h3⟩ := hbd
   have HFR := az (HFL.out.below HB.out)
   have HM := az (show e - 1 = (((e - 1).toNat : Nat) : Int) by omega)
   have HMB := az (show (e - 1).toNat < bs.length by omega)
   have HLW := az hlw
   have HXB := az hxb
   have hs := sq_fit (a2 - x) hxb
   obtain ⟨c, hc⟩ : ∃ c, (if bs.getD (e - 1).toNat 0 = 2 then 0 else (a2 - x) * (a2 - x)) = c := ⟨_, rfl⟩
   have hcb : 0 ≤ c ∧ c ≤ 1000000000000000000 := by
    rw [← hc]
    split
    · exact ⟨Int.le_refl _, by decide⟩
    · exact hs
   have HCC := az hc
   rw [hc] at hq
   clear hs hc hxb hlw
   have hw1 : wrap64 (t + c) = t + c := by unfold wrap64; omega
   have hw2 : IntKind.i64.wrap (t + c) = t + c := by rw [i64_w]; exact hw1
   have HLT := az hlt
   have HQ := az hq
   clear hq h1 h2 h3 hcb
   go_wp2_with (go_at_call 51; go_must (refine (costI_calls k gb A0 c0 l0 A4 c4 ws A5 c5 bs a2 fr e x (e - 1).toNat _ (HFR.out.below (by repeat (first | exact Below.refl _ _ | apply pw_below_drewN | apply below_drew1))) HM.out HMB.out HLW.out HXB.out).mono ?_); rw [HCC.out]; rintro e7 w7 ⟨rfl, hb7⟩; have HB7 := az (below_then (w := wr) (B := wr.heap.size) (by repeat (first | exact Below.refl _ _ | apply pw_below_drewN | apply below_drew1)) (by first | exact Nat.le_refl _ | simp) hb7); clear hb7)
   go_roundg (l3.length - (i + 1))
   case measure => have := HLT.out; omega
   case rel => exact ⟨i + 1, _, _, by go_num, rfl, rfl, HLT.out, Nat.le_refl _, HQ, ⟨below_then HB.out HB.out.size HB7.out⟩⟩
  ·
   have hltz : ¬ (i : Int) < (l3.length : Int) := by omega
   obtain rfl : i = l3.length := by omega
   have hq := HF.out
   rw [List.drop_length, costIL] at hq
   obtain rfl := Option.some.inj hq
   clear hq HF
   go_wp2
   refine bodyPost_ret (results_tmp2 rfl _ _ _) rfl ?_
   exact ⟨rfl, below_then HB3.out HB3.out.size HB.out⟩
def TB (t g m : Nat) (T : Nat → Int × Int) (W : World) : Prop :=
 ∃ cells : Array Value, W.heap[g]? = some (.cells cells t (0, 0)) ∧ cells.size = m * 2 ∧ ∀ i, i < m → cells[i * 2]? = some (.int .i64 (T i).1) ∧ cells[i * 2 + 1]? = some (.int .i64 (T i).2)
def updV (T : Nat → Int × Int) (a : Nat) (v : Int × Int) : Nat → Int × Int := fun j => if j = a then v else T j
theorem updV_at (T : Nat → Int × Int) (a : Nat) (v : Int × Int) : updV T a v a = v := if_pos rfl
theorem updV_ne (T : Nat → Int × Int) {a b : Nat} (v : Int × Int) (h : b ≠ a) : updV T a v b = T b := if_neg h
theorem updV_updV (T : Nat → Int × Int) (a : Nat) (u v : Int × Int) : updV (updV T a u) a v = updV T a v := by
 funext j
 unfold updV
 split <;> rfl
theorem TB.cells {t g m : Nat} {T : Nat → Int × Int} {W : World} (h : TB t g m T W) {i : Nat} (hi : i < m) : W.cell? ⟨g, i * 2, none⟩ = some (.int .i64 (T i).1) ∧ W.cell? ⟨g, i * 2 + 1, none⟩ = some (.int .i64 (T i).2) ∧ W.frozen? ⟨g, i * 2, none⟩ = false ∧ W.frozen? ⟨g, i * 2 + 1, none⟩ = false := by
 obtain ⟨cells, h1, _, h3⟩ := h
 exact ⟨(blk_cell h1 _).trans (h3 i hi).1, (blk_cell h1 _).trans (h3 i hi).2, blk_frozen h1 _, blk_frozen h1 _⟩
theorem TB.below {t g m : Nat} {T : Nat → Int × Int} {W W' : World} (h : TB t g m T W) (hb : Below W.heap.size W W') : TB t g m T W' := by
 obtain ⟨cells, h1, h2, h3⟩ := h
 exact ⟨cells, blk_below h1 hb, h2, h3⟩
theorem TB.set {t g m : Nat} {T : Nat → Int × Int} {W : World} (h : TB t g m T W) {i : Nat} (hi : i < m) (a b : Int) : TB t g m (updV T i (a, b)) ((W.setCell ⟨g, i * 2, none⟩ (.int .i64 a)).setCell ⟨g, i * 2 + 1, none⟩ (.int .i64 b)) := by
 obtain ⟨cells, h1, h2, h3⟩ := h
 refine ⟨_, blk_set (blk_set h1 _ _) _ _, by simpa using h2, fun j hj => ?_⟩
 have e1 := (h3 j hj).1
 have e2 := (h3 j hj).2
 by_cases hji : j = i
 ·
  subst hji
  rw [updV_at]
  simp only [Array.getElem?_setIfInBounds, Array.size_setIfInBounds]
  exact ⟨by rw [if_neg (by omega), if_pos trivial, if_pos (by omega)], by rw [if_pos trivial, if_pos (by omega)]⟩
 ·
  rw [updV_ne _ _ hji]
  simp only [Array.getElem?_setIfInBounds, Array.size_setIfInBounds]
  exact ⟨by rw [if_neg (by omega), if_neg (by omega)]; exact e1, by rw [if_neg (by omega), if_neg (by omega)]; exact e2⟩
theorem TB.set1 {t g m : Nat} {T : Nat → Int × Int} {W : World} (h : TB t g m T W) {i : Nat} (hi : i < m) (b : Int) : TB t g m (updV T i ((T i).1, b)) (W.setCell ⟨g, i * 2 + 1, none⟩ (.int .i64 b)) := by
 obtain ⟨cells, h1, h2, h3⟩ := h
 refine ⟨_, blk_set h1 _ _, by simpa using h2, fun j hj => ?_⟩
 have e1 := (h3 j hj).1
 have e2 := (h3 j hj).2
 by_cases hji : j = i
 ·
  subst hji
  rw [updV_at]
  simp only [Array.getElem?_setIfInBounds]
  exact ⟨by rw [if_neg (by omega)]; exact e1, by rw [if_pos trivial, if_pos (by omega)]⟩
 ·
  rw [updV_ne _ _ hji]
  simp only [Array.getElem?_setIfInBounds]
  exact ⟨by rw [if_neg (by omega)]; exact e1, by rw [if_neg (by omega)]; exact e2⟩
theorem made_getElem (z : Array Value) (n i : Nat) (hi : i < n) : (madeCells z n)[i]? = some (z[i % z.size]!) := by
 unfold madeCells
 rw [Array.getElem?_map, Array.getElem?_range, if_pos hi]
 rfl
theorem TB.made (t m : Nat) (W : World) : TB t W.heap.size m (fun _ => (0, 0)) (W.alloc (.cells (madeCells #[.int .i64 0, .int .i64 0] (m * 2)) t)) := by
 refine ⟨_, blk_new W _, size_madeCells _ _, fun i hi => ⟨?_, ?_⟩⟩
 ·
  rw [made_getElem _ _ _ (by omega)]
  have : i * 2 % #[Value.int IntKind.i64 0, Value.int IntKind.i64 0].size = 0 := by show i * 2 % 2 = 0; omega
  rw [this]
  rfl
 ·
  rw [made_getElem _ _ _ (by omega)]
  have : (i * 2 + 1) % #[Value.int IntKind.i64 0, Value.int IntKind.i64 0].size = 1 := by show (i * 2 + 1) % 2 = 1; omega
  rw [this]
  rfl
theorem make_tab {P : Program} {rest : List Oper} {ops : Array Oper} {o : Oper} {a : Act} {Q : Exit → Act → World → Prop} {W : World} (e : TypeId) (hgd : o.guard = none) (t : TypeId) (x y : Operand) (ho : o.op = .makeSlice t x y) (m : Nat) (hx : a.eval x = .int .i64 m) (hy : a.eval y = .int .i64 m) (ht : P.underlying t = some (.slice e)) (hinfo : (P.info? e).map (fun i => (i.zero, i.size, i.bytes)) = some (some (.agg #[.int .i64 0, .int .i64 0]), 2, 16)) (hm : m ≤ 100000)
  (h : wpList P ops Q rest (a.put o.dst (.slice (some ⟨W.heap.size, 0, none⟩) m m)) (W.alloc (.cells (madeCells #[.int .i64 0, .int .i64 0] (m * 2)) e))) : wpList P ops Q (o :: rest) a W := by
 obtain ⟨i0, hi, hzz⟩ := Option.map_eq_some_iff.1 hinfo
 simp only [Prod.mk.injEq] at hzz
 obtain ⟨hz0, hz1, hz2⟩ := hzz
 have hr := run_make (P := P) W t e i0 _ ht hi hz0 .i64 .i64 (m : Int) (m : Int) (by omega) (by omega) (by rw [hz2]; omega) (by omega)
 simp only [Int.toNat_natCast] at hr
 rw [hz1] at hr
 exact Kd.event_run hgd (by simp [execOp, ho, hx, hy, hr]; rfl) h
def stepB (bs : List Int) (F : Nat → Nat → Bool) (C : Nat → Nat → Int) (n : Nat) (T : Nat → Int × Int) (at_ e : Nat) (cur : Int × Int) : Int × Int :=
 if bs.getD (e - 1) 0 = 0 ∨ F at_ e = false ∨ (e < n ∧ (T e).2 < 0) then cur else if cur.2 < 0 ∨ C at_ e + (T e).1 < cur.1 then (C at_ e + (T e).1, (e : Int)) else cur
def rowB (bs : List Int) (F : Nat → Nat → Bool) (C : Nat → Nat → Int) (n : Nat) (T : Nat → Int × Int) (at_ : Nat) : Nat → Nat → Int × Int → Int × Int
 | 0, _, cur => cur
 | g + 1, e, cur => rowB bs F C n T at_ g (e + 1) (stepB bs F C n T at_ e cur)
def tabB (bs : List Int) (F : Nat → Nat → Bool) (C : Nat → Nat → Int) (n : Nat) : Nat → Nat → Int × Int
 | 0 => fun _ => (0, 0)
 | d + 1 => updV (tabB bs F C n d) (n - 1 - d) (rowB bs F C n (tabB bs F C n d) (n - 1 - d) (mustV bs n (n - 1 - d) - (n - 1 - d)) (n - 1 - d + 1) (0, -1))
theorem tabB_lo (bs : List Int) (F : Nat → Nat → Bool) (C : Nat → Nat → Int) (n : Nat) : ∀ (d j : Nat), j + d < n → tabB bs F C n d j = (0, 0)
 | 0, _, _ => rfl
 | d + 1, j, h => by
  rw [tabB, updV_ne _ _ (by omega)]
  exact tabB_lo bs F C n d j (by omega)
def outB (T : Nat → Int × Int) (n : Nat) : Nat → Nat → Option (Option (List Int))
 | 0, at_ => if at_ < n then none else some (some [])
 | g + 1, at_ => if at_ < n then (if (T at_).2 < 0 then some none else if (T at_).2 ≤ (n : Int) then (outB T n g (T at_).2.toNat).bind fun l => some (l.map fun l => (T at_).2 :: l) else none) else some (some [])
def linesV (bs : List Int) (W : Nat → Nat → Int) (J : Nat → Bool) (wide : Int) (n : Nat) (mode : Int) : Option (List Int) :=
 if mode = 1 then (outB (tabB bs (fitV W wide) (costV bs W wide) n n) n n 0).bind fun o => match o with | some l => some l | none => greedyN (nextV bs (fitV W wide) J n) n n 0
 else greedyN (nextV bs (fitV W wide) J n) n n 0
def okB (bs : List Int) (W : Nat → Nat → Int) (wide : Int) (n : Nat) : Prop :=
 (∀ j, j ≤ n → ∀ i, i ≤ j → (wide - W i j).natAbs ≤ 1000000000) ∧ ∀ d, d ≤ n → ∀ j, j ≤ n → 0 ≤ (tabB bs (fitV W wide) (costV bs W wide) n d j).1 ∧ (tabB bs (fitV W wide) (costV bs W wide) n d j).1 ≤ 1000000000000000
instance (bs : List Int) (W : Nat → Nat → Int) (wide : Int) (n : Nat) : Decidable (okB bs W wide n) := by unfold okB; infer_instance
def linesO (bs : List Int) (W : Nat → Nat → Int) (J : Nat → Bool) (wide : Int) (n : Nat) (mode : Int) : Option (List Int) :=
 if n ≤ 1000 ∧ bs.length = n ∧ okB bs W wide n then linesV bs W J wide n mode else none
def pairL (l : List Value) : Option (DataW (Int × Int) × List MemPlace) :=
 match l with
 | [.int .i64 a, .int .i64 b] => some (.held (a, b), [])
 | _ => none
def pairElem (v : Value) : Option (DataW (Int × Int) × List MemPlace) :=
 match v with
 | .agg cs => pairL cs.toList
 | _ => none
theorem pairElem_inv {v : Value} {z : DataW (Int × Int) × List MemPlace} (h : pairElem v = some z) : ∃ a b, v = .agg #[.int .i64 a, .int .i64 b] ∧ z = (.held (a, b), []) := by
 unfold pairElem at h
 split at h
 ·
  rename_i cs
  unfold pairL at h
  split at h
  ·
   rename_i a b he
   cases h
   refine ⟨a, b, ?_, rfl⟩
   congr 1
   exact Array.toList_inj.mp he
  · cases h
 · cases h
def MapP (w : World) (b n : Nat) (f : Int → Option (Int × Int)) : Prop := ∃ D : DataW (Int × Int), w.ownsMap Tryz.prog 3 pairElem b n D ∧ Maps.IsMap D ∧ ∀ a, (Lit.int .i64 a).wf = true → ∀ zd, D.atKey (.int .i64 a) zd = (match f a with | some v => .held v | none => zd)
theorem MapP.made (w : World) : MapP (w.alloc (.map #[] 0)) w.heap.size 0 (fun _ => none) :=
 ⟨_, World.ownsMap_made _ _ _ _, Maps.isMap_empty, fun _ _ _ => rfl⟩
theorem MapP.kept {w w' : World} {b n : Nat} {f : Int → Option (Int × Int)} (h : MapP w b n f) {row : Option Nat} (hg : w.grownBy w' row) (hne : some b ≠ row) : MapP w' b n f := by
 obtain ⟨D, h1, h2, h3⟩ := h
 exact ⟨D, h1.kept hg hne, h2, h3⟩
theorem MapP.below {w w' : World} {b n : Nat} {f : Int → Option (Int × Int)} (h : MapP w b n f) (hb : Below w.heap.size w w') : MapP w' b n f := h.kept (grown_of_below hb none) (by simp)
theorem MapP.lt {w : World} {b n : Nat} {f : Int → Option (Int × Int)} (h : MapP w b n f) : b < w.heap.size := by
 obtain ⟨D, h1, _⟩ := h
 exact h1.lt
theorem MapP.obj {w : World} {b n : Nat} {f : Int → Option (Int × Int)} (h : MapP w b n f) : ∃ es c, w.heap[b]? = some (.map es c) := by
 obtain ⟨D, ⟨es, c, h1, _⟩, _⟩ := h
 exact ⟨es, c, h1⟩
theorem mapP_zero (w : World) : (zeroValue 143).run Tryz.prog w = .ok (.agg #[.int .i64 0, .int .i64 0]) w := by kernel_rfl
theorem MapP.look {w : World} {b n : Nat} {f : Int → Option (Int × Int)} (h : MapP w b n f) (a : Int) (ha : (Lit.int .i64 a).wf = true) :
  (Instr.lookup 82 (.map (some b)) (.int .i64 a) true).run Tryz.prog w = .ok (.tuple #[.agg #[.int .i64 ((f a).getD (0, 0)).1, .int .i64 ((f a).getD (0, 0)).2], .bool (f a).isSome]) w := by
 obtain ⟨D, h1, h2, h3⟩ := h
 obtain ⟨es, clock, hb, F, _, rfl⟩ := h1
 have h3' := h3 a ha
 rcases Maps.fit_look true (Maps.int_keyed Tryz.underlying3) Tryz.underlying82 (mapP_zero w) hb F (Maps.keyOf_int_mk Tryz.underlying3 ha) with ⟨hrun, _, hat⟩ | ⟨e0, y, _, _, hrun, hRv, hat, _⟩
 ·
  cases hf : f a with
  | none => simpa using hrun
  | some v =>
   have e1 := (h3' .nil).symm.trans (hat .nil)
   rw [hf] at e1
   cases e1
 ·
  obtain ⟨c, d, hc, hc2⟩ := pairElem_inv hRv
  have e1 := (h3' .nil).symm.trans (hat .nil)
  subst hc2
  cases hf : f a with
  | none => rw [hf] at e1; cases e1
  | some v =>
   rw [hf] at e1
   simp at e1
   subst e1
   rw [hc] at hrun
   simpa using hrun
theorem MapP.put {w : World} {b n : Nat} {f : Int → Option (Int × Int)} (h : MapP w b n f) (hn : n < 1000000) (k : Int) (v : Int × Int) (hk : (Lit.int .i64 k).wf = true) :
  ∃ w', (Instr.mapUpdate 82 (.map (some b)) (.int .i64 k) (.agg #[.int .i64 v.1, .int .i64 v.2])).run Tryz.prog w = .ok () w' ∧ MapP w' b (n + 1) (fun a => if a = k then some v else f a) ∧ w.grownBy w' (some b) := by
 obtain ⟨D, h1, h2, h3⟩ := h
 obtain ⟨w', hrun, r1, r2⟩ := h1.update (Maps.int_keyed Tryz.underlying3) Tryz.underlying82 (by unfold maxLen; omega) (Maps.keyOf_int_mk Tryz.underlying3 hk) (show pairElem (.agg #[.int .i64 v.1, .int .i64 v.2]) = some (.held (v.1, v.2), []) from rfl)
 refine ⟨w', hrun, ⟨_, r1, h2.put _ _, fun a ha zd => ?_⟩, r2⟩
 show _ = (match (if a = k then some v else f a) with | some v => DataW.held v | none => zd)
 by_cases e : a = k
 ·
  subst e
  rw [if_pos rfl, Maps.atKey_put_same h2 (show WideAt.IsKeyLit (.int .i64 a) from trivial)]
 · rw [if_neg e, Maps.atKey_put_other (fun h => e (by injection h)), h3 a ha]
def cntF (f : Int → Option (Int × Int)) : Nat → Nat
 | 0 => 0
 | m + 1 => cntF f m + (if (f (m : Int)).isSome = true then 1 else 0)
theorem cntF_le (f : Int → Option (Int × Int)) : ∀ m, cntF f m ≤ m
 | 0 => Nat.le_refl _
 | m + 1 => by
  rw [cntF]
  have := cntF_le f m
  split <;> omega
theorem cntF_lo (f : Int → Option (Int × Int)) (k : Nat) (v : Int × Int) : ∀ m, m ≤ k → cntF (fun a => if a = (k : Int) then some v else f a) m = cntF f m
 | 0, _ => rfl
 | m + 1, h => by
  rw [cntF, cntF, cntF_lo f k v m (by omega)]
  rw [if_neg (show ¬ (m : Int) = (k : Int) by omega)]
theorem cntF_put (f : Int → Option (Int × Int)) (k : Nat) (v : Int × Int) (hf : f (k : Int) = none) : ∀ m, k < m → cntF (fun a => if a = (k : Int) then some v else f a) m = cntF f m + 1
 | 0, h => absurd h (Nat.not_lt_zero _)
 | m + 1, h => by
  rw [cntF, cntF]
  by_cases e : k = m
  ·
   subst e
   rw [cntF_lo f k v k (Nat.le_refl _), if_pos rfl, hf]
   rfl
  ·
   rw [cntF_put f k v hf m (by omega), if_neg (show ¬ (m : Int) = (k : Int) by omega)]
   omega
def KnO (P : Nat → Int × Int) (n mb : Nat) (f : Int → Option (Int × Int)) (W : World) : Prop := MapP W mb (cntF f n) f ∧ ∀ a v, f a = some v → ∃ j : Nat, a = (j : Int) ∧ j < n ∧ v = P j
theorem KnO.below {P : Nat → Int × Int} {n mb : Nat} {f : Int → Option (Int × Int)} {W W' : World} (h : KnO P n mb f W) (hb : Below W.heap.size W W') : KnO P n mb f W' := ⟨h.1.below hb, h.2⟩
def stepP (bs : List Int) (F : Nat → Nat → Bool) (C : Nat → Nat → Int) (P : Nat → Int × Int) (at_ e : Nat) (cur : Int × Int) : Int × Int :=
 if bs.getD (e - 1) 0 = 0 ∨ F at_ e = false ∨ (P e).2 = 0 then cur else if cur.2 = 0 ∨ (P e).1 + C at_ e < cur.1 then ((P e).1 + C at_ e, (e : Int)) else cur
def rowP (bs : List Int) (F : Nat → Nat → Bool) (C : Nat → Nat → Int) (P : Nat → Int × Int) (at_ : Nat) : Nat → Nat → Int × Int → Int × Int
 | 0, _, cur => cur
 | g + 1, e, cur => rowP bs F C P at_ g (e + 1) (stepP bs F C P at_ e cur)
def IsPlan (bs : List Int) (F : Nat → Nat → Bool) (C : Nat → Nat → Int) (M : Nat → Nat) (n : Nat) (P : Nat → Int × Int) : Prop :=
 P n = (0, (n : Int)) ∧ ∀ i, i < n → P i = rowP bs F C P i (M i - i) (i + 1) (0, 0)
section
open Go.RowKit Go.Shelf
attribute [local go_sem] Oper.semAt_some
def upto {α : Type} (f : Nat → α) (k : Nat) : List α := (List.range k).map f
theorem upto_succ {α : Type} (f : Nat → α) (k : Nat) : upto f (k + 1) = upto f k ++ [f k] := by simp [upto, List.range_succ]
theorem upto_length {α : Type} (f : Nat → α) (k : Nat) : (upto f k).length = k := by simp [upto]
def backF (zs : List Int) (n : Nat) (j : Nat) : Nat × Int := (n - 1 - j, zs[n - 1 - j]?.getD 0)
theorem back1_in (F : Fence) (n : Nat) (h7 : F.fn 166) (hro : F.round = none) (hn : 1 ≤ n) (l Bs n₀ b off len cap : Nat) (zs : List Int) (hreach : len ≤ 1000) (hb : b < n₀) (J Jx : List (Nat × Int) → World → Prop)
  (hY : ∀ pre x W, J pre W → pre.length < len → YieldAt F (n - 1) Tryz.prog l #[.int .i64 (x.1 : Int), .int .i64 x.2] W fun e W' =>
   (e = .returned (.bool true) ∧ J (pre ++ [x]) W' ∧ Below n₀ W W') ∨ (e = .returned (.bool false) ∧ Jx (pre ++ [x]) W'))
  (W : World) (hBn : Bs < n₀) (hBs : W.cell? ⟨Bs, 0, none⟩ = some (.slice (some ⟨b, off, none⟩) len cap)) (hc : ∀ j, j < len → W.cell? ⟨b, off + j, none⟩ = some (.int .i64 (zs[j]?.getD 0))) (h0 : J [] W) :
  CallsIn F n Tryz.prog 166 #[.func (.yield l) #[] #[], .pointer (some ⟨Bs, 0, none⟩)] W fun e W' => (∃ v, e = .returned v) ∧
   ((∃ ys, ys = upto (backF zs len) len ∧ J ys W') ∨ (∃ pre, (∃ k, k ≤ len ∧ pre = upto (backF zs len) k) ∧ Jx pre W')) := by
 refine callsIn_of_wp Tryz.func166 rfl h7 ?_ hro
 simp only [Tryz.ntmps166, List.size_toArray, List.length_cons, List.length_nil, Nat.reduceAdd, Nat.reduceSub, Array.replicate_succ, Array.replicate_zero, List.push_toArray, List.append_toArray, List.nil_append, List.cons_append]
 have hz1 : wrap64 ((len : Int) - 1) = (len : Int) - 1 := by unfold wrap64; omega
 gi_wp2
 gi_loopw [3] (fun i wr => ∃ k : Nat, k ≤ len ∧ i = .int .i64 ((len : Int) - 1 - (k : Int)) ∧ J (upto (backF zs len) k) wr ∧ Below n₀ W wr)
  (fun i _ => (intOf i + 1).toNat)
 case atStart => exact ⟨0, Nat.zero_le _, by simp [hz1], h0, Below.refl _ _⟩
 case round =>
  obtain ⟨k, hk, rfl, hJs, hnx⟩ := hrel
  have hBs' := (hnx.cell (p := ⟨Bs, 0, none⟩) hBn).trans hBs
  by_cases hlt : k < len
  ·
   obtain ⟨m, hm⟩ : ∃ m : Nat, len - 1 - k = m := ⟨_, rfl⟩
   have hmi : (len : Int) - 1 - (k : Int) = (m : Int) := by omega
   have hml : m < len := by omega
   rw [hmi]
   have hcx : wr.cell? ⟨b, off + m, none⟩ = some (.int .i64 (zs[m]?.getD 0)) := (hnx.cell (p := ⟨b, off + m, none⟩) hb).trans (hc m hml)
   obtain ⟨fn, tmps, assign, body, hy, hR⟩ := hY _ (m, zs[m]?.getD 0) wr hJs (by rw [upto_length]; exact hlt)
   dsimp only at hy
   have hbk : backF zs len k = (m, zs[m]?.getD 0) := by unfold backF; rw [hm]
   gi_wp2
   refine hR.mono ?_
   rintro e W3 (⟨rfl, hJ3, hk3⟩ | ⟨rfl, hJx3⟩)
   ·
    gi_wp2
    go_roundw
    case rel => exact ⟨k + 1, by omega, by first | (simp; omega) | (congr 1; unfold wrap64; omega), by rw [upto_succ, hbk]; exact hJ3, hnx.trans hk3⟩
    case measure => simp [intOf]; first | done | (unfold wrap64; omega)
   ·
    gi_wp2
    refine bodyPost_ret (results_none rfl _ _ _) rfl ?_
    exact ⟨⟨_, rfl⟩, .inr ⟨_, ⟨k + 1, by omega, rfl⟩, by rw [upto_succ, hbk]; exact hJx3⟩⟩
  ·
   obtain rfl : k = len := by omega
   have hmi : (k : Int) - 1 - (k : Int) = -1 := by omega
   rw [hmi]
   gi_wp2
   go_end0
   exact ⟨⟨_, rfl⟩, .inl ⟨_, rfl, hJs⟩⟩
theorem backward_calls (a : Option Addr) (len cap : Nat) (w : World) :
  Calls Tryz.prog 164 #[.slice a len cap] w fun e w' => e = .returned (.func (.func 166) #[] #[.pointer (some ⟨w.heap.size, 0, none⟩)]) ∧ w' = w.alloc (.cells #[.slice a len cap] 22) := by
 go_enter Tryz.func164, Tryz.ntmps164
 go_wp2
 go_ret
 exact ⟨rfl, rfl⟩
theorem back_stops (n : Nat) (hn : 1 ≤ n) (Bs n₀ : Nat) (b off cap : Nat) (zs : List Int) (hreach : zs.length ≤ 1000) (w : World) (hBn : Bs < n₀) (hb : b < n₀) (hn₀ : n₀ ≤ w.heap.size)
  (hBs : w.cell? ⟨Bs, 0, none⟩ = some (.slice (some ⟨b, off, none⟩) zs.length cap)) (hc : ∀ j, j < zs.length → w.cell? ⟨b, off + j, none⟩ = some (.int .i64 (zs[j]?.getD 0))) :
  SeqStopsK Fence.wide n Tryz.prog 166 #[.pointer (some ⟨Bs, 0, none⟩)] (fun x : Nat × Int => #[Value.int .i64 (x.1 : Int), Value.int .i64 x.2]) (Below n₀) (fun ys => ys = upto (backF zs zs.length) zs.length) (fun pre => ∃ k, k ≤ zs.length ∧ pre = upto (backF zs zs.length) k) zs.length w := fun l J Jx W hW _ _ hY h0 => by
 have h1 := (hW.cell (p := ⟨Bs, 0, none⟩) (Nat.lt_of_lt_of_le hBn hn₀)).trans hBs
 refine (back1_in Fence.wide n trivial rfl hn l Bs n₀ b off zs.length cap zs hreach hb J Jx hY W hBn h1 (fun j hj => (hW.cell (p := ⟨b, off + j, none⟩) (Nat.lt_of_lt_of_le hb hn₀)).trans (hc j hj)) h0).mono ?_
 rintro e W' ⟨he, h | h⟩
 · exact ⟨he, .inl h⟩
 ·
  obtain ⟨pre, hk, hj⟩ := h
  exact ⟨he, .inr ⟨pre, hk, hj⟩⟩
end
def downN (bs : List Int) (F : Nat → Nat → Bool) (fr : Nat) : Nat → Option Nat
 | 0 => none
 | g + 1 => if ¬ bs.getD (fr + g) 0 = 0 ∧ F fr (fr + g + 1) = true then some (fr + g + 1) else downN bs F fr g
def backN (F : Nat → Nat → Bool) (fr m : Nat) (all : List Int) : Option Int := all.reverse.find? fun t => decide ((fr : Int) < t) && decide (t ≤ (m : Int)) && F fr t.toNat
def nextI (bs : List Int) (F : Nat → Nat → Bool) (all : List Int) (fr m : Nat) : Option Int :=
 match downN bs F fr (m - fr) with
 | some t => some (t : Int)
 | none => match backN F fr m all with
  | some t => some t
  | none => all.find? fun t => decide ((fr : Int) < t)
theorem results_cell_int {P : Program} {fn : Func} {p : Tmp} (h : fn.results = #[.cell p 3]) (tmps : Array Value) (w : World) (g : Nat) (v : Int) (hp : tmps.getD p undef = .pointer (some ⟨g, 0, none⟩)) (hc : w.cell? ⟨g, 0, none⟩ = some (.int .i64 v)) (hu : P.underlying 3 = some (.int .i64)) : (results fn tmps).run P w = .ok (.int .i64 v) w := by
 have hp' : tmps[p]?.getD undef = .pointer (some ⟨g, 0, none⟩) := by simpa using hp
 have hagg : (isAgg 3).run P w = .ok false w := by simp [isAgg, run_underlying hu]
 simp [results, h, hp', asAddr, go_sem, hu, hc, hagg, Result.andThen]
theorem upto_back (zs : List Int) : ∀ k, k ≤ zs.length → (upto (backF zs zs.length) k).map (fun p => p.2) = zs.reverse.take k
 | 0, _ => rfl
 | k + 1, h => by
  rw [upto_succ, List.map_append, upto_back zs k (by omega), List.take_add_one, List.getElem?_reverse (by omega)]
  simp only [backF, List.map_cons, List.map_nil]
  rw [List.getElem?_eq_getElem (by omega)]
  rfl
theorem back_none {q : Int → Bool} (zs : List Int) (h : ∀ p ∈ upto (backF zs zs.length) zs.length, q p.2 = false) : zs.reverse.find? q = none := by
 rw [List.find?_eq_none]
 intro x hx
 have hm : x ∈ (upto (backF zs zs.length) zs.length).map (fun p => p.2) := by
  rw [upto_back _ _ (Nat.le_refl _), List.take_of_length_le (by simp)]
  exact hx
 obtain ⟨p, hp, rfl⟩ := List.mem_map.1 hm
 rw [h p hp]
 decide
theorem back_some {q : Int → Bool} (zs : List Int) (k : Nat) (hk : k ≤ zs.length) (ini : List (Nat × Int)) (last : Nat × Int) (he : upto (backF zs zs.length) k = ini ++ [last]) (h : ∀ p ∈ ini, q p.2 = false) (hl : q last.2 = true) : zs.reverse.find? q = some last.2 := by
 have e := upto_back zs k hk
 rw [he, List.map_append] at e
 have e2 : zs.reverse = (ini.map (fun p => p.2) ++ [last.2]) ++ zs.reverse.drop k := (List.take_append_drop k zs.reverse).symm.trans (by rw [← e]; rfl)
 rw [e2, List.append_assoc, List.find?_append]
 have e3 : (ini.map (fun p => p.2)).find? q = none := by
  rw [List.find?_eq_none]
  intro x hx
  obtain ⟨p, hp, rfl⟩ := List.mem_map.1 hx
  rw [h p hp]
  decide
 rw [e3]
 simp [hl]
theorem idx_find {q : Int → Bool} {zs : List Int} {t : Int} (h : zs.find? q = some t) : ∃ j : Nat, idxI q zs = j ∧ j < zs.length ∧ zs.getD j 0 = t := by
 obtain ⟨h1, i, hi, h2, h3⟩ := List.find?_eq_some_iff_getElem.mp h
 have hg : ∀ j (hj : j < zs.length), zs.getD j 0 = zs[j] := fun j hj => by simp [List.getD_eq_getElem?_getD, hj]
 refine ⟨i, idxI_hit hi (by rw [hg i hi, h2]; exact h1) (fun j hj => ?_), hi, by rw [hg i hi, h2]⟩
 have := h3 j hj
 rw [hg j (by omega)]
 simpa using this
theorem bodyPostM_ret {F : Fence} {n : Nat} {P : Program} {fn : Func} {R : Ending → World → Prop} {a : Act} {w : World} {v : Value} (hr : (results fn a.tmps).run P w = .ok v w) (hd : a.defers = []) (hR : R (.returned v) w) : bodyPostM F n P fn R .ret a w := by
 show LeavesInM F n P fn a.tmps R a.defers .returning w
 rw [hd]
 exact ⟨v, hr, hR⟩
theorem nextG_1_calls (b : Nat) (fr t : Int) (W : World) (hc : W.cell? ⟨b, 0, none⟩ = some (.int .i64 fr)) : Calls Tryz.prog 165 #[.int .i64 t, .pointer (some ⟨b, 0, none⟩)] W fun e w' => e = .returned (.bool (decide (fr < t))) ∧ Below W.heap.size W w' := by
 go_enter Tryz.func165, Tryz.ntmps165
 go_wp2
 go_ret
 exact ⟨rfl, Below.refl _ _⟩
def GnO (B gb : Nat) (A0 : Option Addr) (c0 : Nat) (rs : List Int) (A1 : Option Addr) (c1 : Nat) (ws : List Int) (A2 : Option Addr) (c2 : Nat) (bs : List Int) (wide : Int) (fr : Nat) (w W : World) : Prop :=
 W.heap[B]? = some (.cells #[.pointer (some ⟨gb, 0, none⟩)] 81 (0, 0)) ∧ W.heap[B + 1]? = some (.cells #[.int .i64 fr] 3 (0, 0)) ∧ W.heap[B + 1 + 1]? = some (.cells #[.int .i64 0] 3 (0, 0)) ∧ FlO 69 gb A0 c0 rs A1 c1 ws A2 c2 bs wide W ∧ Below B w W
theorem GnO.below {B gb : Nat} {A0 : Option Addr} {c0 : Nat} {rs : List Int} {A1 : Option Addr} {c1 : Nat} {ws : List Int} {A2 : Option Addr} {c2 : Nat} {bs : List Int} {wide : Int} {fr : Nat} {w W W' : World} (h : GnO B gb A0 c0 rs A1 c1 ws A2 c2 bs wide fr w W) (hB : B ≤ W.heap.size) (hb : Below W.heap.size W W') : GnO B gb A0 c0 rs A1 c1 ws A2 c2 bs wide fr w W' :=
 ⟨blk_below h.1 hb, blk_below h.2.1 hb, blk_below h.2.2.1 hb, h.2.2.2.1.below hb, below_then h.2.2.2.2 hB hb⟩
def GrO (B gb : Nat) (A0 : Option Addr) (c0 : Nat) (rs : List Int) (A1 : Option Addr) (c1 : Nat) (ws : List Int) (A2 : Option Addr) (c2 : Nat) (bs : List Int) (wide : Int) (fr : Nat) (w wo W : World) : Prop := GnO B gb A0 c0 rs A1 c1 ws A2 c2 bs wide fr w W ∧ Below wo.heap.size wo W ∧ B ≤ W.heap.size
abbrev GrI (B gb : Nat) (A0 : Option Addr) (c0 : Nat) (rs : List Int) (A1 : Option Addr) (c1 : Nat) (ws : List Int) (A2 : Option Addr) (c2 : Nat) (bs : List Int) (wide : Int) (fr : Nat) (w wo W : World) : Prop := W.cell? ⟨B, 0, none⟩ = some (.pointer (some ⟨gb, 0, none⟩)) ∧ W.cell? ⟨gb, 0, none⟩ = some (.slice A0 rs.length c0) ∧ Aside0 (GrO B gb A0 c0 rs A1 c1 ws A2 c2 bs wide fr w wo W)
theorem GrI.of {B gb : Nat} {A0 : Option Addr} {c0 : Nat} {rs : List Int} {A1 : Option Addr} {c1 : Nat} {ws : List Int} {A2 : Option Addr} {c2 : Nat} {bs : List Int} {wide : Int} {fr : Nat} {w wo W : World} (h : GrO B gb A0 c0 rs A1 c1 ws A2 c2 bs wide fr w wo W) : GrI B gb A0 c0 rs A1 c1 ws A2 c2 bs wide fr w wo W := ⟨(blk_cell h.1.1 0).trans rfl, (blk_cell h.1.2.2.2.1.1 0).trans rfl, ⟨h⟩⟩
theorem GrI.via {B gb : Nat} {A0 : Option Addr} {c0 : Nat} {rs : List Int} {A1 : Option Addr} {c1 : Nat} {ws : List Int} {A2 : Option Addr} {c2 : Nat} {bs : List Int} {wide : Int} {fr : Nat} {w wo W W' : World} (h : GrI B gb A0 c0 rs A1 c1 ws A2 c2 bs wide fr w wo W) (hb : Below W.heap.size W W') : GrI B gb A0 c0 rs A1 c1 ws A2 c2 bs wide fr w wo W' := GrI.of ⟨h.2.2.out.1.below h.2.2.out.2.2 hb, below_then h.2.2.out.2.1 h.2.2.out.2.1.size hb, Nat.le_trans h.2.2.out.2.2 hb.size⟩
theorem GrI.drew {B gb : Nat} {A0 : Option Addr} {c0 : Nat} {rs : List Int} {A1 : Option Addr} {c1 : Nat} {ws : List Int} {A2 : Option Addr} {c2 : Nat} {bs : List Int} {wide : Int} {fr : Nat} {w wo W : World} (h : GrI B gb A0 c0 rs A1 c1 ws A2 c2 bs wide fr w wo W) : GrI B gb A0 c0 rs A1 c1 ws A2 c2 bs wide fr w wo W.drew := h.via (below_drew (Below.refl _ _))
theorem GrI.alloc {B gb : Nat} {A0 : Option Addr} {c0 : Nat} {rs : List Int} {A1 : Option Addr} {c1 : Nat} {ws : List Int} {A2 : Option Addr} {c2 : Nat} {bs : List Int} {wide : Int} {fr : Nat} {w wo W : World} (h : GrI B gb A0 c0 rs A1 c1 ws A2 c2 bs wide fr w wo W) (o : Obj) : GrI B gb A0 c0 rs A1 c1 ws A2 c2 bs wide fr w wo (W.alloc o) := h.via (below_alloc (Below.refl _ _) _)
section
open Go.RowKit Go.Shelf
attribute [local go_sem] Oper.semAt_some
theorem nextG_calls (k : Nat) (gb : Nat) (A0 : Option Addr) (c0 : Nat) (rs : List Int) (A1 : Option Addr) (c1 : Nat) (ws : List Int) (A2 : Option Addr) (c2 : Nat) (bs : List Int) (wide : Int) (W : Nat → Nat → Int) (ss : List Int) (fr m : Nat) (x t : Int) (w : World) (hf : FlO 69 gb A0 c0 rs A1 c1 ws A2 c2 bs wide w) (hfr : fr < rs.length) (hn : rs.length ≤ 1000) (hbl : bs.length = rs.length) (hW : ∀ j : Nat, fr ≤ j → j ≤ rs.length → impl_lineWide.f k rs ws (fr : Int) (j : Int) = some (W fr j)) (hx : slices_Index_int_int.f k (bs.drop fr) 2 = some x) (hm : (fr : Int) + x + 1 = (m : Int)) (hmf : fr < m) (hmn : m ≤ rs.length) (hs : impl_starts.f k rs = some ss) (hsl : ss.length ≤ 999) (hss : ∀ t, t ∈ ss → 0 ≤ t ∧ t ≤ (rs.length : Int)) (ht : nextI bs (fitV W wide) (ss ++ [(rs.length : Int)]) fr m = some t) :
  Calls Tryz.prog 163 #[.agg #[.pointer (some ⟨gb, 0, none⟩)], .int .i64 fr] w fun e w' => e = .returned (.int .i64 t) ∧ Below w.heap.size w w' := by
 obtain ⟨W3, hW3⟩ : ∃ W3, ((w.alloc (.cells #[.pointer (some ⟨gb, 0, none⟩)] 81)).alloc (.cells #[.int .i64 fr] 3)).alloc (.cells #[.int .i64 0] 3) = W3 := ⟨_, rfl⟩
 have hB3 : Below w.heap.size w W3 := by rw [← hW3]; exact below_alloc (below_alloc (below_alloc (Below.refl _ _) _) _) _
 have hz3 : W3.heap.size = w.heap.size + 3 := by rw [← hW3]; simp
 have h1 : W3.heap[w.heap.size]? = some (.cells #[.pointer (some ⟨gb, 0, none⟩)] 81 (0, 0)) := by rw [← hW3]; exact blk_alloc (blk_alloc (blk_new w _) _) _
 have h2 : W3.heap[w.heap.size + 1]? = some (.cells #[.int .i64 fr] 3 (0, 0)) := by
  rw [← hW3]
  have h := blk_new (w.alloc (.cells #[.pointer (some ⟨gb, 0, none⟩)] 81)) (.cells #[.int .i64 fr] 3)
  rw [show (w.alloc (.cells #[.pointer (some ⟨gb, 0, none⟩)] 81)).heap.size = w.heap.size + 1 by simp] at h
  exact blk_alloc h _
 have h3 : W3.heap[w.heap.size + 1 + 1]? = some (.cells #[.int .i64 0] 3 (0, 0)) := by
  rw [← hW3]
  have h := blk_new ((w.alloc (.cells #[.pointer (some ⟨gb, 0, none⟩)] 81)).alloc (.cells #[.int .i64 fr] 3)) (.cells #[.int .i64 0] 3)
  rwa [show ((w.alloc (.cells #[.pointer (some ⟨gb, 0, none⟩)] 81)).alloc (.cells #[.int .i64 fr] 3)).heap.size = w.heap.size + 1 + 1 by simp] at h
 have HG := az (show GnO w.heap.size gb A0 c0 rs A1 c1 ws A2 c2 bs wide fr w W3 from ⟨h1, h2, h3, hf.below hB3, hB3⟩)
 have q1 := (blk_cell h1 0).trans (show _ = some (Value.pointer (some ⟨gb, 0, none⟩)) from rfl)
 have q2 := (blk_cell h2 0).trans (show _ = some (Value.int .i64 fr) from rfl)
 clear hf hB3 h1 h2 h3
 have HW := az hW
 have HX := az hx
 have HM := az hm
 have HS := az hs
 have HT := az ht
 have HSS := az hss
 clear hW hx hm hs ht hss
 refine callsIn_wide.1 (callsIn_of_wp_marks (F := Fence.wide) (n := 8) Tryz.func163 rfl trivial ?_)
 simp only [Tryz.ntmps163, List.size_toArray, List.length_cons, List.length_nil, Nat.reduceAdd, Nat.reduceSub, Array.replicate_succ, Array.replicate_zero, List.push_toArray, List.append_toArray, List.nil_append, List.cons_append]
 refine (wpIn_wide (n := 8)).2 ?_
 let BP := bodyPost Tryz.prog Tryz.f163
 go_upto_region 1 with fail
 clear hW3
 have HSZ := az (show w.heap.size ≤ W3.heap.size by omega)
 have HL := az (show fr ≤ bs.length ∧ bs.length ≤ 1000 ∧ -1 ≤ x ∧ x ≤ 1000 from (zE HM.out))
 clear hz3
 go_upto_region 2 with (go_at_call 52; go_must (refine (mustI_calls k gb A0 c0 rs A1 c1 ws A2 c2 bs wide fr x _ HG.out.2.2.2.1 HL.out.1 HL.out.2.1 HX.out HL.out.2.2.1 HL.out.2.2.2).mono ?_); rw [HM.out]; rintro e w4 ⟨rfl, hd4⟩; have HG4 := az (HG.out.below HSZ.out hd4.below); have HZ4 := az (Nat.le_trans HSZ.out hd4.below.size); clear hd4)
 clear q1 q2
 have HMC := az (blk_new w4 (.cells #[.int .i64 m] 3))
 have HG5 := az (HG4.out.below HZ4.out (below_alloc (Below.refl w4.heap.size w4) (.cells #[.int .i64 m] 3)))
 obtain ⟨M, hM⟩ : ∃ M, w4.heap.size = M := ⟨_, rfl⟩
 have HZ5 := az (show w.heap.size ≤ (w4.alloc (.cells #[.int .i64 m] 3)).heap.size by simp; have := HZ4.out; omega)
 rw [hM] at HMC ⊢
 clear HG4 HZ4 hM
 generalize w4.alloc (.cells #[.int .i64 m] 3) = w5 at HMC HG5 HZ5 ⊢
 have qm := (blk_cell HMC.out 0).trans (show _ = some (Value.int .i64 m) from rfl)
 go_wp2
 go_loopg [6] rs.length (fun gg s6 wr => ∃ g : Nat, s6 = .int .i64 ((fr + g : Nat) : Int) ∧ fr + g ≤ m ∧ g ≤ gg ∧ Aside0 (downN bs (fitV W wide) fr g = downN bs (fitV W wide) fr (m - fr)) ∧ Aside0 (GnO w.heap.size gb A0 c0 rs A1 c1 ws A2 c2 bs wide fr w wr) ∧ Aside0 (wr.heap[M]? = some (.cells #[.int .i64 m] 3 (0, 0))) ∧ Aside0 (w.heap.size ≤ wr.heap.size))
 case atStart => exact ⟨m - fr, by rw [show fr + (m - fr) = m by omega], by omega, by omega, ⟨rfl⟩, HG5, HMC, HZ5⟩
 case round =>
  clear HMC HG5 HZ5
  obtain ⟨g, rfl, hgm, hgg, HF, HQ, HMC, HZ⟩ := hrel
  have q1 := (blk_cell HQ.out.1 0).trans (show _ = some (Value.pointer (some ⟨gb, 0, none⟩)) from rfl)
  have q2 := (blk_cell HQ.out.2.1 0).trans (show _ = some (Value.int .i64 fr) from rfl)
  have q3 := (blk_cell HQ.out.2.2.1 0).trans (show _ = some (Value.int .i64 0) from rfl)
  have q4 := blk_frozen HQ.out.2.2.1 0
  have q5 := (blk_cell HQ.out.2.2.2.1.1 2).trans (show _ = some (Value.slice A2 bs.length c2) from rfl)
  have qm := (blk_cell HMC.out 0).trans (show _ = some (Value.int .i64 m) from rfl)
  cases g with
  | zero =>
   have HDN : Aside0 (downN bs (fitV W wide) fr (m - fr) = none) := ⟨by rw [← HF.out, downN]⟩
   have hez : ¬ (fr : Int) < ((fr + 0 : Nat) : Int) := by omega
   have qr := (blk_cell HQ.out.2.2.2.1.1 0).trans (show _ = some (Value.slice A0 rs.length c0) from rfl)
   clear HF hgm hgg q3 q4 q5
   obtain ⟨wo, hwo⟩ : ∃ wo, wo = wr := ⟨_, rfl⟩
   subst hwo
   go_upto_region 7 with fail
   obtain ⟨zs, hzs⟩ : ∃ zs : List Int, ss ++ [(rs.length : Int)] = zs := ⟨_, rfl⟩
   have HZS := az hzs
   have HZL : Aside0 (zs.length ≤ 1000) := ⟨by rw [← hzs, List.length_append]; simp; omega⟩
   clear hzs
   go_cut [7] (fun v7 wc => ∃ (A : Option Addr) (c : Nat), v7 = .slice A zs.length c ∧ Aside0 (Kd.R (Kd.int .i64) 3 wc wo.heap.size (fun _ => True) (.slice A zs.length c) zs) ∧ Aside0 (Below wo.heap.size wo wc))
   case first =>
    have hS : GrI w.heap.size gb A0 c0 rs A1 c1 ws A2 c2 bs wide fr w wo wo := GrI.of ⟨HQ.out, Below.refl _ _, HZ.out⟩
    unfold GrI at hS
    have HRC := az HQ.out.2.2.2.1.2.1
    have HCC := az HQ.out.2.2.2.1.2.2.1
    go_region_held3 (fun W' => W'.cell? ⟨w.heap.size, 0, none⟩ = some (.pointer (some ⟨gb, 0, none⟩)) ∧ W'.cell? ⟨gb, 0, none⟩ = some (.slice A0 rs.length c0) ∧ Aside0 (GrO w.heap.size gb A0 c0 rs A1 c1 ws A2 c2 bs wide fr w wo W')) (first | (with_reducible assumption) | (with_reducible exact GrI.via zH zH) | (with_reducible exact GrI.drew zH) | (with_reducible exact GrI.drew (GrI.alloc zH _)) | (with_reducible exact GrI.alloc zH _)) (first
     | (go_at_call 85; refine (impl_starts.calls k A0 c0 rs ss _ ?s1 ?s2 HS.out).mono ?_; (case s1 => exact (show GrI w.heap.size gb A0 c0 rs A1 c1 ws A2 c2 bs wide fr w wo _ from zH).2.2.out.1.2.2.2.1.2.1); (case s2 => exact HCC.out); rintro e w6 ⟨v6, rfl, ho6, p⟩; obtain ⟨A6, c6, e6⟩ := Kd.R_slice ho6; subst e6; have HO6L : Aside0 (Kd.R (Kd.int .i64) 3 w6 wo.heap.size (fun _ => True) (.slice A6 ss.length c6) ss) := ⟨Kd.R_lower ho6 (by simp)⟩; clear ho6)
     | (refine Kd.R_append_rows_step (Kd.int .i64) (w0 := wo) wo.heap.size (by rfl) (.tmp 43) (.tmp 50) 22 3 (.int .i64 0) 8 rfl Tryz.underlying22 info3 rfl (by decide) (by omega) (.slice A6 ss.length c6) ss [(rs.length : Int)] _ _ _ (fun _ => True) (fun _ => False) rfl rfl ?aO ?aR (fun _ _ h => h) (fun _ h => h.elim) (fun _ _ => trivial) ?aB ?aS ?aL ?_; (case aO => (with_reducible repeat (first | apply Kd.R_alloc | apply Kd.R_drewN | apply Kd.R_drew)); exact HO6L.out); (case aR => first | exact litC [(rs.length : Int)] #[.int .i64 rs.length] rfl | exact Kd.C_drew (litC [(rs.length : Int)] #[.int .i64 rs.length] rfl) | exact Kd.C_below (Kd.C_drew (litC [(rs.length : Int)] #[.int .i64 rs.length] rfl)) zH | exact Kd.C_below (litC [(rs.length : Int)] #[.int .i64 rs.length] rfl) zH | exact Kd.C_drew (Kd.C_below (litC [(rs.length : Int)] #[.int .i64 rs.length] rfl) zH)); (case aB => exact (show GrI w.heap.size gb A0 c0 rs A1 c1 ws A2 c2 bs wide fr w wo _ from zH).2.2.out.2.1); (case aS => exact (show GrI w.heap.size gb A0 c0 rs A1 c1 ws A2 c2 bs wide fr w wo _ from zH).2.2.out.2.1.size); (case aL => omega); intro v1 w1 ho_ hb_ hg_ hat_; have HO1 := az ho_; have hS1 : GrI w.heap.size gb A0 c0 rs A1 c1 ws A2 c2 bs wide fr w wo w1 := GrI.of ⟨HQ.out.below HZ.out hb_, hb_, Nat.le_trans HZ.out hb_.size⟩; clear ho_ hb_ hg_ hat_))
    all_goals
     go_wp2
     go_meet
     rw [HZS.out] at HO1
     obtain ⟨A9, c9, e9⟩ := Kd.R_slice HO1.out
     subst e9
     exact ⟨A9, c9, rfl, HO1, ⟨hS1.2.2.out.2.1⟩⟩
   case rest =>
    clear q1 q2 qm qr
    obtain ⟨A, c, rfl, HO, HBC⟩ := hcut
    obtain ⟨g1, cap1, he1, hg1b, hg1l, _⟩ := Kd.R_form HO.out (by rw [← HZS.out]; simp)
    injection he1 with e1 e2 e3
    subst e1
    subst e3
    clear hg1b
    have HQC := az (HQ.out.below HZ.out HBC.out)
    have HMC2 := az (blk_below HMC.out HBC.out)
    have HZ2 := az (Nat.le_trans HZ.out HBC.out.size)
    have HG1 := az hg1l
    clear hg1l
    go_wp2_with (go_at_call 164; go_must (refine (backward_calls _ _ _ _).mono ?_); rintro e w' ⟨rfl, rfl⟩)
    obtain ⟨W1, hW1⟩ : ∃ W1, wc.alloc (.cells #[.slice (some ⟨g1, 0, none⟩) zs.length c] 22) = W1 := ⟨_, rfl⟩
    have hB1 : Below wc.heap.size wc W1 := by rw [← hW1]; exact below_alloc (Below.refl _ _) _
    have hz1 : W1.heap.size = wc.heap.size + 1 := by rw [← hW1]; simp
    have hcell1 : W1.cell? ⟨wc.heap.size, 0, none⟩ = some (.slice (some ⟨g1, 0, none⟩) zs.length c) := by rw [← hW1]; exact (blk_cell (blk_new wc _) 0).trans rfl
    have HO1 := az (Kd.R_below HO.out hB1)
    have HQ1 := az (HQC.out.below HZ2.out hB1)
    have HMC3 := az (blk_below HMC2.out hB1)
    have HZ1 := az (Nat.le_trans HZ2.out hB1.size)
    have hgW : g1 < W1.heap.size := by have := HG1.out; omega
    have hcW : wc.heap.size < W1.heap.size := by omega
    rw [hW1]
    clear hW1 hB1 hz1 HQC HMC2 HMC HO HQ HG HSZ e2
    obtain ⟨q, hq⟩ : ∃ q : Int → Bool, (fun t => decide ((fr : Int) < t) && decide (t ≤ (m : Int)) && fitV W wide fr t.toNat) = q := ⟨_, rfl⟩
    have HQQ := az hq
    clear hq
    refine (wpIn_wide (n := 8)).1 ?_
    refine wpIn_rangeFunc_ownF rfl (by decide) (gf := 166) (lb := #[.pointer (some ⟨wc.heap.size, 0, none⟩)]) rfl trivial (enters_of Tryz.func166 (by kernel_rfl) rfl)
     (back_stops 7 (by decide) wc.heap.size W1.heap.size g1 0 c zs HZL.out W1 hcW hgW (Nat.le_refl _) hcell1 ?cells) belowK_t (belowK_b (Nat.le_refl _)) (Below.refl _ _) (fun _ => rfl)
     (fun pre V => (∀ p ∈ pre, q p.2 = false) ∧ Below W1.heap.size W1 V)
     (fun cd pre V => (cd = .ret ∧ ∃ ini last, pre = ini ++ [last] ∧ (∀ p ∈ ini, q p.2 = false) ∧ q last.2 = true ∧ V.cell? ⟨w.heap.size + 1 + 1, 0, none⟩ = some (.int .i64 last.2)) ∧ Below w.heap.size w V)
     (OwnFrom.and (ownFrom_pure _ _) (ownFrom_below (Nat.le_refl _) (Nat.le_refl _)))
     (fun cd => OwnFrom.and (Own.from (fun s A B row hs hg hr => by obtain ⟨hc, ini, last, e1, e2, e3, e4⟩ := hs; exact ⟨hc, ini, last, e1, e2, e3, cell_kept e4 hg hr⟩) _) (ownFrom_below (Nat.le_refl _) HZ1.out))
     ⟨by simp, Below.refl _ _⟩ ?a1 ?assign ?body ?done ?stop
    case cells =>
     intro j hj
     have h := (Kd.R_celln (0 : Int) HO1.out (j : Int) (by omega) (by omega)).1
     simpa [rdOf] using h
    case assign =>
     intro l x V K hK
     gi_wp2
     exact hK
    case body =>
     rintro l pre ⟨x1, x2⟩ V ⟨hp, hB⟩ _
     have HP := az hp
     have HBV := az hB
     have HQV := az (HQ1.out.below HZ1.out hB)
     have HMV := az (blk_below HMC3.out hB)
     have HZV := az (Nat.le_trans HZ1.out hB.size)
     have q1 := (blk_cell HQV.out.1 0).trans (show _ = some (Value.pointer (some ⟨gb, 0, none⟩)) from rfl)
     have q2 := (blk_cell HQV.out.2.1 0).trans (show _ = some (Value.int .i64 fr) from rfl)
     have qm := (blk_cell HMV.out 0).trans (show _ = some (Value.int .i64 m) from rfl)
     clear hp hB hcell1 hgW hcW hez hfr hmf
     by_cases hx1 : (fr : Int) < x2
     case neg =>
      have HN : Aside0 (q x2 = false) := ⟨by rw [← HQQ.out]; simp only [decide_eq_false hx1, Bool.false_and]⟩
      have d1 : ¬ (fr : Int) < x2 := hx1
      gi_wp2
      refine ⟨trivial, ?_⟩
      gi_wp2
      exact ⟨KeepsOthers.refl _, Below.refl _ _, fun p hp => (List.mem_append.1 hp).elim (HP.out p) (fun e => by rw [List.mem_singleton.1 e]; exact HN.out), HBV.out⟩
     case pos =>
      by_cases hx2 : x2 ≤ (m : Int)
      case neg =>
       have HN : Aside0 (q x2 = false) := ⟨by rw [← HQQ.out]; simp only [decide_eq_false hx2, Bool.false_and, Bool.and_false]⟩
       gi_wp2
       refine ⟨trivial, ?_⟩
       gi_wp2
       exact ⟨KeepsOthers.refl _, Below.refl _ _, fun p hp => (List.mem_append.1 hp).elim (HP.out p) (fun e => by rw [List.mem_singleton.1 e]; exact HN.out), HBV.out⟩
      case pos =>
       obtain ⟨e, rfl⟩ : ∃ e : Nat, x2 = (e : Int) := ⟨x2.toNat, by omega⟩
       have HE := az (show fr ≤ e ∧ e ≤ rs.length by omega)
       have HN : Aside0 (q (e : Int) = fitV W wide fr e) := ⟨by rw [← HQQ.out]; simp only [decide_eq_true hx1, decide_eq_true hx2, Bool.true_and, Int.toNat_natCast]⟩
       cases hfi : fitV W wide fr e
       case false =>
        have HFI := az hfi
        clear hfi
        gi_wp2_with (refine ⟨trivial, ?_⟩; gi_at_call 53; refine (CallsIn.inRound l (callsIn_wide.2 (fitsI_calls k gb A0 c0 rs A1 c1 ws A2 c2 bs wide (fr : Int) (e : Int) (W fr e) _ HQV.out.2.2.2.1 (HW.out e HE.out.1 HE.out.2)))).mono ?_; rw [show decide (W fr e ≤ wide) = false from HFI.out]; rintro e1 w2 ⟨rfl, hb2⟩; have HB2 := az hb2; clear hb2)
        exact ⟨KeepsOthers.of_grownBy (grown_of_below HB2.out none) (fun _ _ h => by cases h), HB2.out.mono HBV.out.size, fun p hp => (List.mem_append.1 hp).elim (HP.out p) (fun e => by rw [List.mem_singleton.1 e]; exact HN.out.trans HFI.out), below_then HBV.out HBV.out.size HB2.out⟩
       case true =>
        have HFI := az hfi
        clear hfi
        gi_wp2_with (refine ⟨trivial, ?_⟩; gi_at_call 53; refine (CallsIn.inRound l (callsIn_wide.2 (fitsI_calls k gb A0 c0 rs A1 c1 ws A2 c2 bs wide (fr : Int) (e : Int) (W fr e) _ HQV.out.2.2.2.1 (HW.out e HE.out.1 HE.out.2)))).mono ?_; rw [show decide (W fr e ≤ wide) = true from HFI.out]; rintro e1 w2 ⟨rfl, hb2⟩; have HB2 := az hb2; have HQ2 := az (HQV.out.below HZV.out hb2); have q3 := (blk_cell HQ2.out.2.2.1 0).trans (show _ = some (Value.int .i64 0) from rfl); have q4 := blk_frozen HQ2.out.2.2.1 0; clear hb2)
        exact ⟨(KeepsOthers.of_grownBy (grown_of_below HB2.out none) (fun _ _ h => by cases h)).trans (KeepsOthers.setCell _ _ _), ⟨rfl, pre, (x1, (e : Int)), rfl, HP.out, HN.out.trans HFI.out, (blk_cell (blk_set HQ2.out.2.2.1 0 (.int .i64 e)) 0).trans rfl⟩, HQ2.out.2.2.2.2.setCell (p := ⟨w.heap.size + 1 + 1, 0, none⟩) (Nat.le_trans (Nat.le_succ _) (Nat.le_succ _)) _⟩
    case done =>
     rintro D ys V hD rfl ⟨hp, hB⟩ hK
     have HTT : ∃ j : Nat, idxI (fun t => decide ((fr : Int) < t)) zs = j ∧ j < zs.length ∧ zs.getD j 0 = t := by
      have h := HT.out
      unfold nextI backN at h
      rw [HDN.out, HZS.out, HQQ.out, back_none zs hp] at h
      exact idx_find h
     obtain ⟨j, hj1, hj2, hj3⟩ := HTT
     have HDD := az hD
     have HKK := az hK
     have HQV := az (HQ1.out.below HZ1.out hB)
     have HOV := az (Kd.R_below HO1.out hB)
     have HZV := az (Nat.le_trans HZ1.out hB.size)
     have HJ1 := az hj1
     have HJ3 := az hj3
     clear hp hD hB hK hj1 hj3 hcell1
     have q3 := (blk_cell HQV.out.2.2.1 0).trans (show _ = some (Value.int .i64 0) from rfl)
     have q4 := blk_frozen HQV.out.2.2.1 0
     have hj2z : (j : Int) < (zs.length : Int) := by omega
     go_wp2_with (go_at_call 88; go_must (refine (idxI_calls (fun t => decide ((fr : Int) < t)) 165 #[.pointer (some ⟨w.heap.size + 1, 0, none⟩)] (enters_of Tryz.func165 (by kernel_rfl) rfl) (some ⟨g1, 0, none⟩) c zs _ (Kd.R_reads' HOV.out).2.2 (zE HZL.out) (fun W3 hb3 j3 _ => (nextG_1_calls (w.heap.size + 1) (fr : Int) _ W3 ((blk_cell (blk_below HQV.out.2.1 hb3) 0).trans rfl)).mono (fun e w' h => ⟨h.1, below_then hb3 hb3.size h.2⟩))).mono ?_); rw [HJ1.out]; rintro e1 w9 ⟨rfl, hb9⟩; have HQ9 := az (HQV.out.below HZV.out hb9); have HK9 := az (blk_below HKK.out hb9); have q3 := (blk_cell HQ9.out.2.2.1 0).trans (show _ = some (Value.int .i64 0) from rfl); have q4 := blk_frozen HQ9.out.2.2.1 0; have hx9 := (Kd.R_celln (0 : Int) (Kd.R_below HOV.out hb9) (j : Int) (by omega) hj2z).1; rw [show rdOf (0 : Int) zs (j : Int) = t from by rw [← HJ3.out]; simp [rdOf], Int.toNat_natCast] at hx9; clear hb9)
     have hK' := (KeepsOthers.setCell w9 ⟨w.heap.size + 1 + 1, 0, none⟩ (.int .i64 t)).same D _ HK9.out rfl
     refine ⟨by simp, .inl ⟨_, _, rfl, run_takeDeferred hK', ?_⟩⟩
     refine ⟨_, results_cell_int rfl _ _ (w.heap.size + 1 + 1) t rfl ?_ Tryz.underlying3, rfl, ?_⟩
     · exact cell_kept ((blk_cell (blk_set HQ9.out.2.2.1 0 (.int .i64 t)) 0).trans rfl) (grownBy_putObj' _ D (.deferred none)) (fun r e => by cases e; exact ⟨_, hK', rfl⟩)
     · exact (HQ9.out.2.2.2.2.setCell (p := ⟨w.heap.size + 1 + 1, 0, none⟩) (Nat.le_trans (Nat.le_succ _) (Nat.le_succ _)) _).trans (belowK_b (w := w) (Nat.le_refl _) _ D _ _ (Nat.le_trans HZ1.out HDD.out) hK' rfl rfl)
    case stop =>
     rintro D cd pre V hD ⟨k2, hk2, rfl⟩ ⟨⟨rfl, ini, last, e1, e2, e3, hcr⟩, hB⟩ hK
     have HTT : last.2 = t := by
      have h := HT.out
      unfold nextI backN at h
      rw [HDN.out, HZS.out, HQQ.out, back_some zs k2 hk2 ini last e1 e2 e3] at h
      exact Option.some.inj h
     rw [HTT] at hcr
     have HDD := az hD
     have HBB := az hB
     have HKK := az hK
     have HCR := az hcr
     clear e1 e2 e3 HTT hD hB hK hcr hcell1
     gi_wp2
     refine ⟨by simp, .inl ⟨_, _, rfl, run_takeDeferred HKK.out, ?_⟩⟩
     refine ⟨_, results_cell_int rfl _ _ (w.heap.size + 1 + 1) t rfl ?_ Tryz.underlying3, rfl, ?_⟩
     · exact cell_kept HCR.out (grownBy_putObj' _ D (.deferred none)) (fun r e => by cases e; exact ⟨_, HKK.out, rfl⟩)
     · exact HBB.out.trans (belowK_b (w := w) (Nat.le_refl _) V D _ _ (Nat.le_trans HZ1.out HDD.out) HKK.out rfl rfl)
  | succ g =>
   have hq := HF.out
   rw [downN] at hq
   obtain ⟨e, he⟩ : ∃ e : Nat, fr + g + 1 = e := ⟨_, rfl⟩
   rw [show fr + (g + 1) = e by omega]
   rw [he] at hq
   have hez : (fr : Int) < (e : Int) := by omega
   obtain ⟨n1, hn1⟩ : ∃ n1 : Nat, fr + g = n1 := ⟨_, rfl⟩
   rw [hn1] at hq
   have h0 : (0 : Int) ≤ (n1 : Int) := by omega
   have h1 : (n1 : Int) < (bs.length : Int) := by omega
   have hw1 : wrap64 ((e : Int) - 1) = (n1 : Int) := by unfold wrap64; omega
   have hw2 : IntKind.i64.wrap ((e : Int) - 1) = (n1 : Int) := by rw [i64_w]; exact hw1
   obtain ⟨ad5, hA5, hx5⟩ := Kd.at_int HQ.out.2.2.2.1.2.2.2.2.2.1 (n1 : Int) h0 h1
   have hxx : rd bs (n1 : Int) = bs.getD n1 0 := by simp [rd]
   rw [hxx, Int.toNat_natCast] at hx5
   obtain ⟨y, hy⟩ : ∃ y, bs.getD n1 0 = y := ⟨_, rfl⟩
   rw [hy] at hx5 hq
   subst hA5
   have HLE := az (show fr ≤ e ∧ e ≤ rs.length by omega)
   have HE := az (show e = fr + g + 1 ∧ n1 = fr + g by omega)
   have HGM := az hgm
   have HGG := az hgg
   clear hxx hy he hn1 HF hgm hgg
   by_cases hy0 : y = 0
   ·
    rw [if_neg (show ¬ (¬ y = 0 ∧ fitV W wide fr e = true) from fun h => h.1 hy0)] at hq
    have b0 : (y != 0) = false := bne_eq_false_iff_eq.mpr hy0
    have HQQ := az hq
    clear hq hy0
    go_wp2
    go_roundg g
    case measure => have := HGG.out; omega
    case rel => exact ⟨g, by have := HE.out.2; first | (rw [← this]; done) | (congr 1; omega), zE HGM.out, Nat.le_refl _, HQQ, HQ, HMC, HZ⟩
   ·
    have b0 : (y != 0) = true := bne_iff_ne.mpr hy0
    cases hfi : fitV W wide fr e
    case false =>
     rw [if_neg (show ¬ (¬ y = 0 ∧ fitV W wide fr e = true) from fun h => by rw [hfi] at h; exact absurd h.2 (by decide))] at hq
     have HFI := az hfi
     have HQQ := az hq
     clear hq hy0 hfi q3 q4
     go_wp2_with (go_at_call 53; go_must (refine (fitsI_calls k gb A0 c0 rs A1 c1 ws (some ad5) c2 bs wide (fr : Int) (e : Int) (W fr e) _ HQ.out.2.2.2.1 (HW.out e HLE.out.1 HLE.out.2)).mono ?_); rw [show decide (W fr e ≤ wide) = false from HFI.out]; rintro e1 w2 ⟨rfl, hb2⟩; have HQ2 := az (HQ.out.below HZ.out hb2); have HMC2 := az (blk_below HMC.out hb2); have HZ2 := az (Nat.le_trans HZ.out hb2.size); have q3 := (blk_cell HQ2.out.2.2.1 0).trans (show _ = some (Value.int .i64 0) from rfl); have q4 := blk_frozen HQ2.out.2.2.1 0; clear hb2)
     go_roundg g
     case measure => have := HGG.out; omega
     case rel => exact ⟨g, by have := HE.out.2; first | (rw [← this]; done) | (congr 1; omega), zE HGM.out, Nat.le_refl _, HQQ, HQ2, HMC2, HZ2⟩
    case true =>
     rw [if_pos ⟨hy0, hfi⟩] at hq
     have HTE : Aside0 ((e : Int) = t) := ⟨by have h := HT.out; unfold nextI at h; rw [← hq] at h; exact Option.some.inj h⟩
     have HFI := az hfi
     clear hq hy0 hfi q3 q4
     go_wp2_with (go_at_call 53; go_must (refine (fitsI_calls k gb A0 c0 rs A1 c1 ws (some ad5) c2 bs wide (fr : Int) (e : Int) (W fr e) _ HQ.out.2.2.2.1 (HW.out e HLE.out.1 HLE.out.2)).mono ?_); rw [show decide (W fr e ≤ wide) = true from HFI.out]; rintro e1 w2 ⟨rfl, hb2⟩; have HQ2 := az (HQ.out.below HZ.out hb2); have HMC2 := az (blk_below HMC.out hb2); have HZ2 := az (Nat.le_trans HZ.out hb2.size); have q3 := (blk_cell HQ2.out.2.2.1 0).trans (show _ = some (Value.int .i64 0) from rfl); have q4 := blk_frozen HQ2.out.2.2.1 0; clear hb2)
     refine bodyPostM_ret (results_cell_int rfl _ _ (w.heap.size + 1 + 1) t rfl ?_ Tryz.underlying3) rfl ?_
     ·
      rw [← HTE.out]
      exact (blk_cell (blk_set HQ2.out.2.2.1 0 (.int .i64 e)) 0).trans rfl
     · exact ⟨rfl, HQ2.out.2.2.2.2.setCell (p := ⟨w.heap.size + 1 + 1, 0, none⟩) (Nat.le_trans (Nat.le_succ _) (Nat.le_succ _)) _⟩
end
theorem endsG_calls (k : Nat) (gb : Nat) (A0 : Option Addr) (c0 : Nat) (rs : List Int) (A1 : Option Addr) (c1 : Nat) (ws : List Int) (A2 : Option Addr) (c2 : Nat) (bs : List Int) (wide : Int) (W : Nat → Nat → Int) (M : Nat → Nat) (N : Nat → Int) (ss r : List Int) (w : World) (hf : FlO 69 gb A0 c0 rs A1 c1 ws A2 c2 bs wide w) (hn : rs.length ≤ 1000) (hbl : bs.length = rs.length) (hW : ∀ i j : Nat, i ≤ j → j ≤ rs.length → impl_lineWide.f k rs ws (i : Int) (j : Int) = some (W i j)) (hM : ∀ i : Nat, i < rs.length → ∃ x, slices_Index_int_int.f k (bs.drop i) 2 = some x ∧ (i : Int) + x + 1 = (M i : Int) ∧ i < M i ∧ M i ≤ rs.length) (hs : impl_starts.f k rs = some ss) (hsl : ss.length ≤ 999) (hss : ∀ t, t ∈ ss → 0 ≤ t ∧ t ≤ (rs.length : Int)) (hN : ∀ i : Nat, i < rs.length → nextI bs (fitV W wide) (ss ++ [(rs.length : Int)]) i (M i) = some (N i)) (hr : greedyN N rs.length rs.length 0 = some r) :
  Calls Tryz.prog 162 #[.agg #[.pointer (some ⟨gb, 0, none⟩)]] w fun e w' => ∃ v0_ : Value, e = .returned v0_ ∧ Kd.R (Kd.int .i64) 3 w' w.heap.size (fun _ => True) v0_ r ∧ Below w.heap.size w w' := by
 obtain ⟨W3, hW3⟩ : ∃ W3, w.alloc (.cells #[.pointer (some ⟨gb, 0, none⟩)] 81) = W3 := ⟨_, rfl⟩
 have HB3 : Aside0 (Below w.heap.size w W3) := ⟨by rw [← hW3]; exact below_alloc (Below.refl _ _) _⟩
 have HX3 : Aside0 (W3.heap[w.heap.size]? = some (.cells #[.pointer (some ⟨gb, 0, none⟩)] 81 (0, 0))) := ⟨by rw [← hW3]; exact blk_new w _⟩
 have HFL := az hf
 have HW := az hW
 have HM := az hM
 have HBL := az hbl
 have HN := az hn
 have HNX := az hN
 have HST := az hs
 have HSL := az hsl
 have HSS := az hss
 have HRR := az hr
 clear hf hW hM hbl hN hs hsl hss hr
 go_enter Tryz.func162, Tryz.ntmps162
 go_upto_region 1 with fail
 clear hW3
 go_wp2
 go_loopg [3, 4] rs.length (fun gg s3 s4 wr => ∃ (i g : Nat) (out : List Int), s4 = .int .i64 i ∧ i ≤ rs.length ∧ g ≤ gg ∧ Aside0 (∃ rest, greedyN N rs.length g i = some rest ∧ out ++ rest = r) ∧ Aside0 (out.length + g ≤ rs.length) ∧ Aside0 (Kd.R (Kd.int .i64) 3 wr w.heap.size (fun _ => True) s3 out) ∧ Aside0 (Below w.heap.size w wr) ∧ Aside0 (wr.heap[w.heap.size]? = some (.cells #[.pointer (some ⟨gb, 0, none⟩)] 81 (0, 0))) ∧ Aside0 (w.heap.size < wr.heap.size))
 case atStart => exact ⟨0, rs.length, [], rfl, Nat.zero_le _, Nat.le_refl _, ⟨_, HRR.out, rfl⟩, ⟨by simp⟩, ⟨Kd.R_nil _ _ _ _ _⟩, HB3, HX3, ⟨(Array.getElem?_eq_some_iff.1 HX3.out).1⟩⟩
 case round =>
  clear HRR HB3 HX3
  obtain ⟨i, g, out, rfl, hi, hg, HF, HLO, HO, HB, HBX, HSZ⟩ := hrel
  obtain ⟨rest, hq, hrest⟩ := HF.out
  have HQ := az (HFL.out.below HB.out)
  have q0 := (blk_cell HQ.out.1 0).trans (show _ = some (Value.slice A0 rs.length c0) from rfl)
  have qb := (blk_cell HBX.out 0).trans (show _ = some (Value.pointer (some ⟨gb, 0, none⟩)) from rfl)
  by_cases hlt : i < rs.length
  ·
   have hltz : (i : Int) < (rs.length : Int) := by omega
   have HLT := az hlt
   cases g with
   | zero => rw [greedyN, if_pos hlt] at hq; cases hq
   | succ g =>
   rw [greedyN, if_pos hlt] at hq
   by_cases hb : 0 ≤ N i ∧ N i ≤ (rs.length : Int)
   case neg => rw [if_neg hb] at hq; cases hq
   case pos =>
   rw [if_pos hb] at hq
   replace hq := Option.bind_eq_some_iff.mp hq
   obtain ⟨l, hl, hq⟩ := hq
   obtain rfl := Option.some.inj hq
   have hni := HNX.out i hlt
   obtain ⟨x, hx⟩ : ∃ x : Nat, N i = x := ⟨(N i).toNat, by omega⟩
   rw [hx, Int.toNat_natCast] at hl
   rw [hx] at hb hrest hni
   obtain ⟨y, hy1, hy2, hy3, hy4⟩ := HM.out i hlt
   have HNI := az hni
   have HY := az (And.intro hy1 (And.intro hy2 (And.intro hy3 hy4)))
   have HXB := az hb.2
   have HLL := az hl
   have HRE := az hrest
   have HGG := az hg
   clear hx hb hl hrest hlt HF hg hni hy1 hy2 hy3 hy4 hi
   go_wp2_with (first
    | (go_at_call 163; go_must (refine (nextG_calls k gb A0 c0 rs A1 c1 ws A2 c2 bs wide W ss i (M i) y (x : Int) _ HQ.out HLT.out HN.out HBL.out (fun j h1 h2 => HW.out i j h1 h2) HY.out.1 HY.out.2.1 HY.out.2.2.1 HY.out.2.2.2 HST.out HSL.out HSS.out HNI.out).mono ?_); rintro e w2 ⟨rfl, hb2⟩; have HO2 := az (Kd.R_below HO.out hb2); have HB2 := az (below_then HB.out HB.out.size hb2); have HBX2 := az (blk_below HBX.out hb2); clear hb2)
    | ((with_reducible refine gate_builtin (b := .append) (xs := #[.tmp 16, .tmp 18]) rfl ?_); at_builtin; go_must (refine appI (w0 := w) (base := w.heap.size) Tryz.underlying22 info3 rfl (.tmp 16) (.tmp 18) rfl _ out (x : Int) rfl rfl HO2.out HB2.out HB2.out.size ?aL ?_); (case aL => have := HLO.out; have := HN.out; omega); intro v9 w9 ho9 hb9 hg9 hat9; have HO9 := az ho9; have HB9 := az hb9; have HBX9 : Aside0 (w9.heap[w.heap.size]? = some (.cells #[.pointer (some ⟨gb, 0, none⟩)] 81 (0, 0))) := ⟨blk_grown HBX2.out hg9 (Kd.R_ne HO2.out HBX2.out (by decide))⟩; clear ho9 hb9 hg9 hat9))
   go_roundg g
   case measure => have := HGG.out; omega
   case rel => exact ⟨x, g, _, rfl, zE HXB.out, Nat.le_refl _, ⟨l, HLL.out, by rw [List.append_assoc]; exact HRE.out⟩, ⟨by have := HLO.out; rw [List.length_append]; simp; omega⟩, HO9, HB9, HBX9, ⟨(Array.getElem?_eq_some_iff.1 HBX9.out).1⟩⟩
  ·
   have hltz : ¬ (i : Int) < (rs.length : Int) := by omega
   have HRE : Aside0 (out = r) := by
    have : rest = [] := by
     cases g with
     | zero => rw [greedyN, if_neg hlt] at hq; exact (Option.some.inj hq).symm
     | succ g => rw [greedyN, if_neg hlt] at hq; exact (Option.some.inj hq).symm
    subst this
    exact ⟨by rw [← hrest, List.append_nil]⟩
   clear hq hrest HF
   go_wp2
   go_ret
   exact ⟨_, rfl, by rw [← HRE.out]; exact HO.out, HB.out⟩
end Go.Proofs.YtmcdcogedcbndaaGreat.S
