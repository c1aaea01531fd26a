/- Behind the rules for figures and signs no letter of some, no sign and nothing that stands on others is left: of all drawn classes and sides, for every code. No condition beyond the statement's own. (text 3 of 4 of this claim: functions of the program and of the reference as plain Lean functions, what a call of each comes to, and what follows.) -/
import Derived.Test.YtojehfdioeglgaaZFnLevelWeakA0
import Derived.Test.YtojehfdioeglgaaZFnLevelWeakA1
namespace Go.Proofs.Ytojehfdioeglgaa.S
open Go.RowKit Go.Proofs.YtojehfdioeglgaaW.PrintWords Go.Proofs.YtojehfdioeglgaaW.PrintLast Go.Proofs.YtojehfdioeglgaaW.PrintMore
attribute [local go_sem] max2_int min2_int max_two min_two max_three min_three max_four min_four   -- for this text's walks alone
set_option linter.unusedVariables false
set_option linter.unusedSimpArgs false

/-! ### laws_heldIntS: function 14 -/
def laws_heldIntS.l0 : Nat → List Int → Int → Int → Option (Int)
  | 0, _, _, _ => none
  | k + 1, x0, x1, x5 => if x5 < (x0.length : Int) then (if 0 ≤ x5 then (if (rd x0 x5) = x1 then (laws_heldIntS.l0 k x0 (wrap64 (x1 + 1)) (wrap64 (x5 + 1))) else (some (-1))) else (none)) else (some x1)
def laws_heldIntS.f (k : Nat) (l0 : List Int) (a1 : Int) : Option (Int) := laws_heldIntS.l0 k l0 a1 0
theorem laws_heldIntS.mono_l : ∀ k, (∀ y0 y1 y2, LeO (laws_heldIntS.l0 k y0 y1 y2) (laws_heldIntS.l0 (k + 1) y0 y1 y2))
  | 0 => fun _ _ _ r h => by simp [laws_heldIntS.l0] at h
  | k + 1 => by
    have ih0 := laws_heldIntS.mono_l k
    · intro y0 y1 y2
      unfold laws_heldIntS.l0
      repeat' first
      | (with_reducible exact ih0 _ _ _)
      | (with_reducible exact LeO.refl _)
      | (with_reducible exact LeO.none _)
      | (with_reducible refine LeO.ite ?_ ?_)
      | (with_reducible refine LeO.bind ?_ (fun _ => ?_))
      | exact ih0 _ _ _
      | exact LeO.none _
      | refine LeO.ite ?_ ?_
      | refine LeO.bind ?_ (fun _ => ?_)
theorem laws_heldIntS.mono : ∀ a0 a1 k, LeO (laws_heldIntS.f k a0 a1) (laws_heldIntS.f (k + 1) a0 a1) := by
  intro a0 a1 k
  have ih0 := laws_heldIntS.mono_l k
  unfold laws_heldIntS.f
  repeat' first
      | (with_reducible exact ih0 _ _ _)
      | (with_reducible exact LeO.refl _)
      | (with_reducible exact LeO.none _)
      | (with_reducible refine LeO.ite ?_ ?_)
      | (with_reducible refine LeO.bind ?_ (fun _ => ?_))
      | exact ih0 _ _ _
      | exact LeO.none _
      | refine LeO.ite ?_ ?_
      | refine LeO.bind ?_ (fun _ => ?_)
set_option maxHeartbeats 8000000 in
set_option maxRecDepth 100000 in
theorem laws_heldIntS.calls (k : Nat) (A0 : Option Addr) (c0 : Nat) (l0 : List Int) (a1 : Int) (r : Int) (w : World) (hr0 : Kd.C (Kd.int .i64) w A0 l0.length l0) (hc0 : l0.length ≤ c0) (h : laws_heldIntS.f k l0 a1 = some r) :
    Calls Try.prog 14 #[.slice A0 l0.length c0, .int .i64 a1] w fun e w' => e = .returned (.int .i64 r) ∧ Drawn0 w w' := by
  have HR0 := Aside0.mk hr0
  have HC0 := Aside0.mk hc0
  clear hr0 hc0
  have H : (laws_heldIntS.l0 k l0 a1 0) = some r := h
  clear h
  have H' := Aside0.mk H
  clear H
  go_enter Try.func14, Try.ntmps14
  go_wp2
  go_loopg [1, 5] k (fun kq v1 v5 w' => ∃ (x1_1 : Int) (x5_1 : Int), v1 = .int .i64 x1_1 ∧ v5 = .int .i64 x5_1 ∧ Aside0 (laws_heldIntS.l0 kq l0 x1_1 x5_1 = some r) ∧ Aside0 (kq ≤ k) ∧ Drawn0 w w')
  case atStart => exact ⟨(a1), (0), (by first | rfl | (simp; done) | (simp [*]; done)), (by first | rfl | (simp; done) | (simp [*]; done)), H', ⟨Nat.le_refl _⟩, by repeat (first | exact Drawn0.refl _ | apply Drawn0.step)⟩
  case round =>
    clear H'
    try clear c1
    try clear p2
    obtain ⟨x1_1, x5_1, rfl, rfl, HA, HK1, ⟨m1, rfl⟩⟩ := hrel
    cases gk with
    | zero => exact absurd HA.out (by simp [laws_heldIntS.l0])
    | succ k1 =>
      have H := HA.out
      clear HA
      simp only [laws_heldIntS.l0] at H
      by_cases c3 : x5_1 < (l0.length : Int)
      · rw [if_pos c3] at H
        have c3b0 : decide (x5_1 < (l0.length : Int)) = true := decide_eq_true c3
        clear c3
        by_cases c4 : 0 ≤ x5_1
        · rw [if_pos c4] at H
          have c4b0 : decide (0 ≤ x5_1) = true := decide_eq_true c4
          clear c4
          by_cases c5 : (rd l0 x5_1) = x1_1
          · rw [if_pos c5] at H
            have c5b0 : ((rd l0 x5_1) == x1_1) = true := beq_iff_eq.mpr c5
            have c5b1 : ((rd l0 x5_1) != x1_1) = false := bne_eq_false_iff_eq.mpr c5
            clear c5
            have H' := Aside0.mk H
            clear H
            have p175 : 0 ≤ (x5_1 : Int) := of_decide_eq_true (by first | (with_reducible assumption) | assumption)
            have q175 : x5_1 < (l0.length : Int) := of_decide_eq_true (by first | (with_reducible assumption) | assumption)
            obtain ⟨ad175, e175, hx175_0⟩ := Kd.at_int HR0.out x5_1 p175 q175
            cases e175
            replace p175 := eq_true p175
            replace q175 := eq_true q175
            go_wp2
            go_roundg k1
            case measure => have := HK1.out; omega
            case rel => exact ⟨(wrap64 (x1_1 + 1)), (wrap64 (x5_1 + 1)), (by first | rfl | (simp; done) | (simp [*]; done)), (by first | rfl | (simp; done) | (simp [*]; done)), H', ⟨by have := HK1.out; omega⟩, by repeat (first | exact Drawn0.refl _ | apply Drawn0.step)⟩
          · rw [if_neg c5] at H
            have c5b0 : ((rd l0 x5_1) == x1_1) = false := beq_eq_false_iff_ne.mpr c5
            have c5b1 : ((rd l0 x5_1) != x1_1) = true := bne_iff_ne.mpr c5
            obtain rfl := Option.some.inj H
            have p175 : 0 ≤ (x5_1 : Int) := of_decide_eq_true (by first | (with_reducible assumption) | assumption)
            have q175 : x5_1 < (l0.length : Int) := of_decide_eq_true (by first | (with_reducible assumption) | assumption)
            obtain ⟨ad175, e175, hx175_0⟩ := Kd.at_int HR0.out x5_1 p175 q175
            cases e175
            replace p175 := eq_true p175
            replace q175 := eq_true q175
            go_wp2
            go_ret
            exact ⟨by first | rfl | (simp; done) | (simp [*]; done), by repeat (first | exact Drawn0.refl _ | apply Drawn0.step)⟩
        · rw [if_neg c4] at H
          exact absurd H (by simp)
      · rw [if_neg c3] at H
        have c3b0 : decide (x5_1 < (l0.length : Int)) = false := decide_eq_false c3
        clear c3
        obtain rfl := Option.some.inj H
        go_wp2
        go_ret
        exact ⟨by first | rfl | (simp; done) | (simp [*]; done), by repeat (first | exact Drawn0.refl _ | apply Drawn0.step)⟩

end Go.Proofs.Ytojehfdioeglgaa.S

/- What the laws' own helpers answer: a copy, equality, a row written with 1, 2, 3 .., and whether it still holds that. -/
namespace Go.Proofs.Ytojehfdioeglgaa.Pure
open Go.RowKit Go.Proofs.Ytojehfdioeglgaa.S Go.Proofs.YtojehfdioeglgaaW.PrintWords Go.Proofs.YtojehfdioeglgaaW.PrintLast
theorem w64 {x : Int} (h0 : -9223372036854775808 ≤ x) (h1 : x ≤ 9223372036854775807) : wrap64 x = x := by
  unfold wrap64; omega
theorem rd_nat (l : List Int) (i : Nat) : rd l (i : Int) = l.getD i 0 := by simp [rd]
theorem rd_get {l : List Int} {i : Nat} (h : i < l.length) : rd l (i : Int) = l[i] := by simp [rd, List.getD_eq_getElem?_getD, h]
theorem copy_l (l : List Int) (hn : l.length ≤ 1099511627776) : ∀ (d k i : Nat), l.length - i = d → i ≤ l.length → d < k →
    laws_toIntS.l0 k l (l.take i ++ List.replicate (l.length - i) 0) (i : Int) = some l
  | 0, k, i, hd, hi, hk => by
    obtain ⟨k, rfl⟩ : ∃ m, k = m + 1 := ⟨k - 1, by omega⟩
    have e : i = l.length := by omega
    subst e
    rw [laws_toIntS.l0, if_neg (by omega)]
    simp
  | d + 1, k, i, hd, hi, hk => by
    obtain ⟨k, rfl⟩ : ∃ m, k = m + 1 := ⟨k - 1, by omega⟩
    have hlt : i < l.length := by omega
    rw [laws_toIntS.l0, if_pos (by omega), if_pos (by omega), if_pos (by simp; omega), w64 (by omega) (by omega)]
    have e : (l.take i ++ List.replicate (l.length - i) 0).set (i : Int).toNat (rd l i) = l.take (i + 1) ++ List.replicate (l.length - (i + 1)) 0 := by
      rw [Int.toNat_natCast, rd_get hlt, List.set_append_right _ _ (by simp; omega)]
      have h1 : i - (l.take i).length = 0 := by simp; omega
      rw [h1, show l.length - i = (l.length - (i + 1)) + 1 by omega, List.replicate_succ, List.set_cons_zero, List.take_succ_eq_append_getElem hlt, List.append_assoc]
      rfl
    rw [e]
    exact copy_l l hn d k (i + 1) (by omega) (by omega) (by omega)
theorem copy_p {l : List Int} {k : Nat} (hn : l.length ≤ 1099511627776) (hk : l.length < k) : laws_toIntS.f k l = some l := by
  unfold laws_toIntS.f
  rw [if_pos (by omega), if_pos (by omega)]
  simpa using copy_l l hn l.length k 0 (by omega) (by omega) hk
theorem eq_l (a b : List Int) (hab : a.length = b.length) (hn : a.length ≤ 1099511627776) : ∀ (d k i : Nat), a.length - i = d → i ≤ a.length → d < k →
    laws_eqIntS.l0 k a b (i : Int) = some (decide (a.drop i = b.drop i))
  | 0, k, i, hd, hi, hk => by
    obtain ⟨k, rfl⟩ : ∃ m, k = m + 1 := ⟨k - 1, by omega⟩
    have e : i = a.length := by omega
    subst e
    rw [laws_eqIntS.l0, if_neg (by omega), List.drop_length, hab, List.drop_length]
    simp
  | d + 1, k, i, hd, hi, hk => by
    obtain ⟨k, rfl⟩ : ∃ m, k = m + 1 := ⟨k - 1, by omega⟩
    have hlt : i < a.length := by omega
    have hlb : i < b.length := by omega
    rw [laws_eqIntS.l0, if_pos (by omega), if_pos (by omega), if_pos (by omega), w64 (by omega) (by omega), rd_get hlt, rd_get hlb, List.drop_eq_getElem_cons hlt, List.drop_eq_getElem_cons hlb]
    have := eq_l a b hab hn d k (i + 1) (by omega) (by omega) (by omega)
    rw [show ((i : Int) + 1) = ((i + 1 : Nat) : Int) by omega, this]
    by_cases h : a[i] = b[i]
    · rw [if_pos h, h]
      simp only [List.cons.injEq, true_and]
    · rw [if_neg h]
      simp only [List.cons.injEq, h, false_and, decide_false]
theorem eq_p {a b : List Int} {k : Nat} (hn : a.length ≤ 1099511627776) (hk : a.length < k) : laws_eqIntS.f k a b = some (decide (a = b)) := by
  unfold laws_eqIntS.f
  by_cases hab : a.length = b.length
  · rw [if_pos (by omega)]
    simpa using eq_l a b hab hn a.length k 0 (by omega) (by omega) hk
  · rw [if_neg (by omega)]
    simp only [Option.some.injEq]
    exact (decide_eq_false (fun h => hab (by rw [h]))).symm
/-- a, a + 1, .. : n of them. -/
def iota (a : Int) : Nat → List Int
  | 0 => []
  | n + 1 => a :: iota (a + 1) n
theorem iota_length : ∀ (n : Nat) (a : Int), (iota a n).length = n
  | 0, _ => rfl
  | n + 1, a => by simp [iota, iota_length n]
theorem mark_l : ∀ (d k i : Nat) (l : List Int) (a : Int), l.length ≤ 1099511627776 → -1099511627776 ≤ a → a ≤ 1099511627776 * 4 → a + d ≤ 1099511627776 * 4 → l.length - i = d → i ≤ l.length → d < k →
    laws_markIntS.l0 k l a (i : Int) = some (a + d, l.take i ++ iota a d)
  | 0, k, i, l, a, hn, h0, h1, h2, hd, hi, hk => by
    obtain ⟨k, rfl⟩ : ∃ m, k = m + 1 := ⟨k - 1, by omega⟩
    have e : i = l.length := by omega
    subst e
    rw [laws_markIntS.l0, if_neg (by omega)]
    simp [iota]
  | d + 1, k, i, l, a, hn, h0, h1, h2, hd, hi, hk => by
    obtain ⟨k, rfl⟩ : ∃ m, k = m + 1 := ⟨k - 1, by omega⟩
    have hlt : i < l.length := by omega
    rw [laws_markIntS.l0, if_pos (by omega), if_pos (by omega), w64 (x := (i : Int) + 1) (by omega) (by omega), w64 (by omega) (by omega), Int.toNat_natCast]
    have := mark_l d k (i + 1) (l.set i a) (a + 1) (by simpa using hn) (by omega) (by omega) (by omega) (by simp; omega) (by simp; omega) (by omega)
    rw [show ((i : Int) + 1) = ((i + 1 : Nat) : Int) by omega, this]
    simp only [Option.some.injEq, Prod.mk.injEq, iota]
    refine ⟨by omega, ?_⟩
    rw [List.take_succ_eq_append_getElem (by simpa using hlt)]
    simp [List.take_set_of_le]
theorem mark_p {l : List Int} {a : Int} {k : Nat} (hn : l.length ≤ 1099511627776) (h0 : -1099511627776 ≤ a) (h1 : a ≤ 1099511627776) (hk : l.length < k) : laws_markIntS.f k l a = some (a + l.length, iota a l.length) := by
  unfold laws_markIntS.f
  simpa using mark_l l.length k 0 l a hn h0 (by omega) (by omega) (by omega) (by omega) hk
theorem held_l : ∀ (d k i : Nat) (l : List Int) (a : Int), l.length ≤ 1099511627776 → -1099511627776 ≤ a → a + d ≤ 1099511627776 * 4 → l.length - i = d → i ≤ l.length → d < k → l.drop i = iota a d →
    laws_heldIntS.l0 k l a (i : Int) = some (a + d)
  | 0, k, i, l, a, hn, h0, h2, hd, hi, hk, he => by
    obtain ⟨k, rfl⟩ : ∃ m, k = m + 1 := ⟨k - 1, by omega⟩
    rw [laws_heldIntS.l0, if_neg (by omega)]
    simp
  | d + 1, k, i, l, a, hn, h0, h2, hd, hi, hk, he => by
    obtain ⟨k, rfl⟩ : ∃ m, k = m + 1 := ⟨k - 1, by omega⟩
    have hlt : i < l.length := by omega
    rw [List.drop_eq_getElem_cons hlt, iota] at he
    obtain ⟨e1, e2⟩ := List.cons.inj he
    rw [laws_heldIntS.l0, if_pos (by omega), if_pos (by omega), rd_get hlt, if_pos e1, w64 (x := (i : Int) + 1) (by omega) (by omega), w64 (by omega) (by omega)]
    have := held_l d k (i + 1) l (a + 1) hn (by omega) (by omega) (by omega) (by omega) (by omega) e2
    rw [show ((i : Int) + 1) = ((i + 1 : Nat) : Int) by omega, this]
    congr 1; omega
theorem held_p {n : Nat} {a : Int} {k : Nat} (hn : n ≤ 1099511627776) (h0 : -1099511627776 ≤ a) (h1 : a ≤ 1099511627776) (hk : n < k) : laws_heldIntS.f k (iota a n) a = some (a + n) := by
  unfold laws_heldIntS.f
  have hl := iota_length n a
  simpa using held_l n k 0 (iota a n) a (by omega) h0 (by omega) (by omega) (by omega) hk rfl
end Go.Proofs.Ytojehfdioeglgaa.Pure

/- The rules for figures and signs: the reference's loops are the program's rules. -/
namespace Go.Proofs.Ytojehfdioeglgaa.Pure
open Go.RowKit Go.Proofs.Ytojehfdioeglgaa.S Go.Proofs.YtojehfdioeglgaaW.PrintWords Go.Proofs.YtojehfdioeglgaaW.PrintLast
theorem l1In_w (a b c : Int) : spec_l1In.f a b c = some (decide (b ≤ a) && decide (a ≤ c)) := by
  unfold spec_l1In.f
  by_cases h : b ≤ a <;> simp [h]
def upR (f : List Int → Nat → List Int) (l : List Int) (i : Nat) : Nat → List Int
  | 0 => l
  | d + 1 => upR f (f l i) (i + 1) d
theorem upR_upTo (f : List Int → Nat → List Int) (l : List Int) (i : Nat) : ∀ d, upR f l i d = (match d with | 0 => l | d + 1 => upR f (f l i) (i + 1) d)
  | 0 => rfl
  | d + 1 => rfl
theorem upTo_add (f : List Int → Nat → List Int) (l : List Int) : ∀ (d i : Nat), upTo f l (i + d) = upR f (upTo f l i) i d
  | 0, i => rfl
  | d + 1, i => by
    rw [upR, show i + (d + 1) = (i + 1) + d by omega, upTo_add f l d (i + 1)]
    rfl
theorem upR_0 (f : List Int → Nat → List Int) (l : List Int) (n : Nat) : upR f l 0 n = upTo f l n := by
  have := upTo_add f l n 0
  rw [Nat.zero_add] at this
  rw [this]; rfl
theorem marksF_len (bf : Int) (l : List Int) (k : Nat) : (marksF bf l k).length = l.length := by unfold marksF; grind
theorem numbersF_len (l : List Int) (k : Nat) : (numbersF l k).length = l.length := by unfold numbersF; split <;> simp
theorem arabicF_len (l : List Int) (k : Nat) : (arabicF l k).length = l.length := by unfold arabicF; split <;> simp
theorem betweenF_len (l : List Int) (k : Nat) : (betweenF l k).length = l.length := by unfold betweenF; grind
theorem othersF_len (l : List Int) (k : Nat) : (othersF l k).length = l.length := by unfold othersF; split <;> simp
theorem plainF_len (bf : Int) (l : List Int) (k : Nat) : (plainF bf l k).length = l.length := by unfold plainF; grind
theorem rdG (l : List Int) (i : Nat) : rd l (i : Int) = l.getD i 0 := by simp [rd]
theorem wadd (i : Nat) (h : i < 1000000) : wrap64 ((i : Int) + 1) = ((i + 1 : Nat) : Int) := by rw [w64 (by omega) (by omega)]; omega
theorem wsub (i : Nat) (h : i < 1000000) (h0 : 0 < i) : wrap64 ((i : Int) - 1) = ((i - 1 : Nat) : Int) := by rw [w64 (by omega) (by omega)]; omega
theorem sopens_f (c : Int) : spec_l3Opens.f c = some (opensV c) := by
  unfold spec_l3Opens.f opensV
  rw [l1In_w, Option.bind_some]
  congr 1
  rw [Bool.eq_iff_iff]
  simp
  omega
theorem marks_l (bf : Int) : ∀ (d k i : Nat) (x : List Int), x.length ≤ 1000 → x.length - i = d → i ≤ x.length → d < k → spec_l3Marks.l0 k x bf (i : Int) = some (upR (marksF bf) x i d)
  | 0, k, i, x, hn, hd, hi, hk => by
    obtain ⟨k, rfl⟩ : ∃ m, k = m + 1 := ⟨k - 1, by omega⟩
    rw [spec_l3Marks.l0, if_neg (by omega)]; rfl
  | d + 1, k, i, x, hn, hd, hi, hk => by
    obtain ⟨k, rfl⟩ : ∃ m, k = m + 1 := ⟨k - 1, by omega⟩
    have ih := marks_l bf d k (i + 1) (marksF bf x i) (by rw [marksF_len]; omega) (by rw [marksF_len]; omega) (by rw [marksF_len]; omega) (by omega)
    rw [upR, ← ih, spec_l3Marks.l0, if_pos (by omega), if_pos (by omega), wadd i (by omega), Int.toNat_natCast, rdG]
    unfold marksF
    by_cases h1 : x.getD i 0 = 9
    · rw [if_pos h1, if_pos h1]
      by_cases h2 : i = 0
      · rw [if_pos (by omega), if_pos h2]
      · rw [if_neg (by omega), if_neg h2, wsub i (by omega) (by omega), if_pos (by omega), if_pos (by omega), rdG, sopens_f, Option.bind_some]
        split
        · rfl
        · split <;> rfl
    · rw [if_neg h1, if_neg h1]
theorem marks_p {bf : Int} {x : List Int} {k : Nat} (hn : x.length ≤ 1000) (hk : x.length < k) : spec_l3Marks.f k x bf = some (upTo (marksF bf) x x.length) := by
  unfold spec_l3Marks.f
  rw [← upR_0]
  exact marks_l bf x.length k 0 x hn (by omega) (by omega) hk
def strongS (x : List Int) (bf : Int) : Nat → Int
  | 0 => bf
  | m + 1 => if x.getD m 0 = 1 ∨ x.getD m 0 = 2 ∨ x.getD m 0 = 3 then x.getD m 0 else strongS x bf m
theorem strong_l (x : List Int) (bf : Int) (hn : x.length ≤ 1000) : ∀ (m k : Nat), m ≤ x.length → m < k → spec_l3Strong.l0 k x bf ((m : Int) - 1) = some (strongS x bf m)
  | 0, k, hm, hk => by
    obtain ⟨k, rfl⟩ : ∃ m, k = m + 1 := ⟨k - 1, by omega⟩
    rw [spec_l3Strong.l0, if_neg (by omega)]; rfl
  | m + 1, k, hm, hk => by
    obtain ⟨k, rfl⟩ : ∃ m, k = m + 1 := ⟨k - 1, by omega⟩
    have ih := strong_l x bf hn m k (by omega) (by omega)
    have e : ((m + 1 : Nat) : Int) - 1 = (m : Int) := by omega
    rw [spec_l3Strong.l0, e, if_pos (by omega), if_pos (by omega), if_pos (by omega), rdG, w64 (by omega) (by omega), ih, strongS]
    generalize x.getD m 0 = y
    grind
theorem strong_p {x : List Int} {bf : Int} {i k : Nat} (hn : x.length ≤ 1000) (hi : i < x.length) (hk : i + 1 < k) : spec_l3Strong.f k x (i : Int) bf = some (strongS x bf (i + 1)) := by
  unfold spec_l3Strong.f
  have := strong_l x bf hn (i + 1) k (by omega) hk
  rwa [show ((i + 1 : Nat) : Int) - 1 = (i : Int) by omega] at this
theorem strongV_iff (y : Int) : strongV y = true ↔ (y = 1 ∨ y = 2 ∨ y = 3) := by simp [strongV, sideV, or_assoc]
theorem strong_last (x : List Int) (bf : Int) : ∀ m, strongS x bf m = if lastV strongV x m = 0 then bf else lastV strongV x m
  | 0 => rfl
  | m + 1 => by
    have ih := strong_last x bf m
    have h := strongV_iff (x.getD m 0)
    rw [strongS, lastV]
    generalize x.getD m 0 = y at h
    grind
theorem last_side {x : List Int} : ∀ m, (∀ j, j < m → x.getD j 0 ≠ 3) → lastV strongV x m = lastV sideV x m
  | 0, _ => rfl
  | m + 1, h => by
    rw [lastV, lastV, last_side m (fun j hj => h j (by omega))]
    have h3 := h m (by omega)
    generalize x.getD m 0 = y at h3
    have : strongV y = sideV y := by simp [strongV, h3]
    rw [this]
theorem last_set (p : Int → Bool) (x : List Int) (i : Nat) (v : Int) : ∀ m, m ≤ i → lastV p (x.set i v) m = lastV p x m
  | 0, _ => rfl
  | m + 1, h => by
    rw [lastV, lastV, last_set p x i v m (by omega)]
    have : (x.set i v).getD m 0 = x.getD m 0 := by
      simp [List.getD_eq_getElem?_getD, List.getElem?_set, show i ≠ m by omega]
    rw [this]
/-- No letter of some is left. -/
def No3 (x : List Int) : Prop := ∀ j, x.getD j 0 ≠ 3
theorem getD_set (x : List Int) (i j : Nat) (v : Int) : (x.set i v).getD j 0 = if i = j ∧ j < x.length then v else x.getD j 0 := by
  simp only [List.getD_eq_getElem?_getD, List.getElem?_set]
  by_cases h : i = j
  · subst h
    by_cases h2 : i < x.length
    · simp [h2]
    · simp [h2]
  · simp [h]
theorem No3.set {x : List Int} (h : No3 x) (i : Nat) {v : Int} (hv : v ≠ 3) : No3 (x.set i v) := by
  intro j
  rw [getD_set]
  split
  · exact hv
  · exact h j
theorem plain_l (bf : Int) : ∀ (d k i : Nat) (x : List Int), x.length ≤ 1000 → No3 x → x.length - i = d → i ≤ x.length → d + 1002 < k → spec_l3Weak.l3 k bf x (i : Int) = some (upR (plainF bf) x i d)
  | 0, k, i, x, hn, h3, hd, hi, hk => by
    obtain ⟨k, rfl⟩ : ∃ m, k = m + 1 := ⟨k - 1, by omega⟩
    rw [spec_l3Weak.l3, if_neg (by omega)]; rfl
  | d + 1, k, i, x, hn, h3, hd, hi, hk => by
    obtain ⟨k, rfl⟩ : ∃ m, k = m + 1 := ⟨k - 1, by omega⟩
    have hN : No3 (plainF bf x i) := by
      unfold plainF
      repeat' split
      · exact h3.set i (by decide)
      · exact h3
      · exact h3
    have ih := plain_l bf d k (i + 1) (plainF bf x i) (by rw [plainF_len]; omega) hN (by rw [plainF_len]; omega) (by rw [plainF_len]; omega) (by omega)
    rw [upR, ← ih, spec_l3Weak.l3, if_pos (by omega), if_pos (by omega), wadd i (by omega), Int.toNat_natCast, rdG]
    unfold plainF
    by_cases h1 : x.getD i 0 = 4
    · rw [if_pos h1, if_pos h1, strong_p hn (by omega) (by omega), Option.bind_some, strongS, h1, if_neg (show ¬ ((4 : Int) = 1 ∨ (4 : Int) = 2 ∨ (4 : Int) = 3) by decide), strong_last, last_side i (fun j _ => h3 j)]
      generalize lastV sideV x i = v
      grind
    · rw [if_neg h1, if_neg h1]
theorem others_l (bf : Int) : ∀ (d k i : Nat) (x : List Int), x.length ≤ 1000 → No3 x → x.length - i = d → i ≤ x.length → d + 3002 < k → spec_l3Weak.l2 k bf x (i : Int) = some (upTo (plainF bf) (upR othersF x i d) x.length)
  | 0, k, i, x, hn, h3, hd, hi, hk => by
    obtain ⟨k, rfl⟩ : ∃ m, k = m + 1 := ⟨k - 1, by omega⟩
    rw [spec_l3Weak.l2, if_neg (by omega), ← upR_0]
    exact plain_l bf x.length k 0 x hn h3 (by omega) (by omega) (by omega)
  | d + 1, k, i, x, hn, h3, hd, hi, hk => by
    obtain ⟨k, rfl⟩ : ∃ m, k = m + 1 := ⟨k - 1, by omega⟩
    have hN : No3 (othersF x i) := by
      unfold othersF
      split
      · exact h3.set i (by decide)
      · exact h3
    have ih := others_l bf d k (i + 1) (othersF x i) (by rw [othersF_len]; omega) hN (by rw [othersF_len]; omega) (by rw [othersF_len]; omega) (by omega)
    rw [othersF_len] at ih
    rw [upR, ← ih, spec_l3Weak.l2, if_pos (by omega), if_pos (by omega), wadd i (by omega), Int.toNat_natCast, rdG, l1In_w, Option.bind_some]
    unfold othersF
    generalize x.getD i 0 = y
    grind
theorem between_l : ∀ (d k j : Nat) (x : List Int), x.length ≤ 1000 → x.length - 2 - j = d → j ≤ x.length → d < k → spec_l3Between.l0 k x ((j + 1 : Nat) : Int) = some (upR betweenF x j d)
  | 0, k, j, x, hn, hd, hi, hk => by
    obtain ⟨k, rfl⟩ : ∃ m, k = m + 1 := ⟨k - 1, by omega⟩
    rw [spec_l3Between.l0, wadd (j + 1) (by omega), if_neg (by omega)]; rfl
  | d + 1, k, j, x, hn, hd, hi, hk => by
    obtain ⟨k, rfl⟩ : ∃ m, k = m + 1 := ⟨k - 1, by omega⟩
    have ih := between_l d k (j + 1) (betweenF x j) (by rw [betweenF_len]; omega) (by rw [betweenF_len]; omega) (by rw [betweenF_len]; omega) (by omega)
    rw [upR, ← ih, spec_l3Between.l0, wadd (j + 1) (by omega), wsub (j + 1) (by omega) (by omega), if_pos (by omega), if_pos (by omega), if_pos (by omega), if_pos (by omega), rdG, rdG, Nat.add_sub_cancel, Int.toNat_natCast, rdG]
    unfold betweenF
    rw [if_pos (show 0 ≤ ((j + 1 : Nat) : Int) by omega), if_pos (show ((j + 1 : Nat) : Int) < (x.length : Int) by omega)]
    rw [show j + 1 + 1 = j + 2 from rfl]
    generalize x.getD j 0 = a, x.getD (j + 1) 0 = b, x.getD (j + 2) 0 = c
    grind
theorem between_p {x : List Int} {k : Nat} (hn : x.length ≤ 1000) (hk : x.length < k) : spec_l3Between.f k x = some (upTo betweenF x (x.length - 2)) := by
  unfold spec_l3Between.f
  rw [← upR_0]
  exact between_l (x.length - 2) k 0 x hn (by omega) (by omega) (by omega)
def pT : Int → Bool := fun c => c == 6
def qT : Int → Int → Option Int := fun a b => if a = 4 ∨ b = 4 then some 4 else none
theorem besideL_more (p : Int → Bool) (q : Int → Int → Option Int) : ∀ (k k' : Nat) (x : List Int) (i : Nat), x.length - i ≤ k → x.length - i ≤ k' → besideL p q k x i = besideL p q k' x i
  | 0, k', x, i, h, h' => by rw [besideL_end (by omega), besideL_end (by omega)]
  | k + 1, 0, x, i, h, h' => by rw [besideL_end (by omega), besideL_end (by omega)]
  | k + 1, k' + 1, x, i, h, h' => by
    by_cases hi : i < x.length
    · by_cases e : runE p x i = i
      · rw [besideL_one hi e, besideL_one hi e]
        exact besideL_more p q k k' x (i + 1) (by omega) (by omega)
      · have := runE_ge p x i
        rw [besideL_run hi e, besideL_run hi e]
        exact besideL_more p q k k' _ _ (by rw [subV_length]; omega) (by rw [subV_length]; omega)
    · rw [besideL_end hi, besideL_end hi]
def BT (x : List Int) (i : Nat) : List Int := besideL pT qT (x.length - i) x i
theorem BT_end {x : List Int} {i : Nat} (h : ¬ i < x.length) : BT x i = x := besideL_end h
theorem BT_one {x : List Int} {i : Nat} (h : i < x.length) (e : runE pT x i = i) : BT x i = BT x (i + 1) := by
  unfold BT
  rw [show x.length - i = (x.length - i - 1) + 1 by omega, besideL_one h e]
  exact besideL_more _ _ _ _ _ _ (by omega) (by omega)
theorem BT_run {x : List Int} {i : Nat} (h : i < x.length) (e : runE pT x i ≠ i) : BT x i = BT (subV qT x i (runE pT x i)) (runE pT x i) := by
  unfold BT
  have := runE_ge pT x i
  rw [show x.length - i = (x.length - i - 1) + 1 by omega, besideL_run h e]
  exact besideL_more _ _ _ _ _ _ (by rw [subV_length]; omega) (by rw [subV_length]; exact Nat.le_refl _)
theorem runE_eq {p : Int → Bool} {x : List Int} {i T : Nat} (h0 : i ≤ T) (h1 : T ≤ x.length) (ha : ∀ j, i ≤ j → j < T → p (x.getD j 0) = true) (hs : T < x.length → p (x.getD T 0) = false) : runE p x i = T := by
  have a1 := runE_ge p x i
  have a2 := runE_le (p := p) (l := x) (fr := i) (by omega)
  by_cases h : runE p x i < T
  · have := runE_stop (p := p) (l := x) (fr := i) (by omega)
    rw [ha _ a1 h] at this
    cases this
  · by_cases h' : T < runE p x i
    · have := runE_all (p := p) (l := x) (fr := i) h0 h'
      rw [hs (by omega)] at this
      cases this
    · omega
theorem runE_none {x : List Int} {i : Nat} (h : x.getD i 0 ≠ 6) (hi : i < x.length) : runE pT x i = i :=
  runE_eq (Nat.le_refl _) (by omega) (fun j a b => by omega) (fun _ => by simpa [pT] using h)
theorem fillV_get (x : List Int) (a : Nat) (v : Int) : ∀ (m j : Nat), a + m ≤ x.length → (fillV x a v m).getD j 0 = if a ≤ j ∧ j < a + m then v else x.getD j 0
  | 0, j, _ => by rw [fillV, if_neg (by omega)]
  | m + 1, j, h => by
    rw [fillV, getD_set, fillV_get x a v m j (by omega), fillV_length]
    by_cases e : a + m = j
    · rw [if_pos ⟨e, by omega⟩, if_pos (by omega)]
    · rw [if_neg (fun h => e h.1)]
      by_cases e2 : a ≤ j ∧ j < a + m
      · rw [if_pos e2, if_pos (by omega)]
      · rw [if_neg e2, if_neg (by omega)]
/-- Over what is none of them the search goes on one by one. -/
theorem BT_skip {x : List Int} : ∀ (d i : Nat), i + d ≤ x.length → (∀ j, i ≤ j → j < i + d → x.getD j 0 ≠ 6) → BT x i = BT x (i + d)
  | 0, i, _, _ => rfl
  | d + 1, i, h, ha => by
    rw [BT_one (by omega) (runE_none (ha i (by omega) (by omega)) (by omega)), BT_skip d (i + 1) (by omega) (fun j a b => ha j (by omega) (by omega))]
    congr 1; omega
theorem set_l2 (i T : Nat) : ∀ (d k j : Nat) (x : List Int), x.length ≤ 1000 → T - j = d → i ≤ j → j ≤ T → T ≤ x.length → d < k → i < x.length → ∃ k', k - d - 1 ≤ k' ∧ spec_l3Beside.l2 k x (i : Int) (T : Int) (j : Int) = spec_l3Beside.l0 k' (fillV x j 4 d) ((i + 1 : Nat) : Int)
  | 0, k, j, x, hn, hd, h0, h1, h2, hk, hi => by
    obtain ⟨k, rfl⟩ : ∃ m, k = m + 1 := ⟨k - 1, by omega⟩
    refine ⟨k, by omega, ?_⟩
    rw [spec_l3Beside.l2, if_neg (by omega), wadd i (by omega), fillV]
  | d + 1, k, j, x, hn, hd, h0, h1, h2, hk, hi => by
    obtain ⟨k, rfl⟩ : ∃ m, k = m + 1 := ⟨k - 1, by omega⟩
    obtain ⟨k', hk', e⟩ := set_l2 i T d k (j + 1) (x.set j 4) (by simpa using hn) (by omega) (by omega) (by omega) (by simpa using h2) (by omega) (by simpa using hi)
    refine ⟨k', by omega, ?_⟩
    rw [spec_l3Beside.l2, if_pos (by omega), if_pos (by omega), if_pos (by omega), wadd j (by omega), Int.toNat_natCast, e]
    congr 1
    apply List.ext_getElem
    · rw [fillV_length, fillV_length, List.length_set]
    · intro m a b
      have h1 := fillV_get (x.set j 4) (j + 1) 4 d m (by simp; omega)
      have h2 := fillV_get x j 4 (d + 1) m (by omega)
      rw [List.getD_eq_getElem?_getD, List.getElem?_eq_getElem a] at h1
      rw [List.getD_eq_getElem?_getD, List.getElem?_eq_getElem b] at h2
      simp only [Option.getD_some] at h1 h2
      rw [h1, h2, getD_set]
      grind
theorem run_l1 (i : Nat) (x : List Int) (T : Nat) (hn : x.length ≤ 1000) (hT : T ≤ x.length) (ha : ∀ j, i ≤ j → j < T → x.getD j 0 = 6) (hs : T < x.length → x.getD T 0 ≠ 6) : ∀ (d k j : Nat), T - j = d → i ≤ j → j ≤ T → d < k → ∃ k', k' = k - d - 1 ∧ spec_l3Beside.l1 k x (i : Int) (j : Int) = spec_l3Beside.j2 k' x (i : Int) (T : Int)
  | 0, k, j, hd, h0, h1, hk => by
    obtain ⟨k, rfl⟩ : ∃ m, k = m + 1 := ⟨k - 1, by omega⟩
    obtain rfl : j = T := by omega
    refine ⟨k, by omega, ?_⟩
    by_cases h : j < x.length
    · rw [spec_l3Beside.l1, if_pos (by omega), if_pos (by omega), rdG, if_neg (hs h)]
    · rw [spec_l3Beside.l1, if_neg (by omega)]
  | d + 1, k, j, hd, h0, h1, hk => by
    obtain ⟨k, rfl⟩ : ∃ m, k = m + 1 := ⟨k - 1, by omega⟩
    obtain ⟨k', hk', e⟩ := run_l1 i x T hn hT ha hs d k (j + 1) (by omega) (by omega) (by omega) (by omega)
    refine ⟨k', by omega, ?_⟩
    rw [spec_l3Beside.l1, if_pos (by omega), if_pos (by omega), rdG, if_pos (ha j h0 (by omega)), wadd j (by omega), e]
theorem beside_l : ∀ (d k i : Nat) (x : List Int), x.length ≤ 80 → x.length - i = d → i ≤ x.length → d * 200 + 2 < k → spec_l3Beside.l0 k x (i : Int) = some (BT x i)
  | 0, k, i, x, hn, hd, hi, hk => by
    obtain ⟨k, rfl⟩ : ∃ m, k = m + 1 := ⟨k - 1, by omega⟩
    rw [spec_l3Beside.l0, if_neg (by omega), BT_end (by omega)]
  | d + 1, k, i, x, hn, hd, hi, hk => by
    obtain ⟨k, rfl⟩ : ∃ m, k = m + 1 := ⟨k - 1, by omega⟩
    by_cases h6 : x.getD i 0 = 6
    · obtain ⟨T, hT⟩ : ∃ T, runE pT x i = T := ⟨_, rfl⟩
      have t0 := runE_ge pT x i
      have t1 := runE_le (p := pT) (l := x) (fr := i) hi
      have ta : ∀ j, i ≤ j → j < T → x.getD j 0 = 6 := fun j a b => by simpa [pT] using runE_all (p := pT) (l := x) (fr := i) a (by omega)
      have ts : T < x.length → x.getD T 0 ≠ 6 := fun h => by have := runE_stop (p := pT) (l := x) (fr := i) (by omega); rw [hT] at this; simpa [pT] using this
      rw [hT] at t0 t1
      have tl : i < T := by
        rcases Nat.lt_or_ge i T with h | h
        · exact h
        · have : T = i := by omega
          rw [this] at ts
          exact absurd h6 (ts (by omega))
      obtain ⟨k1, hk1, e1⟩ := run_l1 i x T (by omega) t1 ta ts (T - i) k i rfl (Nat.le_refl _) t0 (by omega)
      obtain ⟨k2, rfl⟩ : ∃ m, k1 = m + 1 := ⟨k1 - 1, by omega⟩
      obtain ⟨k3, rfl⟩ : ∃ m, k2 = m + 1 := ⟨k2 - 1, by omega⟩
      rw [spec_l3Beside.l0, if_pos (by omega), if_pos (by omega), rdG, if_pos h6, e1]
      have cond : spec_l3Beside.j2 (k3 + 1 + 1) x (i : Int) (T : Int) = spec_l3Beside.j3 (k3 + 1) x (i : Int) (T : Int) (decide ((if i = 0 then 0 else x.getD (i - 1) 0) = 4 ∨ (if T < x.length then x.getD T 0 else 0) = 4)) := by
        rw [spec_l3Beside.j2]
        by_cases hz : i = 0
        · rw [if_neg (by omega), if_pos hz]
          by_cases hl : T < x.length
          · rw [if_pos (by omega), if_pos (by omega), rdG, if_pos hl]
            congr 1
            rw [Bool.eq_iff_iff]; simp
          · rw [if_neg (by omega), if_neg hl]
            congr 1
        · rw [if_pos (by omega), wsub i (by omega) (by omega), if_pos (by omega), if_pos (by omega), rdG, if_neg hz]
          by_cases h4 : x.getD (i - 1) 0 = 4
          · rw [if_pos h4]
            congr 1
            rw [decide_eq_true (.inl h4)]
          · rw [if_neg h4]
            by_cases hl : T < x.length
            · rw [if_pos (by omega), if_pos (by omega), rdG, if_pos hl]
              congr 1
              rw [Bool.eq_iff_iff, beq_iff_eq, decide_eq_true_iff]
              exact ⟨fun h => .inr h, fun h => h.resolve_left h4⟩
            · rw [if_neg (by omega), if_neg hl]
              congr 1
              exact (decide_eq_false (by rintro (h | h); (exact h4 h); exact absurd h (by decide))).symm
      rw [cond, BT_run (by omega) (by omega), hT, spec_l3Beside.j3]
      unfold subV
      by_cases hc : (if i = 0 then 0 else x.getD (i - 1) 0) = 4 ∨ (if T < x.length then x.getD T 0 else 0) = 4
      · rw [decide_eq_true hc, if_pos rfl]
        simp only [qT, if_pos hc]
        obtain ⟨k4, hk4, e4⟩ := set_l2 i T (T - i) k3 i x (by omega) rfl (Nat.le_refl _) t0 t1 (by omega) (by omega)
        rw [e4, beside_l (d := d) k4 (i + 1) _ (by rw [fillV_length]; omega) (by rw [fillV_length]; omega) (by rw [fillV_length]; omega) (by omega)]
        congr 1
        have := BT_skip (x := fillV x i 4 (T - i)) (T - (i + 1)) (i + 1) (by rw [fillV_length]; omega) (fun j a b => by rw [fillV_get _ _ _ _ _ (by omega), if_pos (by omega)]; decide)
        rw [this]
        congr 1; omega
      · rw [decide_eq_false hc, if_neg (by simp)]
        simp only [qT, if_neg hc]
        rw [wadd i (by omega), beside_l (d := d) k3 (i + 1) x hn (by omega) (by omega) (by omega)]
        congr 1
        by_cases h1 : i + 1 = T
        · rw [h1]
        · have hr : runE pT x (i + 1) = T := runE_eq (by omega) t1 (fun j a b => by have := ta j (by omega) b; simpa [pT] using this) (fun h => by simpa [pT] using ts h)
          rw [BT_run (by omega) (by omega), hr]
          unfold subV
          rw [if_neg (by omega), Nat.add_sub_cancel, h6]
          simp only [qT]
          rw [if_neg (by rintro (h | h); (exact absurd h (by decide)); exact hc (.inr h))]
    · have ih := beside_l (d := d) k (i + 1) x hn (by omega) (by omega) (by omega)
      rw [spec_l3Beside.l0, if_pos (by omega), if_pos (by omega), rdG, if_neg h6, wadd i (by omega), ih, BT_one (by omega) (runE_none h6 (by omega))]
theorem beside_p {x : List Int} {k : Nat} (hn : x.length ≤ 80) (hk : 16002 < k) : spec_l3Beside.f k x = some (termsV x) := by
  unfold spec_l3Beside.f
  have := beside_l x.length k 0 x hn rfl (by omega) (by omega)
  exact this
theorem fillV_no3 {x : List Int} (h : No3 x) (a : Nat) {v : Int} (hv : v ≠ 3) : ∀ m, No3 (fillV x a v m)
  | 0 => h
  | m + 1 => (fillV_no3 h a hv m).set _ hv
theorem besideL_no3 : ∀ (k : Nat) (x : List Int) (i : Nat), No3 x → No3 (besideL pT qT k x i)
  | 0, x, i, h => h
  | k + 1, x, i, h => by
    rw [besideL]
    split
    · split
      · exact besideL_no3 k x (i + 1) h
      · refine besideL_no3 k _ _ ?_
        unfold subV
        split
        · rename_i v hv
          refine fillV_no3 h _ ?_ _
          simp only [qT] at hv
          grind
        · exact h
    · exact h
theorem besideL_len (p : Int → Bool) (q : Int → Int → Option Int) : ∀ (k : Nat) (x : List Int) (i : Nat), (besideL p q k x i).length = x.length
  | 0, x, i => rfl
  | k + 1, x, i => by
    rw [besideL]
    split
    · split
      · exact besideL_len p q k x (i + 1)
      · rw [besideL_len p q k, subV_length]
    · rfl
theorem termsV_no3 {x : List Int} (h : No3 x) : No3 (termsV x) := besideL_no3 _ _ _ h
theorem termsV_len (x : List Int) : (termsV x).length = x.length := besideL_len _ _ _ _ _
theorem arabic_get (x : List Int) : ∀ (m j : Nat), (upTo arabicF x m).getD j 0 = if j < m ∧ x.getD j 0 = 3 then 2 else x.getD j 0
  | 0, j => by rw [upTo, if_neg (by omega)]
  | m + 1, j => by
    have ih := arabic_get x m
    rw [upTo, arabicF]
    have hl : (upTo arabicF x m).length = x.length := lenF arabicF_len x m
    have hm := ih m
    rw [if_neg (by omega)] at hm
    by_cases h : x.getD m 0 = 3
    · rw [hm, if_pos h, getD_set, hl, ih j]
      by_cases e : m = j
      · subst e
        have : m < x.length := by
          rcases Nat.lt_or_ge m x.length with h' | h'
          · exact h'
          · rw [List.getD_eq_getElem?_getD, List.getElem?_eq_none h'] at h
            cases h
        rw [if_pos ⟨rfl, this⟩, if_pos ⟨by omega, h⟩]
      · rw [if_neg (fun h => e h.1)]
        by_cases e2 : j < m
        · grind
        · grind
    · rw [hm, if_neg h, ih j]
      by_cases e : m = j
      · subst e
        rw [if_neg (by omega), if_neg (fun h' => h h'.2)]
      · grind
theorem arabic_no3 (x : List Int) : No3 (upTo arabicF x x.length) := by
  intro j
  rw [arabic_get]
  by_cases h : j < x.length
  · grind
  · rw [if_neg (fun h' => h h'.1), List.getD_eq_getElem?_getD, List.getElem?_eq_none (by omega)]
    decide
theorem between_no3 {x : List Int} (h : No3 x) : ∀ m, No3 (upTo betweenF x m)
  | 0 => h
  | m + 1 => by
    have ih := between_no3 h m
    rw [upTo, betweenF]
    repeat' split
    · exact ih.set _ (by decide)
    · exact ih.set _ (by decide)
    · exact ih
    · exact ih
theorem arabic_l (bf : Int) : ∀ (d k i : Nat) (x : List Int), x.length ≤ 80 → x.length - i = d → i ≤ x.length → No3 (upR arabicF x i d) → d + 20002 < k → spec_l3Weak.l1 k bf x (i : Int) = some (upTo (plainF bf) (upTo othersF (termsV (upTo betweenF (upR arabicF x i d) (x.length - 2))) x.length) x.length)
  | 0, k, i, x, hn, hd, hi, h3, hk => by
    obtain ⟨k, rfl⟩ : ∃ m, k = m + 1 := ⟨k - 1, by omega⟩
    have l1 : (upTo betweenF x (x.length - 2)).length = x.length := lenF betweenF_len _ _
    have l2 : (termsV (upTo betweenF x (x.length - 2))).length = x.length := by rw [termsV_len, l1]
    rw [spec_l3Weak.l1, if_neg (by omega), between_p (by omega) (by omega), Option.bind_some, beside_p (by omega) (by omega), Option.bind_some]
    have h3' : No3 x := h3
    have := others_l bf x.length k 0 (termsV (upTo betweenF x (x.length - 2))) (by omega) (termsV_no3 (between_no3 h3' _)) (by omega) (by omega) (by omega)
    rw [l2, upR_0] at this
    exact this
  | d + 1, k, i, x, hn, hd, hi, h3, hk => by
    obtain ⟨k, rfl⟩ : ∃ m, k = m + 1 := ⟨k - 1, by omega⟩
    rw [upR] at h3 ⊢
    have ih := arabic_l bf d k (i + 1) (arabicF x i) (by rw [arabicF_len]; omega) (by rw [arabicF_len]; omega) (by rw [arabicF_len]; omega) h3 (by omega)
    rw [arabicF_len] at ih
    rw [← ih, spec_l3Weak.l1, if_pos (by omega), if_pos (by omega), wadd i (by omega), Int.toNat_natCast, rdG]
    unfold arabicF
    split <;> rfl
theorem numbers_l (bf : Int) (hb : bf = 1 ∨ bf = 2) : ∀ (d k i : Nat) (x : List Int), x.length ≤ 80 → x.length - i = d → i ≤ x.length → d + 22002 < k → spec_l3Weak.l0 k bf x (i : Int) = some (upTo (plainF bf) (upTo othersF (termsV (upTo betweenF (upTo arabicF (upR numbersF x i d) x.length) (x.length - 2))) x.length) x.length)
  | 0, k, i, x, hn, hd, hi, hk => by
    obtain ⟨k, rfl⟩ : ∃ m, k = m + 1 := ⟨k - 1, by omega⟩
    rw [spec_l3Weak.l0, if_neg (by omega)]
    have := arabic_l bf x.length k 0 x hn (by omega) (by omega) (by rw [upR_0]; exact arabic_no3 x) (by omega)
    rw [upR_0] at this
    exact this
  | d + 1, k, i, x, hn, hd, hi, hk => by
    obtain ⟨k, rfl⟩ : ∃ m, k = m + 1 := ⟨k - 1, by omega⟩
    have ih := numbers_l bf hb d k (i + 1) (numbersF x i) (by rw [numbersF_len]; omega) (by rw [numbersF_len]; omega) (by rw [numbersF_len]; omega) (by omega)
    rw [numbersF_len] at ih
    rw [upR, ← ih, spec_l3Weak.l0, if_pos (by omega), if_pos (by omega), wadd i (by omega), Int.toNat_natCast, rdG]
    unfold numbersF
    by_cases h1 : x.getD i 0 = 4
    · rw [if_pos h1, strong_p (by omega) (by omega) (by omega), Option.bind_some, strongS, h1, if_neg (show ¬ ((4 : Int) = 1 ∨ (4 : Int) = 2 ∨ (4 : Int) = 3) by decide), strong_last]
      generalize lastV strongV x i = v
      grind
    · rw [if_neg h1, if_neg (fun h => h1 h.1)]
theorem weak_p {bf : Int} {x : List Int} {k : Nat} (hb : bf = 1 ∨ bf = 2) (hn : x.length ≤ 80) (hk : 25000 < k) : spec_l3Weak.f k x bf = some (weakV bf x) := by
  unfold spec_l3Weak.f
  rw [Option.bind_some, if_pos (by simp; omega), List.nil_append, marks_p (by omega) (by omega), Option.bind_some]
  have l1 : (upTo (marksF bf) x x.length).length = x.length := lenF (marksF_len bf) _ _
  have := numbers_l bf hb x.length k 0 (upTo (marksF bf) x x.length) (by omega) (by omega) (by omega) (by omega)
  rw [l1, upR_0] at this
  exact this
theorem weakV_len (bf : Int) (x : List Int) : (weakV bf x).length = x.length := by
  unfold weakV
  rw [lenF (plainF_len bf), lenF othersF_len, termsV_len, lenF betweenF_len, lenF arabicF_len, lenF numbersF_len, lenF (marksF_len bf)]
theorem classes_l (l : List Int) (hn : l.length ≤ 1099511627776) : ∀ (d k i : Nat), l.length - i = d → i ≤ l.length → d < k →
    spec_l3Classes.l0 k l (i : Int) = some ((l.drop i).all clsOkV && decide (l.length ≤ 80))
  | 0, k, i, hd, hi, hk => by
    obtain ⟨k, rfl⟩ : ∃ m, k = m + 1 := ⟨k - 1, by omega⟩
    have e : i = l.length := by omega
    subst e
    rw [spec_l3Classes.l0, if_neg (by omega), List.drop_length]
    simp only [List.all_nil, Bool.true_and, Option.some.injEq, decide_eq_decide]
    omega
  | d + 1, k, i, hd, hi, hk => by
    obtain ⟨k, rfl⟩ : ∃ m, k = m + 1 := ⟨k - 1, by omega⟩
    have hlt : i < l.length := by omega
    rw [spec_l3Classes.l0, if_pos (by omega), if_pos (by omega), w64 (by omega) (by omega), rd_get hlt, l1In_w, Option.bind_some, List.drop_eq_getElem_cons hlt, List.all_cons]
    have := classes_l l hn d k (i + 1) (by omega) (by omega) (by omega)
    rw [show ((i : Int) + 1) = ((i + 1 : Nat) : Int) by omega, this]
    have e : (decide (1 ≤ l[i]) && decide (l[i] ≤ 22)) = clsOkV l[i] := rfl
    rw [e]
    cases clsOkV l[i] <;> simp
theorem classes_p {l : List Int} {k : Nat} (hn : l.length ≤ 1099511627776) (hk : l.length < k) : spec_l3Classes.f k l = some (classesOkV l) := by
  unfold spec_l3Classes.f
  have := classes_l l hn l.length k 0 (by omega) (by omega) hk
  rw [show ((0 : Nat) : Int) = 0 from rfl] at this
  rw [this, List.drop_zero, classesOkV, Bool.and_comm]
theorem sside_f (c : Int) : spec_l3Side.f c = some (sideV c) := by
  unfold spec_l3Side.f sideV
  by_cases h : c = 1
  · simp [h]
  · simp [h]
def levelWeakV (l : List Int) (bf : Int) : List Int := if classesOkV l = true ∧ sideV bf = true then weakV bf l else []
theorem levelWeakV_len (l : List Int) (bf : Int) : (levelWeakV l bf).length ≤ l.length := by
  unfold levelWeakV
  split
  · rw [weakV_len]; exact Nat.le_refl _
  · simp
theorem implLevelWeak_p (l : List Int) (bf : Int) : impl_LevelWeak.f l bf = some (levelWeakV l bf) := rfl
theorem specLevelWeak_p {l : List Int} {bf : Int} {k : Nat} (hn : l.length ≤ 1099511627776) (hk : l.length < k) (hk2 : 25000 < k) : spec_LevelWeak.f k l bf = some (levelWeakV l bf) := by
  unfold spec_LevelWeak.f levelWeakV
  rw [classes_p hn hk, Option.bind_some]
  by_cases h1 : classesOkV l = true
  · rw [if_pos h1, sside_f, Option.bind_some]
    by_cases h2 : sideV bf = true
    · have hl : l.length ≤ 80 := by
        simp [classesOkV] at h1; exact h1.1
      rw [if_pos h2, weak_p (by simpa [sideV] using h2) hl hk2, Option.bind_some, if_pos ⟨h1, h2⟩]
    · rw [if_neg h2, if_neg (fun h => h2 h.2)]
  · rw [if_neg h1, if_neg (fun h => h1 h.1)]
end Go.Proofs.Ytojehfdioeglgaa.Pure

namespace Go.Proofs.Ytojehfdioeglgaa.S
open Go.RowKit Go.Proofs.YtojehfdioeglgaaW.PrintWords Go.Proofs.YtojehfdioeglgaaW.PrintLast Go.Proofs.YtojehfdioeglgaaW.PrintMore
attribute [local go_sem] max2_int min2_int max_two min_two max_three min_three max_four min_four   -- for this text's walks alone
set_option linter.unusedVariables false
set_option linter.unusedSimpArgs false

theorem q3s {α : Type} (l : List α) (i : Nat) (a : α) : l.toArray.setIfInBounds i a = (l.set i a).toArray := List.setIfInBounds_toArray ..
theorem q3z {α : Type} (a : α) (l : List α) (b : α) : (a :: l).set 0 b = b :: l := List.set_cons_zero ..
theorem q3n {α : Type} (a : α) (l : List α) (i : Nat) (b : α) : (a :: l).set (i + 1) b = a :: l.set i b := List.set_cons_succ ..
/-! ### spec_l13Rune: function 105 -/
mutual
def spec_l13Rune.j0 : Nat → Int → Bool → List Int → Int → Option (Int × Int)
 | 0, _, _, _, _ => none
 | k + 1, x4, x5, x1000, x1001 => if x5 = true then ((spec_l1Rd_one.f k x1000 x1001 (([97, 98, 105, 109, 122, 65] : List Int))).bind fun bt361 => (some (bt361.1, bt361.2))) else (if x4 = 4 then (spec_l13Rune.j1 k x4 (x4 == 4) x1000 x1001) else (if x4 = 5 then (spec_l13Rune.j1 k x4 (x4 == 5) x1000 x1001) else (spec_l13Rune.j1 k x4 (x4 == 6) x1000 x1001)))
def spec_l13Rune.j1 : Nat → Int → Bool → List Int → Int → Option (Int × Int)
 | 0, _, _, _, _ => none
 | k + 1, x4, x13, x1000, x1001 => if x13 = true then ((spec_l1Rd_one.f k x1000 x1001 (([1488, 1489, 1514] : List Int))).bind fun bt366 => (some (bt366.1, bt366.2))) else (if x4 = 7 then ((spec_l1Rd_one.f k x1000 x1001 (([1569, 1610, 1600] : List Int))).bind fun bt371 => (some (bt371.1, bt371.2))) else (if x4 = 8 then ((spec_l1Rd_one.f k x1000 x1001 (([48, 55, 1632, 1641] : List Int))).bind fun bt376 => (some (bt376.1, bt376.2))) else (if x4 = 9 then (spec_l13Rune.j2 k x4 (x4 == 9) x1000 x1001) else (spec_l13Rune.j2 k x4 (x4 == 10) x1000 x1001))))
def spec_l13Rune.j2 : Nat → Int → Bool → List Int → Int → Option (Int × Int)
 | 0, _, _, _, _ => none
 | k + 1, x4, x30, x1000, x1001 => if x30 = true then (some (32, x1001)) else (if x4 = 11 then ((spec_l1Rd_one.f k x1000 x1001 (([43, 45, 35, 36, 44, 46, 47, 58, 40, 41, 91, 93, 60, 33, 34, 59, 160] : List Int))).bind fun bt381 => (some (bt381.1, bt381.2))) else (if x4 = 12 then ((spec_l1Rd_one.f k x1000 x1001 (([768, 879, 8203, 8205, 173, 9, 10, 13] : List Int))).bind fun bt386 => (some (bt386.1, bt386.2))) else (if x4 = 13 then ((spec_l1Rd_one.f k x1000 x1001 (([8234, 8235, 8236, 8237, 8238] : List Int))).bind fun bt391 => (some (bt391.1, bt391.2))) else (if x4 = 14 then ((spec_l1Rd_one.f k x1000 x1001 (([8294, 8295, 8296, 8297, 8297] : List Int))).bind fun bt396 => (some (bt396.1, bt396.2))) else ((spec_l1Rd_one.f k x1000 x1001 (([19968, 40959, 127462, 127487, 128512, 200, 40, 41] : List Int))).bind fun bt401 => (some (bt401.1, bt401.2)))))))
end
def spec_l13Rune.f (k : Nat) (s0_0 : List Int) (s0_1 : Int) : Option (Int × Int) := (spec_l1Rd_pick.f k s0_0 s0_1 16).bind fun bt356 => (if bt356.1 = 0 then (spec_l13Rune.j0 k bt356.1 (bt356.1 == 0) s0_0 bt356.2) else (if bt356.1 = 1 then (spec_l13Rune.j0 k bt356.1 (bt356.1 == 1) s0_0 bt356.2) else (if bt356.1 = 2 then (spec_l13Rune.j0 k bt356.1 (bt356.1 == 2) s0_0 bt356.2) else (spec_l13Rune.j0 k bt356.1 (bt356.1 == 3) s0_0 bt356.2))))
theorem spec_l13Rune.mono_l : ∀ k, (∀ y0 y1 y2 y3, LeO (spec_l13Rune.j0 k y0 y1 y2 y3) (spec_l13Rune.j0 (k + 1) y0 y1 y2 y3)) ∧ (∀ y0 y1 y2 y3, LeO (spec_l13Rune.j1 k y0 y1 y2 y3) (spec_l13Rune.j1 (k + 1) y0 y1 y2 y3)) ∧ (∀ y0 y1 y2 y3, LeO (spec_l13Rune.j2 k y0 y1 y2 y3) (spec_l13Rune.j2 (k + 1) y0 y1 y2 y3))
 | 0 => ⟨fun _ _ _ _ r h => by simp [spec_l13Rune.j0] at h, fun _ _ _ _ r h => by simp [spec_l13Rune.j1] at h, fun _ _ _ _ r h => by simp [spec_l13Rune.j2] at h⟩
 | k + 1 => by
  obtain ⟨ih0, ih1, ih2⟩ := spec_l13Rune.mono_l k; refine ⟨?_, ?_, ?_⟩
  ·
   intro y0 y1 y2 y3; unfold spec_l13Rune.j0
   repeat' first
   | (with_reducible exact ih0 _ _ _ _)
   | (with_reducible exact ih1 _ _ _ _)
   | (with_reducible exact ih2 _ _ _ _)
   | (with_reducible exact spec_l1Rd_one.mono _ _ _ _)
   | (with_reducible exact spec_l1Rd_pick.mono _ _ _ _)
   | (with_reducible exact LeO.refl _)
   | (with_reducible exact LeO.none _)
   | (with_reducible refine LeO.ite ?_ ?_)
   | (with_reducible refine LeO.bind ?_ (fun _ => ?_))
   | exact ih0 _ _ _ _
   | exact ih1 _ _ _ _
   | exact ih2 _ _ _ _
   | exact spec_l1Rd_one.mono _ _ _ _
   | exact spec_l1Rd_pick.mono _ _ _ _
   | exact LeO.none _
   | refine LeO.ite ?_ ?_
   | refine LeO.bind ?_ (fun _ => ?_)
  ·
   intro y0 y1 y2 y3; unfold spec_l13Rune.j1
   repeat' first
   | (with_reducible exact ih0 _ _ _ _)
   | (with_reducible exact ih1 _ _ _ _)
   | (with_reducible exact ih2 _ _ _ _)
   | (with_reducible exact spec_l1Rd_one.mono _ _ _ _)
   | (with_reducible exact spec_l1Rd_pick.mono _ _ _ _)
   | (with_reducible exact LeO.refl _)
   | (with_reducible exact LeO.none _)
   | (with_reducible refine LeO.ite ?_ ?_)
   | (with_reducible refine LeO.bind ?_ (fun _ => ?_))
   | exact ih0 _ _ _ _
   | exact ih1 _ _ _ _
   | exact ih2 _ _ _ _
   | exact spec_l1Rd_one.mono _ _ _ _
   | exact spec_l1Rd_pick.mono _ _ _ _
   | exact LeO.none _
   | refine LeO.ite ?_ ?_
   | refine LeO.bind ?_ (fun _ => ?_)
  ·
   intro y0 y1 y2 y3; unfold spec_l13Rune.j2
   repeat' first
   | (with_reducible exact ih0 _ _ _ _)
   | (with_reducible exact ih1 _ _ _ _)
   | (with_reducible exact ih2 _ _ _ _)
   | (with_reducible exact spec_l1Rd_one.mono _ _ _ _)
   | (with_reducible exact spec_l1Rd_pick.mono _ _ _ _)
   | (with_reducible exact LeO.refl _)
   | (with_reducible exact LeO.none _)
   | (with_reducible refine LeO.ite ?_ ?_)
   | (with_reducible refine LeO.bind ?_ (fun _ => ?_))
   | exact ih0 _ _ _ _
   | exact ih1 _ _ _ _
   | exact ih2 _ _ _ _
   | exact spec_l1Rd_one.mono _ _ _ _
   | exact spec_l1Rd_pick.mono _ _ _ _
   | exact LeO.none _
   | refine LeO.ite ?_ ?_
   | refine LeO.bind ?_ (fun _ => ?_)
theorem spec_l13Rune.mono : ∀ a0 a1 k, LeO (spec_l13Rune.f k a0 a1) (spec_l13Rune.f (k + 1) a0 a1) := by
 intro a0 a1 k; obtain ⟨ih0, ih1, ih2⟩ := spec_l13Rune.mono_l k; unfold spec_l13Rune.f
 repeat' first
   | (with_reducible exact ih0 _ _ _ _)
   | (with_reducible exact ih1 _ _ _ _)
   | (with_reducible exact ih2 _ _ _ _)
   | (with_reducible exact spec_l1Rd_one.mono _ _ _ _)
   | (with_reducible exact spec_l1Rd_pick.mono _ _ _ _)
   | (with_reducible exact LeO.refl _)
   | (with_reducible exact LeO.none _)
   | (with_reducible refine LeO.ite ?_ ?_)
   | (with_reducible refine LeO.bind ?_ (fun _ => ?_))
   | exact ih0 _ _ _ _
   | exact ih1 _ _ _ _
   | exact ih2 _ _ _ _
   | exact spec_l1Rd_one.mono _ _ _ _
   | exact spec_l1Rd_pick.mono _ _ _ _
   | exact LeO.none _
   | refine LeO.ite ?_ ?_
   | refine LeO.bind ?_ (fun _ => ?_)
set_option maxHeartbeats 8000000 in
set_option maxRecDepth 100000 in
theorem spec_l13Rune.calls (k : Nat) (g : Nat) (s0_0 : List Int) (s0_1 : Int) (r1 : Int) (r2 : Int) (w0 w : World) (hI : IsS71 w0 w g s0_0 s0_1) (hB : Below w0.heap.size w0 w) (h : spec_l13Rune.f k s0_0 s0_1 = some (r1, r2)) :
  Calls Try.prog 105 #[.pointer (some ⟨g, 0, none⟩)] w fun e w' => e = .returned (.int .i64 r1) ∧ IsS71 w0 w' g s0_0 r2 ∧ Below w0.heap.size w0 w' ∧ KeepBut w w' g none := by
 have HI0 := Aside0.mk hI; have HK := Aside0.mk (KeepBut.refl w g none); have HL := Aside0.mk hB.size; clear hI; have HW0 := Aside0.mk hB.size; have HB := Aside0.mk hB; clear hB; have H : ((spec_l1Rd_pick.f k s0_0 s0_1 16).bind fun bt356 => (if bt356.1 = 0 then (spec_l13Rune.j0 k bt356.1 (bt356.1 == 0) s0_0 bt356.2) else (if bt356.1 = 1 then (spec_l13Rune.j0 k bt356.1 (bt356.1 == 1) s0_0 bt356.2) else (if bt356.1 = 2 then (spec_l13Rune.j0 k bt356.1 (bt356.1 == 2) s0_0 bt356.2) else (spec_l13Rune.j0 k bt356.1 (bt356.1 == 3) s0_0 bt356.2))))) = some (r1, r2) := h; clear h; replace H := Option.bind_eq_some_iff.mp H; obtain ⟨⟨t356, t357⟩, A20, H⟩ := H; replace H : (if t356 = 0 then (spec_l13Rune.j0 k t356 (t356 == 0) s0_0 t357) else (if t356 = 1 then (spec_l13Rune.j0 k t356 (t356 == 1) s0_0 t357) else (if t356 = 2 then (spec_l13Rune.j0 k t356 (t356 == 2) s0_0 t357) else (spec_l13Rune.j0 k t356 (t356 == 3) s0_0 t357)))) = some (r1, r2) := H; have A2 := Aside0.mk A20; clear A20; have HC3 := Aside0.mk H; clear H; go_enter Try.func105, Try.ntmps105; go_upto_if 5 with (first | ((with_reducible refine gate_callee (f := 44) rfl ?_); refine goesL_ (some 4) rfl rfl Try.func44 (by kernel_rfl) rfl #[.pointer (some ⟨g, 0, none⟩), .int .i64 16] rfl (by (try simp only [List.map_toArray, List.map_cons, List.map_nil]); first | done | rfl) ?_; (with_reducible refine (spec_l1Rd_pick.calls k g s0_0 s0_1 16 t356 t357 w0 _ ?side1 ?side2 A2.out).mono ?_); (case side1 => repeat (first | (with_reducible first | exact HI0.out | apply IsS71.alloc | apply IsS71.drewN | apply IsS71.drew | apply IsS71.set_1) | exact HI0.out)); (case side2 => repeat (first | (with_reducible first | exact HB.out | apply below_alloc | apply pw_below_drewN | apply below_drew1 | refine below_set ?_ (IsS71.ge HI0.out)) | exact HB.out)); rintro e w4 ⟨rfl, hi, hb, hk⟩; refine ⟨_, rfl, ?_⟩; have n0_ := Aside0.mk (KeepBut.trans (by repeat (first | (with_reducible first | exact HK.out | apply KeepBut.set_ | apply keep_drewN | apply keep_drew | apply keep_alloc) | exact HK.out)) hk (.inl rfl)); have n1_ := Aside0.mk (hb); have n2_ := Aside0.mk (hi); clear HK; clear HB; clear HI0; have HK := n0_; have HB := n1_; have HI0 := n2_; clear n0_ n1_ n2_; (try clear hb); (try clear hb2); (try clear hk); (try clear hi)))
 (try simp only [Act.put, List.setIfInBounds_toArray, List.set_cons_zero, List.set_cons_succ]); go_cut [5] (fun v5 wc => ∃ (kq : Nat) (x5_2 : Bool), v5 = .bool x5_2 ∧ Aside0 (spec_l13Rune.j0 kq t356 x5_2 s0_0 t357 = some (r1, r2)) ∧ Aside0 (kq ≤ k) ∧ Aside0 (IsS71 w0 wc g s0_0 t357) ∧ Aside0 (KeepBut w wc g none) ∧ Aside0 (Below w0.heap.size w0 wc))
 case first =>
  have H := HC3.out; clear HC3; by_cases c5 : t356 = 0
  ·
   rw [if_pos c5] at H; have c5b0 : (t356 == 0) = true := beq_iff_eq.mpr c5; have c5b1 : (t356 != 0) = false := bne_eq_false_iff_eq.mpr c5; clear c5; (first | rw [c5b0] | (simp only [i64_w, i32_w]; rw [c5b0]) | skip); have H' := Aside0.mk H; clear H; go_wp2; go_meet
   case rel => exact ⟨_, ((t356 == 0)), (by first | rfl | (simp; done) | (simp [*]; done)), H', ⟨by first | omega | exact Nat.le_refl _⟩, ⟨by repeat (first | (with_reducible first | exact HI0.out | apply IsS71.alloc | apply IsS71.drewN | apply IsS71.drew | apply IsS71.set_1) | exact HI0.out)⟩, ⟨by repeat (first | (with_reducible first | exact HK.out | apply KeepBut.set_ | apply keep_drewN | apply keep_drew | apply keep_alloc) | exact HK.out)⟩, ⟨by repeat (first | (with_reducible first | exact HB.out | apply below_alloc | apply pw_below_drewN | apply below_drew1 | refine below_set ?_ (IsS71.ge HI0.out)) | exact HB.out)⟩⟩
  ·
   rw [if_neg c5] at H; have c5b0 : (t356 == 0) = false := beq_eq_false_iff_ne.mpr c5; have c5b1 : (t356 != 0) = true := bne_iff_ne.mpr c5; (first | rw [c5b0] | (simp only [i64_w, i32_w]; rw [c5b0]) | skip); by_cases c6 : t356 = 1
   ·
    rw [if_pos c6] at H; have c6b0 : (t356 == 1) = true := beq_iff_eq.mpr c6; have c6b1 : (t356 != 1) = false := bne_eq_false_iff_eq.mpr c6; clear c6; have H' := Aside0.mk H; clear H; go_wp2; go_meet
    case rel => exact ⟨_, ((t356 == 1)), (by first | rfl | (simp; done) | (simp [*]; done)), H', ⟨by first | omega | exact Nat.le_refl _⟩, ⟨by repeat (first | (with_reducible first | exact HI0.out | apply IsS71.alloc | apply IsS71.drewN | apply IsS71.drew | apply IsS71.set_1) | exact HI0.out)⟩, ⟨by repeat (first | (with_reducible first | exact HK.out | apply KeepBut.set_ | apply keep_drewN | apply keep_drew | apply keep_alloc) | exact HK.out)⟩, ⟨by repeat (first | (with_reducible first | exact HB.out | apply below_alloc | apply pw_below_drewN | apply below_drew1 | refine below_set ?_ (IsS71.ge HI0.out)) | exact HB.out)⟩⟩
   ·
    rw [if_neg c6] at H; have c6b0 : (t356 == 1) = false := beq_eq_false_iff_ne.mpr c6; have c6b1 : (t356 != 1) = true := bne_iff_ne.mpr c6; by_cases c7 : t356 = 2
    ·
     rw [if_pos c7] at H; have c7b0 : (t356 == 2) = true := beq_iff_eq.mpr c7; have c7b1 : (t356 != 2) = false := bne_eq_false_iff_eq.mpr c7; clear c7; have H' := Aside0.mk H; clear H; go_wp2; go_meet
     case rel => exact ⟨_, ((t356 == 2)), (by first | rfl | (simp; done) | (simp [*]; done)), H', ⟨by first | omega | exact Nat.le_refl _⟩, ⟨by repeat (first | (with_reducible first | exact HI0.out | apply IsS71.alloc | apply IsS71.drewN | apply IsS71.drew | apply IsS71.set_1) | exact HI0.out)⟩, ⟨by repeat (first | (with_reducible first | exact HK.out | apply KeepBut.set_ | apply keep_drewN | apply keep_drew | apply keep_alloc) | exact HK.out)⟩, ⟨by repeat (first | (with_reducible first | exact HB.out | apply below_alloc | apply pw_below_drewN | apply below_drew1 | refine below_set ?_ (IsS71.ge HI0.out)) | exact HB.out)⟩⟩
    ·
     rw [if_neg c7] at H; have c7b0 : (t356 == 2) = false := beq_eq_false_iff_ne.mpr c7; have c7b1 : (t356 != 2) = true := bne_iff_ne.mpr c7; have H' := Aside0.mk H; clear H; go_wp2; go_meet
     case rel => exact ⟨_, ((t356 == 3)), (by first | rfl | (simp; done) | (simp [*]; done)), H', ⟨by first | omega | exact Nat.le_refl _⟩, ⟨by repeat (first | (with_reducible first | exact HI0.out | apply IsS71.alloc | apply IsS71.drewN | apply IsS71.drew | apply IsS71.set_1) | exact HI0.out)⟩, ⟨by repeat (first | (with_reducible first | exact HK.out | apply KeepBut.set_ | apply keep_drewN | apply keep_drew | apply keep_alloc) | exact HK.out)⟩, ⟨by repeat (first | (with_reducible first | exact HB.out | apply below_alloc | apply pw_below_drewN | apply below_drew1 | refine below_set ?_ (IsS71.ge HI0.out)) | exact HB.out)⟩⟩
 case rest =>
  clear HC3; (try clear c1); (try clear p2); (try clear c4); (try clear c5); (try clear c5b0); (try clear c5b1); (try clear c6); (try clear c6b0); (try clear c6b1); (try clear c7); (try clear c7b0); (try clear c7b1); obtain ⟨kq, x5_2, rfl, HA, HJ2, HI0, HK, HB⟩ := hcut
  cases kq with
  | zero => exact absurd HA.out (by simp [spec_l13Rune.j0])
  | succ kj2 =>
   have H := HA.out; clear HA; simp only [spec_l13Rune.j0] at H; by_cases c8 : x5_2 = true
   ·
    subst c8; have H1 : ((spec_l1Rd_one.f kj2 s0_0 t357 (([97, 98, 105, 109, 122, 65] : List Int))).bind fun bt361 => (some (bt361.1, bt361.2))) = some (r1, r2) := by rw [if_pos rfl] at H; exact H
    clear H; have H := H1; clear H1; obtain ⟨y358, hy358⟩ : ∃ y_ : List Int, y_ = (([97, 98, 105, 109, 122, 65] : List Int)) := ⟨_, rfl⟩; replace H : ((spec_l1Rd_one.f kj2 s0_0 t357 y358).bind fun bt361 => (some (bt361.1, bt361.2))) = some (r1, r2) := by first | (rw [hy358]; with_reducible exact H) | (have H2_ := (Option.bind_some _ _).symm.trans H; rw [hy358]; with_reducible exact H2_) | (have H2_ := (Option.bind_some _ _).symm.trans H; with_reducible exact H2_) | with_reducible exact H | (rw [hy358]; exact H) | exact H
    have Ny358 := Aside0.mk hy358; clear hy358; replace H := Option.bind_eq_some_iff.mp H; obtain ⟨⟨t361, t362⟩, A90, H⟩ := H; replace H : (some (t361, t362)) = some (r1, r2) := H; have A9 := Aside0.mk A90; clear A90; simp only [Option.some.injEq, Prod.mk.injEq] at H; obtain ⟨rfl, rfl⟩ := H; go_wp2_with (first | ((with_reducible refine gate_dst (N := 11) rfl ?_); refine Kd.R_lit (Kd.int .i64) _ 3 ?hg (N := 11) ?hd (xs := ([97, 98, 105, 109, 122, 65] : List Int)) (inner := [.int .i64 97, .int .i64 98, .int .i64 105, .int .i64 109, .int .i64 122, .int .i64 65]) (ok := fun _ => True) (okp := fun _ => True) ?hr ?hp (fun _ hk => hk) trivial (Below.refl _ _) (Nat.le_refl _) (by simp) ?_; (case hd => rfl); (case hg => rfl); (case hr => first | (go_simp; done) | (go_simp; rfl)); (case hp => exact (Reps.one (show Kd.M (Kd.int .i64) _ _ _ 97 [.int .i64 97] from rfl) (Reps.one (show Kd.M (Kd.int .i64) _ _ _ 98 [.int .i64 98] from rfl) (Reps.one (show Kd.M (Kd.int .i64) _ _ _ 105 [.int .i64 105] from rfl) (Reps.one (show Kd.M (Kd.int .i64) _ _ _ 109 [.int .i64 109] from rfl) (Reps.one (show Kd.M (Kd.int .i64) _ _ _ 122 [.int .i64 122] from rfl) (Reps.one (show Kd.M (Kd.int .i64) _ _ _ 65 [.int .i64 65] from rfl) (Reps.none _ _)))))))); intro v359 w10 ho11 hb hg_ hnew_; clear hg_ hnew_; (first | rw [← Ny358.out] at ho11 | (simp only [Int.reduceToNat] at ho11; rw [← Ny358.out] at ho11)); have n0_ := Aside0.mk (Kd.R_lower ho11 (keep_size (w := w) (g := g) (row := none) (by repeat (first | (with_reducible first | exact HK.out | apply KeepBut.set_ | apply keep_drewN | apply keep_drew | apply keep_alloc) | exact HK.out)))); have n1_ := Aside0.mk (IsS71.below (by repeat (first | (with_reducible first | exact HI0.out | apply IsS71.alloc | apply IsS71.drewN | apply IsS71.drew | apply IsS71.set_1) | exact HI0.out)) hb); have n2_ := Aside0.mk (KeepBut.trans (by repeat (first | (with_reducible first | exact HK.out | apply KeepBut.set_ | apply keep_drewN | apply keep_drew | apply keep_alloc) | exact HK.out)) (KeepBut.of_below hb g none) (.inl rfl)); have n3_ := Aside0.mk (below_step (by repeat (first | (with_reducible first | exact HB.out | apply below_alloc | apply pw_below_drewN | apply below_drew1 | refine below_set ?_ (IsS71.ge HI0.out)) | exact HB.out)) hb); clear HI0; clear HK; clear HB; have HO360 := n0_; have HI0 := n1_; have HK := n2_; have HB := n3_; clear n0_ n1_ n2_ n3_; clear hb ho11; obtain ⟨Ao12, co12, eo12⟩ := Kd.R_slice HO360.out; subst eo12) | ((with_reducible refine gate_callee (f := 70) rfl ?_); refine goesL_ (some 12) rfl rfl Try.func70 (by kernel_rfl) rfl #[.pointer (some ⟨g, 0, none⟩), .slice Ao12 y358.length co12] rfl (by (try simp only [List.map_toArray, List.map_cons, List.map_nil]); first | done | rfl) ?_; (with_reducible refine (spec_l1Rd_one.calls kj2 g s0_0 t357 _ _ y358 t361 t362 w0 _ ?side1 ?side2 ?side3 ?side4 ?side5 A9.out).mono ?_); (case side1 => repeat (first | (with_reducible first | exact HI0.out | apply IsS71.alloc | apply IsS71.drewN | apply IsS71.drew | apply IsS71.set_1) | exact HI0.out)); (case side2 => repeat (first | (with_reducible first | exact HB.out | apply below_alloc | apply pw_below_drewN | apply below_drew1 | refine below_set ?_ (IsS71.ge HI0.out)) | exact HB.out)); (case side3 => repeat (first | exact (Kd.R_reads' HO360.out).2.2 | (with_reducible refine Kd.C_alloc ?_ _) | (with_reducible refine Kd.C_drewN ?_ _) | (with_reducible refine Kd.C_drew ?_))); (case side4 => exact (Kd.R_reads' HO360.out).2.1); (case side5 => exact far_slice (IsS71.own_ne HI0.out HO360.out (by decide))); rintro e w13 ⟨rfl, hi, hb, hk⟩; refine ⟨_, rfl, ?_⟩; have n0_ := Aside0.mk (Kd.R_mono (Kd.R_keep (IsS71.apart (show IsS71 w0 _ g s0_0 t357 from by repeat (first | (with_reducible first | exact HI0.out | apply IsS71.alloc | apply IsS71.drewN | apply IsS71.drew | apply IsS71.set_1) | exact HI0.out)) (by (with_reducible repeat (first | apply Kd.R_alloc | apply Kd.R_drewN | apply Kd.R_drew)); exact HO360.out) (by decide)) hk (fun _ h => h.2)) (fun _ h => h.1)); have n1_ := Aside0.mk (KeepBut.trans (by repeat (first | (with_reducible first | exact HK.out | apply KeepBut.set_ | apply keep_drewN | apply keep_drew | apply keep_alloc) | exact HK.out)) hk (.inl rfl)); have n2_ := Aside0.mk (hb); have n3_ := Aside0.mk (hi); clear HO360; clear HK; clear HB; clear HI0; have HO360 := n0_; have HK := n1_; have HB := n2_; have HI0 := n3_; clear n0_ n1_ n2_ n3_; (try clear hb); (try clear hb2); (try clear hk); (try clear hi)))
    go_ret; exact ⟨by first | rfl | (simp [errW_none, errW_some] <;> rfl) | (simp [*, errW_none, errW_some] <;> rfl), by repeat (first | (with_reducible first | exact HI0.out | apply IsS71.alloc | apply IsS71.drewN | apply IsS71.drew | apply IsS71.set_1) | exact HI0.out), by repeat (first | (with_reducible first | exact HB.out | apply below_alloc | apply pw_below_drewN | apply below_drew1 | refine below_set ?_ (IsS71.ge HI0.out)) | exact HB.out), by repeat (first | (with_reducible first | exact HK.out | apply KeepBut.set_ | apply keep_drewN | apply keep_drew | apply keep_alloc) | exact HK.out)⟩
   ·
    replace c8 := Bool.eq_false_iff.mpr c8; subst c8; have H1 : (if t356 = 4 then (spec_l13Rune.j1 kj2 t356 (t356 == 4) s0_0 t357) else (if t356 = 5 then (spec_l13Rune.j1 kj2 t356 (t356 == 5) s0_0 t357) else (spec_l13Rune.j1 kj2 t356 (t356 == 6) s0_0 t357))) = some (r1, r2) := by rw [if_neg (show ¬ (false = true) by decide)] at H; exact H
    clear H; have H := H1; clear H1; have HC14 := Aside0.mk H; clear H; go_upto_if 13 with (fail)
    go_cut [13] (fun v13 wc => ∃ (kq : Nat) (x13_13 : Bool), v13 = .bool x13_13 ∧ Aside0 (spec_l13Rune.j1 kq t356 x13_13 s0_0 t357 = some (r1, r2)) ∧ Aside0 (kq ≤ kj2) ∧ Aside0 (IsS71 w0 wc g s0_0 t357) ∧ Aside0 (KeepBut w wc g none) ∧ Aside0 (Below w0.heap.size w0 wc))
    case first =>
     have H := HC14.out; clear HC14; by_cases c15 : t356 = 4
     ·
      rw [if_pos c15] at H; have c15b0 : (t356 == 4) = true := beq_iff_eq.mpr c15; have c15b1 : (t356 != 4) = false := bne_eq_false_iff_eq.mpr c15; clear c15; (first | rw [c15b0] | (simp only [i64_w, i32_w]; rw [c15b0]) | skip); have H' := Aside0.mk H; clear H; go_wp2; go_meet
      case rel => exact ⟨_, ((t356 == 4)), (by first | rfl | (simp; done) | (simp [*]; done)), H', ⟨by have := HJ2.out; first | omega | exact Nat.le_refl _⟩, ⟨by repeat (first | (with_reducible first | exact HI0.out | apply IsS71.alloc | apply IsS71.drewN | apply IsS71.drew | apply IsS71.set_1) | exact HI0.out)⟩, ⟨by repeat (first | (with_reducible first | exact HK.out | apply KeepBut.set_ | apply keep_drewN | apply keep_drew | apply keep_alloc) | exact HK.out)⟩, ⟨by repeat (first | (with_reducible first | exact HB.out | apply below_alloc | apply pw_below_drewN | apply below_drew1 | refine below_set ?_ (IsS71.ge HI0.out)) | exact HB.out)⟩⟩
     ·
      rw [if_neg c15] at H; have c15b0 : (t356 == 4) = false := beq_eq_false_iff_ne.mpr c15; have c15b1 : (t356 != 4) = true := bne_iff_ne.mpr c15; (first | rw [c15b0] | (simp only [i64_w, i32_w]; rw [c15b0]) | skip); by_cases c16 : t356 = 5
      ·
       rw [if_pos c16] at H; have c16b0 : (t356 == 5) = true := beq_iff_eq.mpr c16; have c16b1 : (t356 != 5) = false := bne_eq_false_iff_eq.mpr c16; clear c16; have H' := Aside0.mk H; clear H; go_wp2; go_meet
       case rel => exact ⟨_, ((t356 == 5)), (by first | rfl | (simp; done) | (simp [*]; done)), H', ⟨by have := HJ2.out; first | omega | exact Nat.le_refl _⟩, ⟨by repeat (first | (with_reducible first | exact HI0.out | apply IsS71.alloc | apply IsS71.drewN | apply IsS71.drew | apply IsS71.set_1) | exact HI0.out)⟩, ⟨by repeat (first | (with_reducible first | exact HK.out | apply KeepBut.set_ | apply keep_drewN | apply keep_drew | apply keep_alloc) | exact HK.out)⟩, ⟨by repeat (first | (with_reducible first | exact HB.out | apply below_alloc | apply pw_below_drewN | apply below_drew1 | refine below_set ?_ (IsS71.ge HI0.out)) | exact HB.out)⟩⟩
      ·
       rw [if_neg c16] at H; have c16b0 : (t356 == 5) = false := beq_eq_false_iff_ne.mpr c16; have c16b1 : (t356 != 5) = true := bne_iff_ne.mpr c16; have H' := Aside0.mk H; clear H; go_wp2; go_meet
       case rel => exact ⟨_, ((t356 == 6)), (by first | rfl | (simp; done) | (simp [*]; done)), H', ⟨by have := HJ2.out; first | omega | exact Nat.le_refl _⟩, ⟨by repeat (first | (with_reducible first | exact HI0.out | apply IsS71.alloc | apply IsS71.drewN | apply IsS71.drew | apply IsS71.set_1) | exact HI0.out)⟩, ⟨by repeat (first | (with_reducible first | exact HK.out | apply KeepBut.set_ | apply keep_drewN | apply keep_drew | apply keep_alloc) | exact HK.out)⟩, ⟨by repeat (first | (with_reducible first | exact HB.out | apply below_alloc | apply pw_below_drewN | apply below_drew1 | refine below_set ?_ (IsS71.ge HI0.out)) | exact HB.out)⟩⟩
    case rest =>
     clear HC14; (try clear c1); (try clear p2); (try clear c4); (try clear c5); (try clear c5b0); (try clear c5b1); (try clear c6); (try clear c6b0); (try clear c6b1); (try clear c7); (try clear c7b0); (try clear c7b1); (try clear c8); (try clear c10); (try clear c15); (try clear c15b0); (try clear c15b1); (try clear c16); (try clear c16b0); (try clear c16b1); (try clear p2); obtain ⟨kq, x13_13, rfl, HA, HJ13, HI0, HK, HB⟩ := hcut
     cases kq with
     | zero => exact absurd HA.out (by simp [spec_l13Rune.j1])
     | succ kj13 =>
      have H := HA.out; clear HA; simp only [spec_l13Rune.j1] at H; by_cases c17 : x13_13 = true
      ·
       subst c17; have H1 : ((spec_l1Rd_one.f kj13 s0_0 t357 (([1488, 1489, 1514] : List Int))).bind fun bt366 => (some (bt366.1, bt366.2))) = some (r1, r2) := by rw [if_pos rfl] at H; exact H
       clear H; have H := H1; clear H1; obtain ⟨y363, hy363⟩ : ∃ y_ : List Int, y_ = (([1488, 1489, 1514] : List Int)) := ⟨_, rfl⟩; replace H : ((spec_l1Rd_one.f kj13 s0_0 t357 y363).bind fun bt366 => (some (bt366.1, bt366.2))) = some (r1, r2) := by first | (rw [hy363]; with_reducible exact H) | (have H2_ := (Option.bind_some _ _).symm.trans H; rw [hy363]; with_reducible exact H2_) | (have H2_ := (Option.bind_some _ _).symm.trans H; with_reducible exact H2_) | with_reducible exact H | (rw [hy363]; exact H) | exact H
       have Ny363 := Aside0.mk hy363; clear hy363; replace H := Option.bind_eq_some_iff.mp H; obtain ⟨⟨t366, t367⟩, A180, H⟩ := H; replace H : (some (t366, t367)) = some (r1, r2) := H; have A18 := Aside0.mk A180; clear A180; simp only [Option.some.injEq, Prod.mk.injEq] at H; obtain ⟨rfl, rfl⟩ := H; go_wp2_with (first | ((with_reducible refine gate_dst (N := 18) rfl ?_); refine Kd.R_lit (Kd.int .i64) _ 3 ?hg (N := 18) ?hd (xs := ([1488, 1489, 1514] : List Int)) (inner := [.int .i64 1488, .int .i64 1489, .int .i64 1514]) (ok := fun _ => True) (okp := fun _ => True) ?hr ?hp (fun _ hk => hk) trivial (Below.refl _ _) (Nat.le_refl _) (by simp) ?_; (case hd => rfl); (case hg => rfl); (case hr => first | (go_simp; done) | (go_simp; rfl)); (case hp => exact (Reps.one (show Kd.M (Kd.int .i64) _ _ _ 1488 [.int .i64 1488] from rfl) (Reps.one (show Kd.M (Kd.int .i64) _ _ _ 1489 [.int .i64 1489] from rfl) (Reps.one (show Kd.M (Kd.int .i64) _ _ _ 1514 [.int .i64 1514] from rfl) (Reps.none _ _))))); intro v364 w19 ho20 hb hg_ hnew_; clear hg_ hnew_; (first | rw [← Ny363.out] at ho20 | (simp only [Int.reduceToNat] at ho20; rw [← Ny363.out] at ho20)); have n0_ := Aside0.mk (Kd.R_lower ho20 (keep_size (w := w) (g := g) (row := none) (by repeat (first | (with_reducible first | exact HK.out | apply KeepBut.set_ | apply keep_drewN | apply keep_drew | apply keep_alloc) | exact HK.out)))); have n1_ := Aside0.mk (IsS71.below (by repeat (first | (with_reducible first | exact HI0.out | apply IsS71.alloc | apply IsS71.drewN | apply IsS71.drew | apply IsS71.set_1) | exact HI0.out)) hb); have n2_ := Aside0.mk (KeepBut.trans (by repeat (first | (with_reducible first | exact HK.out | apply KeepBut.set_ | apply keep_drewN | apply keep_drew | apply keep_alloc) | exact HK.out)) (KeepBut.of_below hb g none) (.inl rfl)); have n3_ := Aside0.mk (below_step (by repeat (first | (with_reducible first | exact HB.out | apply below_alloc | apply pw_below_drewN | apply below_drew1 | refine below_set ?_ (IsS71.ge HI0.out)) | exact HB.out)) hb); clear HI0; clear HK; clear HB; have HO365 := n0_; have HI0 := n1_; have HK := n2_; have HB := n3_; clear n0_ n1_ n2_ n3_; clear hb ho20; obtain ⟨Ao21, co21, eo21⟩ := Kd.R_slice HO365.out; subst eo21) | ((with_reducible refine gate_callee (f := 70) rfl ?_); refine goesL_ (some 19) rfl rfl Try.func70 (by kernel_rfl) rfl #[.pointer (some ⟨g, 0, none⟩), .slice Ao21 y363.length co21] rfl (by (try simp only [List.map_toArray, List.map_cons, List.map_nil]); first | done | rfl) ?_; (with_reducible refine (spec_l1Rd_one.calls kj13 g s0_0 t357 _ _ y363 t366 t367 w0 _ ?side1 ?side2 ?side3 ?side4 ?side5 A18.out).mono ?_); (case side1 => repeat (first | (with_reducible first | exact HI0.out | apply IsS71.alloc | apply IsS71.drewN | apply IsS71.drew | apply IsS71.set_1) | exact HI0.out)); (case side2 => repeat (first | (with_reducible first | exact HB.out | apply below_alloc | apply pw_below_drewN | apply below_drew1 | refine below_set ?_ (IsS71.ge HI0.out)) | exact HB.out)); (case side3 => repeat (first | exact (Kd.R_reads' HO365.out).2.2 | (with_reducible refine Kd.C_alloc ?_ _) | (with_reducible refine Kd.C_drewN ?_ _) | (with_reducible refine Kd.C_drew ?_))); (case side4 => exact (Kd.R_reads' HO365.out).2.1); (case side5 => exact far_slice (IsS71.own_ne HI0.out HO365.out (by decide))); rintro e w22 ⟨rfl, hi, hb, hk⟩; refine ⟨_, rfl, ?_⟩; have n0_ := Aside0.mk (Kd.R_mono (Kd.R_keep (IsS71.apart (show IsS71 w0 _ g s0_0 t357 from by repeat (first | (with_reducible first | exact HI0.out | apply IsS71.alloc | apply IsS71.drewN | apply IsS71.drew | apply IsS71.set_1) | exact HI0.out)) (by (with_reducible repeat (first | apply Kd.R_alloc | apply Kd.R_drewN | apply Kd.R_drew)); exact HO365.out) (by decide)) hk (fun _ h => h.2)) (fun _ h => h.1)); have n1_ := Aside0.mk (KeepBut.trans (by repeat (first | (with_reducible first | exact HK.out | apply KeepBut.set_ | apply keep_drewN | apply keep_drew | apply keep_alloc) | exact HK.out)) hk (.inl rfl)); have n2_ := Aside0.mk (hb); have n3_ := Aside0.mk (hi); clear HO365; clear HK; clear HB; clear HI0; have HO365 := n0_; have HK := n1_; have HB := n2_; have HI0 := n3_; clear n0_ n1_ n2_ n3_; (try clear hb); (try clear hb2); (try clear hk); (try clear hi)))
       go_ret; exact ⟨by first | rfl | (simp [errW_none, errW_some] <;> rfl) | (simp [*, errW_none, errW_some] <;> rfl), by repeat (first | (with_reducible first | exact HI0.out | apply IsS71.alloc | apply IsS71.drewN | apply IsS71.drew | apply IsS71.set_1) | exact HI0.out), by repeat (first | (with_reducible first | exact HB.out | apply below_alloc | apply pw_below_drewN | apply below_drew1 | refine below_set ?_ (IsS71.ge HI0.out)) | exact HB.out), by repeat (first | (with_reducible first | exact HK.out | apply KeepBut.set_ | apply keep_drewN | apply keep_drew | apply keep_alloc) | exact HK.out)⟩
      ·
       replace c17 := Bool.eq_false_iff.mpr c17; subst c17; have H1 : (if t356 = 7 then ((spec_l1Rd_one.f kj13 s0_0 t357 (([1569, 1610, 1600] : List Int))).bind fun bt371 => (some (bt371.1, bt371.2))) else (if t356 = 8 then ((spec_l1Rd_one.f kj13 s0_0 t357 (([48, 55, 1632, 1641] : List Int))).bind fun bt376 => (some (bt376.1, bt376.2))) else (if t356 = 9 then (spec_l13Rune.j2 kj13 t356 (t356 == 9) s0_0 t357) else (spec_l13Rune.j2 kj13 t356 (t356 == 10) s0_0 t357)))) = some (r1, r2) := by rw [if_neg (show ¬ (false = true) by decide)] at H; exact H
       clear H; have H := H1; clear H1; by_cases c23 : t356 = 7
       ·
        rw [if_pos c23] at H; have c23b0 : (t356 == 7) = true := beq_iff_eq.mpr c23; have c23b1 : (t356 != 7) = false := bne_eq_false_iff_eq.mpr c23; clear c23; obtain ⟨y368, hy368⟩ : ∃ y_ : List Int, y_ = (([1569, 1610, 1600] : List Int)) := ⟨_, rfl⟩; replace H : ((spec_l1Rd_one.f kj13 s0_0 t357 y368).bind fun bt371 => (some (bt371.1, bt371.2))) = some (r1, r2) := by first | (rw [hy368]; with_reducible exact H) | (have H2_ := (Option.bind_some _ _).symm.trans H; rw [hy368]; with_reducible exact H2_) | (have H2_ := (Option.bind_some _ _).symm.trans H; with_reducible exact H2_) | with_reducible exact H | (rw [hy368]; exact H) | exact H
        have Ny368 := Aside0.mk hy368; clear hy368; replace H := Option.bind_eq_some_iff.mp H; obtain ⟨⟨t371, t372⟩, A240, H⟩ := H; replace H : (some (t371, t372)) = some (r1, r2) := H; have A24 := Aside0.mk A240; clear A240; simp only [Option.some.injEq, Prod.mk.injEq] at H; obtain ⟨rfl, rfl⟩ := H; go_wp2_with (first | ((with_reducible refine gate_dst (N := 23) rfl ?_); refine Kd.R_lit (Kd.int .i64) _ 3 ?hg (N := 23) ?hd (xs := ([1569, 1610, 1600] : List Int)) (inner := [.int .i64 1569, .int .i64 1610, .int .i64 1600]) (ok := fun _ => True) (okp := fun _ => True) ?hr ?hp (fun _ hk => hk) trivial (Below.refl _ _) (Nat.le_refl _) (by simp) ?_; (case hd => rfl); (case hg => rfl); (case hr => first | (go_simp; done) | (go_simp; rfl)); (case hp => exact (Reps.one (show Kd.M (Kd.int .i64) _ _ _ 1569 [.int .i64 1569] from rfl) (Reps.one (show Kd.M (Kd.int .i64) _ _ _ 1610 [.int .i64 1610] from rfl) (Reps.one (show Kd.M (Kd.int .i64) _ _ _ 1600 [.int .i64 1600] from rfl) (Reps.none _ _))))); intro v369 w25 ho26 hb hg_ hnew_; clear hg_ hnew_; (first | rw [← Ny368.out] at ho26 | (simp only [Int.reduceToNat] at ho26; rw [← Ny368.out] at ho26)); have n0_ := Aside0.mk (Kd.R_lower ho26 (keep_size (w := w) (g := g) (row := none) (by repeat (first | (with_reducible first | exact HK.out | apply KeepBut.set_ | apply keep_drewN | apply keep_drew | apply keep_alloc) | exact HK.out)))); have n1_ := Aside0.mk (IsS71.below (by repeat (first | (with_reducible first | exact HI0.out | apply IsS71.alloc | apply IsS71.drewN | apply IsS71.drew | apply IsS71.set_1) | exact HI0.out)) hb); have n2_ := Aside0.mk (KeepBut.trans (by repeat (first | (with_reducible first | exact HK.out | apply KeepBut.set_ | apply keep_drewN | apply keep_drew | apply keep_alloc) | exact HK.out)) (KeepBut.of_below hb g none) (.inl rfl)); have n3_ := Aside0.mk (below_step (by repeat (first | (with_reducible first | exact HB.out | apply below_alloc | apply pw_below_drewN | apply below_drew1 | refine below_set ?_ (IsS71.ge HI0.out)) | exact HB.out)) hb); clear HI0; clear HK; clear HB; have HO370 := n0_; have HI0 := n1_; have HK := n2_; have HB := n3_; clear n0_ n1_ n2_ n3_; clear hb ho26; obtain ⟨Ao27, co27, eo27⟩ := Kd.R_slice HO370.out; subst eo27) | ((with_reducible refine gate_callee (f := 70) rfl ?_); refine goesL_ (some 24) rfl rfl Try.func70 (by kernel_rfl) rfl #[.pointer (some ⟨g, 0, none⟩), .slice Ao27 y368.length co27] rfl (by (try simp only [List.map_toArray, List.map_cons, List.map_nil]); first | done | rfl) ?_; (with_reducible refine (spec_l1Rd_one.calls kj13 g s0_0 t357 _ _ y368 t371 t372 w0 _ ?side1 ?side2 ?side3 ?side4 ?side5 A24.out).mono ?_); (case side1 => repeat (first | (with_reducible first | exact HI0.out | apply IsS71.alloc | apply IsS71.drewN | apply IsS71.drew | apply IsS71.set_1) | exact HI0.out)); (case side2 => repeat (first | (with_reducible first | exact HB.out | apply below_alloc | apply pw_below_drewN | apply below_drew1 | refine below_set ?_ (IsS71.ge HI0.out)) | exact HB.out)); (case side3 => repeat (first | exact (Kd.R_reads' HO370.out).2.2 | (with_reducible refine Kd.C_alloc ?_ _) | (with_reducible refine Kd.C_drewN ?_ _) | (with_reducible refine Kd.C_drew ?_))); (case side4 => exact (Kd.R_reads' HO370.out).2.1); (case side5 => exact far_slice (IsS71.own_ne HI0.out HO370.out (by decide))); rintro e w28 ⟨rfl, hi, hb, hk⟩; refine ⟨_, rfl, ?_⟩; have n0_ := Aside0.mk (Kd.R_mono (Kd.R_keep (IsS71.apart (show IsS71 w0 _ g s0_0 t357 from by repeat (first | (with_reducible first | exact HI0.out | apply IsS71.alloc | apply IsS71.drewN | apply IsS71.drew | apply IsS71.set_1) | exact HI0.out)) (by (with_reducible repeat (first | apply Kd.R_alloc | apply Kd.R_drewN | apply Kd.R_drew)); exact HO370.out) (by decide)) hk (fun _ h => h.2)) (fun _ h => h.1)); have n1_ := Aside0.mk (KeepBut.trans (by repeat (first | (with_reducible first | exact HK.out | apply KeepBut.set_ | apply keep_drewN | apply keep_drew | apply keep_alloc) | exact HK.out)) hk (.inl rfl)); have n2_ := Aside0.mk (hb); have n3_ := Aside0.mk (hi); clear HO370; clear HK; clear HB; clear HI0; have HO370 := n0_; have HK := n1_; have HB := n2_; have HI0 := n3_; clear n0_ n1_ n2_ n3_; (try clear hb); (try clear hb2); (try clear hk); (try clear hi)))
        go_ret; exact ⟨by first | rfl | (simp [errW_none, errW_some] <;> rfl) | (simp [*, errW_none, errW_some] <;> rfl), by repeat (first | (with_reducible first | exact HI0.out | apply IsS71.alloc | apply IsS71.drewN | apply IsS71.drew | apply IsS71.set_1) | exact HI0.out), by repeat (first | (with_reducible first | exact HB.out | apply below_alloc | apply pw_below_drewN | apply below_drew1 | refine below_set ?_ (IsS71.ge HI0.out)) | exact HB.out), by repeat (first | (with_reducible first | exact HK.out | apply KeepBut.set_ | apply keep_drewN | apply keep_drew | apply keep_alloc) | exact HK.out)⟩
       ·
        rw [if_neg c23] at H; have c23b0 : (t356 == 7) = false := beq_eq_false_iff_ne.mpr c23; have c23b1 : (t356 != 7) = true := bne_iff_ne.mpr c23; by_cases c29 : t356 = 8
        ·
         rw [if_pos c29] at H; have c29b0 : (t356 == 8) = true := beq_iff_eq.mpr c29; have c29b1 : (t356 != 8) = false := bne_eq_false_iff_eq.mpr c29; clear c29; obtain ⟨y373, hy373⟩ : ∃ y_ : List Int, y_ = (([48, 55, 1632, 1641] : List Int)) := ⟨_, rfl⟩; replace H : ((spec_l1Rd_one.f kj13 s0_0 t357 y373).bind fun bt376 => (some (bt376.1, bt376.2))) = some (r1, r2) := by first | (rw [hy373]; with_reducible exact H) | (have H2_ := (Option.bind_some _ _).symm.trans H; rw [hy373]; with_reducible exact H2_) | (have H2_ := (Option.bind_some _ _).symm.trans H; with_reducible exact H2_) | with_reducible exact H | (rw [hy373]; exact H) | exact H
         have Ny373 := Aside0.mk hy373; clear hy373; replace H := Option.bind_eq_some_iff.mp H; obtain ⟨⟨t376, t377⟩, A300, H⟩ := H; replace H : (some (t376, t377)) = some (r1, r2) := H; have A30 := Aside0.mk A300; clear A300; simp only [Option.some.injEq, Prod.mk.injEq] at H; obtain ⟨rfl, rfl⟩ := H; go_wp2_with (first | ((with_reducible refine gate_dst (N := 28) rfl ?_); refine Kd.R_lit (Kd.int .i64) _ 3 ?hg (N := 28) ?hd (xs := ([48, 55, 1632, 1641] : List Int)) (inner := [.int .i64 48, .int .i64 55, .int .i64 1632, .int .i64 1641]) (ok := fun _ => True) (okp := fun _ => True) ?hr ?hp (fun _ hk => hk) trivial (Below.refl _ _) (Nat.le_refl _) (by simp) ?_; (case hd => rfl); (case hg => rfl); (case hr => first | (go_simp; done) | (go_simp; rfl)); (case hp => exact (Reps.one (show Kd.M (Kd.int .i64) _ _ _ 48 [.int .i64 48] from rfl) (Reps.one (show Kd.M (Kd.int .i64) _ _ _ 55 [.int .i64 55] from rfl) (Reps.one (show Kd.M (Kd.int .i64) _ _ _ 1632 [.int .i64 1632] from rfl) (Reps.one (show Kd.M (Kd.int .i64) _ _ _ 1641 [.int .i64 1641] from rfl) (Reps.none _ _)))))); intro v374 w31 ho32 hb hg_ hnew_; clear hg_ hnew_; (first | rw [← Ny373.out] at ho32 | (simp only [Int.reduceToNat] at ho32; rw [← Ny373.out] at ho32)); have n0_ := Aside0.mk (Kd.R_lower ho32 (keep_size (w := w) (g := g) (row := none) (by repeat (first | (with_reducible first | exact HK.out | apply KeepBut.set_ | apply keep_drewN | apply keep_drew | apply keep_alloc) | exact HK.out)))); have n1_ := Aside0.mk (IsS71.below (by repeat (first | (with_reducible first | exact HI0.out | apply IsS71.alloc | apply IsS71.drewN | apply IsS71.drew | apply IsS71.set_1) | exact HI0.out)) hb); have n2_ := Aside0.mk (KeepBut.trans (by repeat (first | (with_reducible first | exact HK.out | apply KeepBut.set_ | apply keep_drewN | apply keep_drew | apply keep_alloc) | exact HK.out)) (KeepBut.of_below hb g none) (.inl rfl)); have n3_ := Aside0.mk (below_step (by repeat (first | (with_reducible first | exact HB.out | apply below_alloc | apply pw_below_drewN | apply below_drew1 | refine below_set ?_ (IsS71.ge HI0.out)) | exact HB.out)) hb); clear HI0; clear HK; clear HB; have HO375 := n0_; have HI0 := n1_; have HK := n2_; have HB := n3_; clear n0_ n1_ n2_ n3_; clear hb ho32; obtain ⟨Ao33, co33, eo33⟩ := Kd.R_slice HO375.out; subst eo33) | ((with_reducible refine gate_callee (f := 70) rfl ?_); refine goesL_ (some 29) rfl rfl Try.func70 (by kernel_rfl) rfl #[.pointer (some ⟨g, 0, none⟩), .slice Ao33 y373.length co33] rfl (by (try simp only [List.map_toArray, List.map_cons, List.map_nil]); first | done | rfl) ?_; (with_reducible refine (spec_l1Rd_one.calls kj13 g s0_0 t357 _ _ y373 t376 t377 w0 _ ?side1 ?side2 ?side3 ?side4 ?side5 A30.out).mono ?_); (case side1 => repeat (first | (with_reducible first | exact HI0.out | apply IsS71.alloc | apply IsS71.drewN | apply IsS71.drew | apply IsS71.set_1) | exact HI0.out)); (case side2 => repeat (first | (with_reducible first | exact HB.out | apply below_alloc | apply pw_below_drewN | apply below_drew1 | refine below_set ?_ (IsS71.ge HI0.out)) | exact HB.out)); (case side3 => repeat (first | exact (Kd.R_reads' HO375.out).2.2 | (with_reducible refine Kd.C_alloc ?_ _) | (with_reducible refine Kd.C_drewN ?_ _) | (with_reducible refine Kd.C_drew ?_))); (case side4 => exact (Kd.R_reads' HO375.out).2.1); (case side5 => exact far_slice (IsS71.own_ne HI0.out HO375.out (by decide))); rintro e w34 ⟨rfl, hi, hb, hk⟩; refine ⟨_, rfl, ?_⟩; have n0_ := Aside0.mk (Kd.R_mono (Kd.R_keep (IsS71.apart (show IsS71 w0 _ g s0_0 t357 from by repeat (first | (with_reducible first | exact HI0.out | apply IsS71.alloc | apply IsS71.drewN | apply IsS71.drew | apply IsS71.set_1) | exact HI0.out)) (by (with_reducible repeat (first | apply Kd.R_alloc | apply Kd.R_drewN | apply Kd.R_drew)); exact HO375.out) (by decide)) hk (fun _ h => h.2)) (fun _ h => h.1)); have n1_ := Aside0.mk (KeepBut.trans (by repeat (first | (with_reducible first | exact HK.out | apply KeepBut.set_ | apply keep_drewN | apply keep_drew | apply keep_alloc) | exact HK.out)) hk (.inl rfl)); have n2_ := Aside0.mk (hb); have n3_ := Aside0.mk (hi); clear HO375; clear HK; clear HB; clear HI0; have HO375 := n0_; have HK := n1_; have HB := n2_; have HI0 := n3_; clear n0_ n1_ n2_ n3_; (try clear hb); (try clear hb2); (try clear hk); (try clear hi)))
         go_ret; exact ⟨by first | rfl | (simp [errW_none, errW_some] <;> rfl) | (simp [*, errW_none, errW_some] <;> rfl), by repeat (first | (with_reducible first | exact HI0.out | apply IsS71.alloc | apply IsS71.drewN | apply IsS71.drew | apply IsS71.set_1) | exact HI0.out), by repeat (first | (with_reducible first | exact HB.out | apply below_alloc | apply pw_below_drewN | apply below_drew1 | refine below_set ?_ (IsS71.ge HI0.out)) | exact HB.out), by repeat (first | (with_reducible first | exact HK.out | apply KeepBut.set_ | apply keep_drewN | apply keep_drew | apply keep_alloc) | exact HK.out)⟩
        ·
         rw [if_neg c29] at H; have c29b0 : (t356 == 8) = false := beq_eq_false_iff_ne.mpr c29; have c29b1 : (t356 != 8) = true := bne_iff_ne.mpr c29; have HC35 := Aside0.mk H; clear H; go_upto_if 30 with (fail)
         go_cut [30] (fun v30 wc => ∃ (kq : Nat) (x30_34 : Bool), v30 = .bool x30_34 ∧ Aside0 (spec_l13Rune.j2 kq t356 x30_34 s0_0 t357 = some (r1, r2)) ∧ Aside0 (kq ≤ kj13) ∧ Aside0 (IsS71 w0 wc g s0_0 t357) ∧ Aside0 (KeepBut w wc g none) ∧ Aside0 (Below w0.heap.size w0 wc))
         case first =>
          have H := HC35.out; clear HC35; by_cases c36 : t356 = 9
          ·
           rw [if_pos c36] at H; have c36b0 : (t356 == 9) = true := beq_iff_eq.mpr c36; have c36b1 : (t356 != 9) = false := bne_eq_false_iff_eq.mpr c36; clear c36; (first | rw [c36b0] | (simp only [i64_w, i32_w]; rw [c36b0]) | skip); have H' := Aside0.mk H; clear H; go_wp2; go_meet
           case rel => exact ⟨_, ((t356 == 9)), (by first | rfl | (simp; done) | (simp [*]; done)), H', ⟨by have := HJ2.out; have := HJ13.out; first | omega | exact Nat.le_refl _⟩, ⟨by repeat (first | (with_reducible first | exact HI0.out | apply IsS71.alloc | apply IsS71.drewN | apply IsS71.drew | apply IsS71.set_1) | exact HI0.out)⟩, ⟨by repeat (first | (with_reducible first | exact HK.out | apply KeepBut.set_ | apply keep_drewN | apply keep_drew | apply keep_alloc) | exact HK.out)⟩, ⟨by repeat (first | (with_reducible first | exact HB.out | apply below_alloc | apply pw_below_drewN | apply below_drew1 | refine below_set ?_ (IsS71.ge HI0.out)) | exact HB.out)⟩⟩
          ·
           rw [if_neg c36] at H; have c36b0 : (t356 == 9) = false := beq_eq_false_iff_ne.mpr c36; have c36b1 : (t356 != 9) = true := bne_iff_ne.mpr c36; (first | rw [c36b0] | (simp only [i64_w, i32_w]; rw [c36b0]) | skip); have H' := Aside0.mk H; clear H; go_wp2; go_meet
           case rel => exact ⟨_, ((t356 == 10)), (by first | rfl | (simp; done) | (simp [*]; done)), H', ⟨by have := HJ2.out; have := HJ13.out; first | omega | exact Nat.le_refl _⟩, ⟨by repeat (first | (with_reducible first | exact HI0.out | apply IsS71.alloc | apply IsS71.drewN | apply IsS71.drew | apply IsS71.set_1) | exact HI0.out)⟩, ⟨by repeat (first | (with_reducible first | exact HK.out | apply KeepBut.set_ | apply keep_drewN | apply keep_drew | apply keep_alloc) | exact HK.out)⟩, ⟨by repeat (first | (with_reducible first | exact HB.out | apply below_alloc | apply pw_below_drewN | apply below_drew1 | refine below_set ?_ (IsS71.ge HI0.out)) | exact HB.out)⟩⟩
         case rest =>
          clear HC35; (try clear c1); (try clear c2); (try clear p2); (try clear c3); (try clear c4); (try clear c5); (try clear c5b0); (try clear c5b1); (try clear c6); (try clear c6b0); (try clear c6b1); (try clear c7); (try clear c7b0); (try clear c7b1); (try clear c8); (try clear c10); (try clear c15); (try clear c15b0); (try clear c15b1); (try clear c16); (try clear c16b0); (try clear c16b1); (try clear c17); (try clear c23); (try clear c23b0); (try clear c23b1); (try clear c29); (try clear c29b0); (try clear c29b1); (try clear c36); (try clear c36b0); (try clear c36b1); (try clear p2); obtain ⟨kq, x30_34, rfl, HA, HJ34, HI0, HK, HB⟩ := hcut
          cases kq with
          | zero => exact absurd HA.out (by simp [spec_l13Rune.j2])
          | succ kj34 =>
           have H := HA.out; clear HA; simp only [spec_l13Rune.j2] at H; by_cases c37 : x30_34 = true
           ·
            subst c37; have H1 : (some (32, t357)) = some (r1, r2) := by rw [if_pos rfl] at H; exact H
            clear H; have H := H1; clear H1; simp only [Option.some.injEq, Prod.mk.injEq] at H; obtain ⟨rfl, rfl⟩ := H; go_wp2; go_ret; exact ⟨by first | rfl | (simp [errW_none, errW_some] <;> rfl) | (simp [*, errW_none, errW_some] <;> rfl), by repeat (first | (with_reducible first | exact HI0.out | apply IsS71.alloc | apply IsS71.drewN | apply IsS71.drew | apply IsS71.set_1) | exact HI0.out), by repeat (first | (with_reducible first | exact HB.out | apply below_alloc | apply pw_below_drewN | apply below_drew1 | refine below_set ?_ (IsS71.ge HI0.out)) | exact HB.out), by repeat (first | (with_reducible first | exact HK.out | apply KeepBut.set_ | apply keep_drewN | apply keep_drew | apply keep_alloc) | exact HK.out)⟩
           ·
            replace c37 := Bool.eq_false_iff.mpr c37; subst c37; have H1 : (if t356 = 11 then ((spec_l1Rd_one.f kj34 s0_0 t357 (([43, 45, 35, 36, 44, 46, 47, 58, 40, 41, 91, 93, 60, 33, 34, 59, 160] : List Int))).bind fun bt381 => (some (bt381.1, bt381.2))) else (if t356 = 12 then ((spec_l1Rd_one.f kj34 s0_0 t357 (([768, 879, 8203, 8205, 173, 9, 10, 13] : List Int))).bind fun bt386 => (some (bt386.1, bt386.2))) else (if t356 = 13 then ((spec_l1Rd_one.f kj34 s0_0 t357 (([8234, 8235, 8236, 8237, 8238] : List Int))).bind fun bt391 => (some (bt391.1, bt391.2))) else (if t356 = 14 then ((spec_l1Rd_one.f kj34 s0_0 t357 (([8294, 8295, 8296, 8297, 8297] : List Int))).bind fun bt396 => (some (bt396.1, bt396.2))) else ((spec_l1Rd_one.f kj34 s0_0 t357 (([19968, 40959, 127462, 127487, 128512, 200, 40, 41] : List Int))).bind fun bt401 => (some (bt401.1, bt401.2))))))) = some (r1, r2) := by rw [if_neg (show ¬ (false = true) by decide)] at H; exact H
            clear H; have H := H1; clear H1; by_cases c38 : t356 = 11
            ·
             rw [if_pos c38] at H; have c38b0 : (t356 == 11) = true := beq_iff_eq.mpr c38; have c38b1 : (t356 != 11) = false := bne_eq_false_iff_eq.mpr c38; clear c38; obtain ⟨y378, hy378⟩ : ∃ y_ : List Int, y_ = (([43, 45, 35, 36, 44, 46, 47, 58, 40, 41, 91, 93, 60, 33, 34, 59, 160] : List Int)) := ⟨_, rfl⟩; replace H : ((spec_l1Rd_one.f kj34 s0_0 t357 y378).bind fun bt381 => (some (bt381.1, bt381.2))) = some (r1, r2) := by first | (rw [hy378]; with_reducible exact H) | (have H2_ := (Option.bind_some _ _).symm.trans H; rw [hy378]; with_reducible exact H2_) | (have H2_ := (Option.bind_some _ _).symm.trans H; with_reducible exact H2_) | with_reducible exact H | (rw [hy378]; exact H) | exact H
             have Ny378 := Aside0.mk hy378; clear hy378; replace H := Option.bind_eq_some_iff.mp H; obtain ⟨⟨t381, t382⟩, A390, H⟩ := H; replace H : (some (t381, t382)) = some (r1, r2) := H; have A39 := Aside0.mk A390; clear A390; simp only [Option.some.injEq, Prod.mk.injEq] at H; obtain ⟨rfl, rfl⟩ := H; go_wp2_with (first | ((with_reducible refine gate_dst (N := 36) rfl ?_); refine Kd.R_lit (Kd.int .i64) _ 3 ?hg (N := 36) ?hd (xs := ([43, 45, 35, 36, 44, 46, 47, 58, 40, 41, 91, 93, 60, 33, 34, 59, 160] : List Int)) (inner := [.int .i64 43, .int .i64 45, .int .i64 35, .int .i64 36, .int .i64 44, .int .i64 46, .int .i64 47, .int .i64 58, .int .i64 40, .int .i64 41, .int .i64 91, .int .i64 93, .int .i64 60, .int .i64 33, .int .i64 34, .int .i64 59, .int .i64 160]) (ok := fun _ => True) (okp := fun _ => True) ?hr ?hp (fun _ hk => hk) trivial (Below.refl _ _) (Nat.le_refl _) (by simp) ?_; (case hd => rfl); (case hg => rfl); (case hr => first | (go_simp; done) | (go_simp; rfl)); (case hp => exact (Reps.one (show Kd.M (Kd.int .i64) _ _ _ 43 [.int .i64 43] from rfl) (Reps.one (show Kd.M (Kd.int .i64) _ _ _ 45 [.int .i64 45] from rfl) (Reps.one (show Kd.M (Kd.int .i64) _ _ _ 35 [.int .i64 35] from rfl) (Reps.one (show Kd.M (Kd.int .i64) _ _ _ 36 [.int .i64 36] from rfl) (Reps.one (show Kd.M (Kd.int .i64) _ _ _ 44 [.int .i64 44] from rfl) (Reps.one (show Kd.M (Kd.int .i64) _ _ _ 46 [.int .i64 46] from rfl) (Reps.one (show Kd.M (Kd.int .i64) _ _ _ 47 [.int .i64 47] from rfl) (Reps.one (show Kd.M (Kd.int .i64) _ _ _ 58 [.int .i64 58] from rfl) (Reps.one (show Kd.M (Kd.int .i64) _ _ _ 40 [.int .i64 40] from rfl) (Reps.one (show Kd.M (Kd.int .i64) _ _ _ 41 [.int .i64 41] from rfl) (Reps.one (show Kd.M (Kd.int .i64) _ _ _ 91 [.int .i64 91] from rfl) (Reps.one (show Kd.M (Kd.int .i64) _ _ _ 93 [.int .i64 93] from rfl) (Reps.one (show Kd.M (Kd.int .i64) _ _ _ 60 [.int .i64 60] from rfl) (Reps.one (show Kd.M (Kd.int .i64) _ _ _ 33 [.int .i64 33] from rfl) (Reps.one (show Kd.M (Kd.int .i64) _ _ _ 34 [.int .i64 34] from rfl) (Reps.one (show Kd.M (Kd.int .i64) _ _ _ 59 [.int .i64 59] from rfl) (Reps.one (show Kd.M (Kd.int .i64) _ _ _ 160 [.int .i64 160] from rfl) (Reps.none _ _))))))))))))))))))); intro v379 w40 ho41 hb hg_ hnew_; clear hg_ hnew_; (first | rw [← Ny378.out] at ho41 | (simp only [Int.reduceToNat] at ho41; rw [← Ny378.out] at ho41)); have n0_ := Aside0.mk (Kd.R_lower ho41 (keep_size (w := w) (g := g) (row := none) (by repeat (first | (with_reducible first | exact HK.out | apply KeepBut.set_ | apply keep_drewN | apply keep_drew | apply keep_alloc) | exact HK.out)))); have n1_ := Aside0.mk (IsS71.below (by repeat (first | (with_reducible first | exact HI0.out | apply IsS71.alloc | apply IsS71.drewN | apply IsS71.drew | apply IsS71.set_1) | exact HI0.out)) hb); have n2_ := Aside0.mk (KeepBut.trans (by repeat (first | (with_reducible first | exact HK.out | apply KeepBut.set_ | apply keep_drewN | apply keep_drew | apply keep_alloc) | exact HK.out)) (KeepBut.of_below hb g none) (.inl rfl)); have n3_ := Aside0.mk (below_step (by repeat (first | (with_reducible first | exact HB.out | apply below_alloc | apply pw_below_drewN | apply below_drew1 | refine below_set ?_ (IsS71.ge HI0.out)) | exact HB.out)) hb); clear HI0; clear HK; clear HB; have HO380 := n0_; have HI0 := n1_; have HK := n2_; have HB := n3_; clear n0_ n1_ n2_ n3_; clear hb ho41; obtain ⟨Ao42, co42, eo42⟩ := Kd.R_slice HO380.out; subst eo42) | ((with_reducible refine gate_callee (f := 70) rfl ?_); refine goesL_ (some 37) rfl rfl Try.func70 (by kernel_rfl) rfl #[.pointer (some ⟨g, 0, none⟩), .slice Ao42 y378.length co42] rfl (by (try simp only [List.map_toArray, List.map_cons, List.map_nil]); first | done | rfl) ?_; (with_reducible refine (spec_l1Rd_one.calls kj34 g s0_0 t357 _ _ y378 t381 t382 w0 _ ?side1 ?side2 ?side3 ?side4 ?side5 A39.out).mono ?_); (case side1 => repeat (first | (with_reducible first | exact HI0.out | apply IsS71.alloc | apply IsS71.drewN | apply IsS71.drew | apply IsS71.set_1) | exact HI0.out)); (case side2 => repeat (first | (with_reducible first | exact HB.out | apply below_alloc | apply pw_below_drewN | apply below_drew1 | refine below_set ?_ (IsS71.ge HI0.out)) | exact HB.out)); (case side3 => repeat (first | exact (Kd.R_reads' HO380.out).2.2 | (with_reducible refine Kd.C_alloc ?_ _) | (with_reducible refine Kd.C_drewN ?_ _) | (with_reducible refine Kd.C_drew ?_))); (case side4 => exact (Kd.R_reads' HO380.out).2.1); (case side5 => exact far_slice (IsS71.own_ne HI0.out HO380.out (by decide))); rintro e w43 ⟨rfl, hi, hb, hk⟩; refine ⟨_, rfl, ?_⟩; have n0_ := Aside0.mk (Kd.R_mono (Kd.R_keep (IsS71.apart (show IsS71 w0 _ g s0_0 t357 from by repeat (first | (with_reducible first | exact HI0.out | apply IsS71.alloc | apply IsS71.drewN | apply IsS71.drew | apply IsS71.set_1) | exact HI0.out)) (by (with_reducible repeat (first | apply Kd.R_alloc | apply Kd.R_drewN | apply Kd.R_drew)); exact HO380.out) (by decide)) hk (fun _ h => h.2)) (fun _ h => h.1)); have n1_ := Aside0.mk (KeepBut.trans (by repeat (first | (with_reducible first | exact HK.out | apply KeepBut.set_ | apply keep_drewN | apply keep_drew | apply keep_alloc) | exact HK.out)) hk (.inl rfl)); have n2_ := Aside0.mk (hb); have n3_ := Aside0.mk (hi); clear HO380; clear HK; clear HB; clear HI0; have HO380 := n0_; have HK := n1_; have HB := n2_; have HI0 := n3_; clear n0_ n1_ n2_ n3_; (try clear hb); (try clear hb2); (try clear hk); (try clear hi)))
             go_ret; exact ⟨by first | rfl | (simp [errW_none, errW_some] <;> rfl) | (simp [*, errW_none, errW_some] <;> rfl), by repeat (first | (with_reducible first | exact HI0.out | apply IsS71.alloc | apply IsS71.drewN | apply IsS71.drew | apply IsS71.set_1) | exact HI0.out), by repeat (first | (with_reducible first | exact HB.out | apply below_alloc | apply pw_below_drewN | apply below_drew1 | refine below_set ?_ (IsS71.ge HI0.out)) | exact HB.out), by repeat (first | (with_reducible first | exact HK.out | apply KeepBut.set_ | apply keep_drewN | apply keep_drew | apply keep_alloc) | exact HK.out)⟩
            ·
             rw [if_neg c38] at H; have c38b0 : (t356 == 11) = false := beq_eq_false_iff_ne.mpr c38; have c38b1 : (t356 != 11) = true := bne_iff_ne.mpr c38; by_cases c44 : t356 = 12
             ·
              rw [if_pos c44] at H; have c44b0 : (t356 == 12) = true := beq_iff_eq.mpr c44; have c44b1 : (t356 != 12) = false := bne_eq_false_iff_eq.mpr c44; clear c44; obtain ⟨y383, hy383⟩ : ∃ y_ : List Int, y_ = (([768, 879, 8203, 8205, 173, 9, 10, 13] : List Int)) := ⟨_, rfl⟩; replace H : ((spec_l1Rd_one.f kj34 s0_0 t357 y383).bind fun bt386 => (some (bt386.1, bt386.2))) = some (r1, r2) := by first | (rw [hy383]; with_reducible exact H) | (have H2_ := (Option.bind_some _ _).symm.trans H; rw [hy383]; with_reducible exact H2_) | (have H2_ := (Option.bind_some _ _).symm.trans H; with_reducible exact H2_) | with_reducible exact H | (rw [hy383]; exact H) | exact H
              have Ny383 := Aside0.mk hy383; clear hy383; replace H := Option.bind_eq_some_iff.mp H; obtain ⟨⟨t386, t387⟩, A450, H⟩ := H; replace H : (some (t386, t387)) = some (r1, r2) := H; have A45 := Aside0.mk A450; clear A450; simp only [Option.some.injEq, Prod.mk.injEq] at H; obtain ⟨rfl, rfl⟩ := H; go_wp2_with (first | ((with_reducible refine gate_dst (N := 41) rfl ?_); refine Kd.R_lit (Kd.int .i64) _ 3 ?hg (N := 41) ?hd (xs := ([768, 879, 8203, 8205, 173, 9, 10, 13] : List Int)) (inner := [.int .i64 768, .int .i64 879, .int .i64 8203, .int .i64 8205, .int .i64 173, .int .i64 9, .int .i64 10, .int .i64 13]) (ok := fun _ => True) (okp := fun _ => True) ?hr ?hp (fun _ hk => hk) trivial (Below.refl _ _) (Nat.le_refl _) (by simp) ?_; (case hd => rfl); (case hg => rfl); (case hr => first | (go_simp; done) | (go_simp; rfl)); (case hp => exact (Reps.one (show Kd.M (Kd.int .i64) _ _ _ 768 [.int .i64 768] from rfl) (Reps.one (show Kd.M (Kd.int .i64) _ _ _ 879 [.int .i64 879] from rfl) (Reps.one (show Kd.M (Kd.int .i64) _ _ _ 8203 [.int .i64 8203] from rfl) (Reps.one (show Kd.M (Kd.int .i64) _ _ _ 8205 [.int .i64 8205] from rfl) (Reps.one (show Kd.M (Kd.int .i64) _ _ _ 173 [.int .i64 173] from rfl) (Reps.one (show Kd.M (Kd.int .i64) _ _ _ 9 [.int .i64 9] from rfl) (Reps.one (show Kd.M (Kd.int .i64) _ _ _ 10 [.int .i64 10] from rfl) (Reps.one (show Kd.M (Kd.int .i64) _ _ _ 13 [.int .i64 13] from rfl) (Reps.none _ _)))))))))); intro v384 w46 ho47 hb hg_ hnew_; clear hg_ hnew_; (first | rw [← Ny383.out] at ho47 | (simp only [Int.reduceToNat] at ho47; rw [← Ny383.out] at ho47)); have n0_ := Aside0.mk (Kd.R_lower ho47 (keep_size (w := w) (g := g) (row := none) (by repeat (first | (with_reducible first | exact HK.out | apply KeepBut.set_ | apply keep_drewN | apply keep_drew | apply keep_alloc) | exact HK.out)))); have n1_ := Aside0.mk (IsS71.below (by repeat (first | (with_reducible first | exact HI0.out | apply IsS71.alloc | apply IsS71.drewN | apply IsS71.drew | apply IsS71.set_1) | exact HI0.out)) hb); have n2_ := Aside0.mk (KeepBut.trans (by repeat (first | (with_reducible first | exact HK.out | apply KeepBut.set_ | apply keep_drewN | apply keep_drew | apply keep_alloc) | exact HK.out)) (KeepBut.of_below hb g none) (.inl rfl)); have n3_ := Aside0.mk (below_step (by repeat (first | (with_reducible first | exact HB.out | apply below_alloc | apply pw_below_drewN | apply below_drew1 | refine below_set ?_ (IsS71.ge HI0.out)) | exact HB.out)) hb); clear HI0; clear HK; clear HB; have HO385 := n0_; have HI0 := n1_; have HK := n2_; have HB := n3_; clear n0_ n1_ n2_ n3_; clear hb ho47; obtain ⟨Ao48, co48, eo48⟩ := Kd.R_slice HO385.out; subst eo48) | ((with_reducible refine gate_callee (f := 70) rfl ?_); refine goesL_ (some 42) rfl rfl Try.func70 (by kernel_rfl) rfl #[.pointer (some ⟨g, 0, none⟩), .slice Ao48 y383.length co48] rfl (by (try simp only [List.map_toArray, List.map_cons, List.map_nil]); first | done | rfl) ?_; (with_reducible refine (spec_l1Rd_one.calls kj34 g s0_0 t357 _ _ y383 t386 t387 w0 _ ?side1 ?side2 ?side3 ?side4 ?side5 A45.out).mono ?_); (case side1 => repeat (first | (with_reducible first | exact HI0.out | apply IsS71.alloc | apply IsS71.drewN | apply IsS71.drew | apply IsS71.set_1) | exact HI0.out)); (case side2 => repeat (first | (with_reducible first | exact HB.out | apply below_alloc | apply pw_below_drewN | apply below_drew1 | refine below_set ?_ (IsS71.ge HI0.out)) | exact HB.out)); (case side3 => repeat (first | exact (Kd.R_reads' HO385.out).2.2 | (with_reducible refine Kd.C_alloc ?_ _) | (with_reducible refine Kd.C_drewN ?_ _) | (with_reducible refine Kd.C_drew ?_))); (case side4 => exact (Kd.R_reads' HO385.out).2.1); (case side5 => exact far_slice (IsS71.own_ne HI0.out HO385.out (by decide))); rintro e w49 ⟨rfl, hi, hb, hk⟩; refine ⟨_, rfl, ?_⟩; have n0_ := Aside0.mk (Kd.R_mono (Kd.R_keep (IsS71.apart (show IsS71 w0 _ g s0_0 t357 from by repeat (first | (with_reducible first | exact HI0.out | apply IsS71.alloc | apply IsS71.drewN | apply IsS71.drew | apply IsS71.set_1) | exact HI0.out)) (by (with_reducible repeat (first | apply Kd.R_alloc | apply Kd.R_drewN | apply Kd.R_drew)); exact HO385.out) (by decide)) hk (fun _ h => h.2)) (fun _ h => h.1)); have n1_ := Aside0.mk (KeepBut.trans (by repeat (first | (with_reducible first | exact HK.out | apply KeepBut.set_ | apply keep_drewN | apply keep_drew | apply keep_alloc) | exact HK.out)) hk (.inl rfl)); have n2_ := Aside0.mk (hb); have n3_ := Aside0.mk (hi); clear HO385; clear HK; clear HB; clear HI0; have HO385 := n0_; have HK := n1_; have HB := n2_; have HI0 := n3_; clear n0_ n1_ n2_ n3_; (try clear hb); (try clear hb2); (try clear hk); (try clear hi)))
              go_ret; exact ⟨by first | rfl | (simp [errW_none, errW_some] <;> rfl) | (simp [*, errW_none, errW_some] <;> rfl), by repeat (first | (with_reducible first | exact HI0.out | apply IsS71.alloc | apply IsS71.drewN | apply IsS71.drew | apply IsS71.set_1) | exact HI0.out), by repeat (first | (with_reducible first | exact HB.out | apply below_alloc | apply pw_below_drewN | apply below_drew1 | refine below_set ?_ (IsS71.ge HI0.out)) | exact HB.out), by repeat (first | (with_reducible first | exact HK.out | apply KeepBut.set_ | apply keep_drewN | apply keep_drew | apply keep_alloc) | exact HK.out)⟩
             ·
              rw [if_neg c44] at H; have c44b0 : (t356 == 12) = false := beq_eq_false_iff_ne.mpr c44; have c44b1 : (t356 != 12) = true := bne_iff_ne.mpr c44; by_cases c50 : t356 = 13
              ·
               rw [if_pos c50] at H; have c50b0 : (t356 == 13) = true := beq_iff_eq.mpr c50; have c50b1 : (t356 != 13) = false := bne_eq_false_iff_eq.mpr c50; clear c50; obtain ⟨y388, hy388⟩ : ∃ y_ : List Int, y_ = (([8234, 8235, 8236, 8237, 8238] : List Int)) := ⟨_, rfl⟩; replace H : ((spec_l1Rd_one.f kj34 s0_0 t357 y388).bind fun bt391 => (some (bt391.1, bt391.2))) = some (r1, r2) := by first | (rw [hy388]; with_reducible exact H) | (have H2_ := (Option.bind_some _ _).symm.trans H; rw [hy388]; with_reducible exact H2_) | (have H2_ := (Option.bind_some _ _).symm.trans H; with_reducible exact H2_) | with_reducible exact H | (rw [hy388]; exact H) | exact H
               have Ny388 := Aside0.mk hy388; clear hy388; replace H := Option.bind_eq_some_iff.mp H; obtain ⟨⟨t391, t392⟩, A510, H⟩ := H; replace H : (some (t391, t392)) = some (r1, r2) := H; have A51 := Aside0.mk A510; clear A510; simp only [Option.some.injEq, Prod.mk.injEq] at H; obtain ⟨rfl, rfl⟩ := H; go_wp2_with (first | ((with_reducible refine gate_dst (N := 46) rfl ?_); refine Kd.R_lit (Kd.int .i64) _ 3 ?hg (N := 46) ?hd (xs := ([8234, 8235, 8236, 8237, 8238] : List Int)) (inner := [.int .i64 8234, .int .i64 8235, .int .i64 8236, .int .i64 8237, .int .i64 8238]) (ok := fun _ => True) (okp := fun _ => True) ?hr ?hp (fun _ hk => hk) trivial (Below.refl _ _) (Nat.le_refl _) (by simp) ?_; (case hd => rfl); (case hg => rfl); (case hr => first | (go_simp; done) | (go_simp; rfl)); (case hp => exact (Reps.one (show Kd.M (Kd.int .i64) _ _ _ 8234 [.int .i64 8234] from rfl) (Reps.one (show Kd.M (Kd.int .i64) _ _ _ 8235 [.int .i64 8235] from rfl) (Reps.one (show Kd.M (Kd.int .i64) _ _ _ 8236 [.int .i64 8236] from rfl) (Reps.one (show Kd.M (Kd.int .i64) _ _ _ 8237 [.int .i64 8237] from rfl) (Reps.one (show Kd.M (Kd.int .i64) _ _ _ 8238 [.int .i64 8238] from rfl) (Reps.none _ _))))))); intro v389 w52 ho53 hb hg_ hnew_; clear hg_ hnew_; (first | rw [← Ny388.out] at ho53 | (simp only [Int.reduceToNat] at ho53; rw [← Ny388.out] at ho53)); have n0_ := Aside0.mk (Kd.R_lower ho53 (keep_size (w := w) (g := g) (row := none) (by repeat (first | (with_reducible first | exact HK.out | apply KeepBut.set_ | apply keep_drewN | apply keep_drew | apply keep_alloc) | exact HK.out)))); have n1_ := Aside0.mk (IsS71.below (by repeat (first | (with_reducible first | exact HI0.out | apply IsS71.alloc | apply IsS71.drewN | apply IsS71.drew | apply IsS71.set_1) | exact HI0.out)) hb); have n2_ := Aside0.mk (KeepBut.trans (by repeat (first | (with_reducible first | exact HK.out | apply KeepBut.set_ | apply keep_drewN | apply keep_drew | apply keep_alloc) | exact HK.out)) (KeepBut.of_below hb g none) (.inl rfl)); have n3_ := Aside0.mk (below_step (by repeat (first | (with_reducible first | exact HB.out | apply below_alloc | apply pw_below_drewN | apply below_drew1 | refine below_set ?_ (IsS71.ge HI0.out)) | exact HB.out)) hb); clear HI0; clear HK; clear HB; have HO390 := n0_; have HI0 := n1_; have HK := n2_; have HB := n3_; clear n0_ n1_ n2_ n3_; clear hb ho53; obtain ⟨Ao54, co54, eo54⟩ := Kd.R_slice HO390.out; subst eo54) | ((with_reducible refine gate_callee (f := 70) rfl ?_); refine goesL_ (some 47) rfl rfl Try.func70 (by kernel_rfl) rfl #[.pointer (some ⟨g, 0, none⟩), .slice Ao54 y388.length co54] rfl (by (try simp only [List.map_toArray, List.map_cons, List.map_nil]); first | done | rfl) ?_; (with_reducible refine (spec_l1Rd_one.calls kj34 g s0_0 t357 _ _ y388 t391 t392 w0 _ ?side1 ?side2 ?side3 ?side4 ?side5 A51.out).mono ?_); (case side1 => repeat (first | (with_reducible first | exact HI0.out | apply IsS71.alloc | apply IsS71.drewN | apply IsS71.drew | apply IsS71.set_1) | exact HI0.out)); (case side2 => repeat (first | (with_reducible first | exact HB.out | apply below_alloc | apply pw_below_drewN | apply below_drew1 | refine below_set ?_ (IsS71.ge HI0.out)) | exact HB.out)); (case side3 => repeat (first | exact (Kd.R_reads' HO390.out).2.2 | (with_reducible refine Kd.C_alloc ?_ _) | (with_reducible refine Kd.C_drewN ?_ _) | (with_reducible refine Kd.C_drew ?_))); (case side4 => exact (Kd.R_reads' HO390.out).2.1); (case side5 => exact far_slice (IsS71.own_ne HI0.out HO390.out (by decide))); rintro e w55 ⟨rfl, hi, hb, hk⟩; refine ⟨_, rfl, ?_⟩; have n0_ := Aside0.mk (Kd.R_mono (Kd.R_keep (IsS71.apart (show IsS71 w0 _ g s0_0 t357 from by repeat (first | (with_reducible first | exact HI0.out | apply IsS71.alloc | apply IsS71.drewN | apply IsS71.drew | apply IsS71.set_1) | exact HI0.out)) (by (with_reducible repeat (first | apply Kd.R_alloc | apply Kd.R_drewN | apply Kd.R_drew)); exact HO390.out) (by decide)) hk (fun _ h => h.2)) (fun _ h => h.1)); have n1_ := Aside0.mk (KeepBut.trans (by repeat (first | (with_reducible first | exact HK.out | apply KeepBut.set_ | apply keep_drewN | apply keep_drew | apply keep_alloc) | exact HK.out)) hk (.inl rfl)); have n2_ := Aside0.mk (hb); have n3_ := Aside0.mk (hi); clear HO390; clear HK; clear HB; clear HI0; have HO390 := n0_; have HK := n1_; have HB := n2_; have HI0 := n3_; clear n0_ n1_ n2_ n3_; (try clear hb); (try clear hb2); (try clear hk); (try clear hi)))
               go_ret; exact ⟨by first | rfl | (simp [errW_none, errW_some] <;> rfl) | (simp [*, errW_none, errW_some] <;> rfl), by repeat (first | (with_reducible first | exact HI0.out | apply IsS71.alloc | apply IsS71.drewN | apply IsS71.drew | apply IsS71.set_1) | exact HI0.out), by repeat (first | (with_reducible first | exact HB.out | apply below_alloc | apply pw_below_drewN | apply below_drew1 | refine below_set ?_ (IsS71.ge HI0.out)) | exact HB.out), by repeat (first | (with_reducible first | exact HK.out | apply KeepBut.set_ | apply keep_drewN | apply keep_drew | apply keep_alloc) | exact HK.out)⟩
              ·
               rw [if_neg c50] at H; have c50b0 : (t356 == 13) = false := beq_eq_false_iff_ne.mpr c50; have c50b1 : (t356 != 13) = true := bne_iff_ne.mpr c50; by_cases c56 : t356 = 14
               ·
                rw [if_pos c56] at H; have c56b0 : (t356 == 14) = true := beq_iff_eq.mpr c56; have c56b1 : (t356 != 14) = false := bne_eq_false_iff_eq.mpr c56; clear c56; obtain ⟨y393, hy393⟩ : ∃ y_ : List Int, y_ = (([8294, 8295, 8296, 8297, 8297] : List Int)) := ⟨_, rfl⟩; replace H : ((spec_l1Rd_one.f kj34 s0_0 t357 y393).bind fun bt396 => (some (bt396.1, bt396.2))) = some (r1, r2) := by first | (rw [hy393]; with_reducible exact H) | (have H2_ := (Option.bind_some _ _).symm.trans H; rw [hy393]; with_reducible exact H2_) | (have H2_ := (Option.bind_some _ _).symm.trans H; with_reducible exact H2_) | with_reducible exact H | (rw [hy393]; exact H) | exact H
                have Ny393 := Aside0.mk hy393; clear hy393; replace H := Option.bind_eq_some_iff.mp H; obtain ⟨⟨t396, t397⟩, A570, H⟩ := H; replace H : (some (t396, t397)) = some (r1, r2) := H; have A57 := Aside0.mk A570; clear A570; simp only [Option.some.injEq, Prod.mk.injEq] at H; obtain ⟨rfl, rfl⟩ := H; go_wp2_with (first | ((with_reducible refine gate_dst (N := 51) rfl ?_); refine Kd.R_lit (Kd.int .i64) _ 3 ?hg (N := 51) ?hd (xs := ([8294, 8295, 8296, 8297, 8297] : List Int)) (inner := [.int .i64 8294, .int .i64 8295, .int .i64 8296, .int .i64 8297, .int .i64 8297]) (ok := fun _ => True) (okp := fun _ => True) ?hr ?hp (fun _ hk => hk) trivial (Below.refl _ _) (Nat.le_refl _) (by simp) ?_; (case hd => rfl); (case hg => rfl); (case hr => first | (go_simp; done) | (go_simp; rfl)); (case hp => exact (Reps.one (show Kd.M (Kd.int .i64) _ _ _ 8294 [.int .i64 8294] from rfl) (Reps.one (show Kd.M (Kd.int .i64) _ _ _ 8295 [.int .i64 8295] from rfl) (Reps.one (show Kd.M (Kd.int .i64) _ _ _ 8296 [.int .i64 8296] from rfl) (Reps.one (show Kd.M (Kd.int .i64) _ _ _ 8297 [.int .i64 8297] from rfl) (Reps.one (show Kd.M (Kd.int .i64) _ _ _ 8297 [.int .i64 8297] from rfl) (Reps.none _ _))))))); intro v394 w58 ho59 hb hg_ hnew_; clear hg_ hnew_; (first | rw [← Ny393.out] at ho59 | (simp only [Int.reduceToNat] at ho59; rw [← Ny393.out] at ho59)); have n0_ := Aside0.mk (Kd.R_lower ho59 (keep_size (w := w) (g := g) (row := none) (by repeat (first | (with_reducible first | exact HK.out | apply KeepBut.set_ | apply keep_drewN | apply keep_drew | apply keep_alloc) | exact HK.out)))); have n1_ := Aside0.mk (IsS71.below (by repeat (first | (with_reducible first | exact HI0.out | apply IsS71.alloc | apply IsS71.drewN | apply IsS71.drew | apply IsS71.set_1) | exact HI0.out)) hb); have n2_ := Aside0.mk (KeepBut.trans (by repeat (first | (with_reducible first | exact HK.out | apply KeepBut.set_ | apply keep_drewN | apply keep_drew | apply keep_alloc) | exact HK.out)) (KeepBut.of_below hb g none) (.inl rfl)); have n3_ := Aside0.mk (below_step (by repeat (first | (with_reducible first | exact HB.out | apply below_alloc | apply pw_below_drewN | apply below_drew1 | refine below_set ?_ (IsS71.ge HI0.out)) | exact HB.out)) hb); clear HI0; clear HK; clear HB; have HO395 := n0_; have HI0 := n1_; have HK := n2_; have HB := n3_; clear n0_ n1_ n2_ n3_; clear hb ho59; obtain ⟨Ao60, co60, eo60⟩ := Kd.R_slice HO395.out; subst eo60) | ((with_reducible refine gate_callee (f := 70) rfl ?_); refine goesL_ (some 52) rfl rfl Try.func70 (by kernel_rfl) rfl #[.pointer (some ⟨g, 0, none⟩), .slice Ao60 y393.length co60] rfl (by (try simp only [List.map_toArray, List.map_cons, List.map_nil]); first | done | rfl) ?_; (with_reducible refine (spec_l1Rd_one.calls kj34 g s0_0 t357 _ _ y393 t396 t397 w0 _ ?side1 ?side2 ?side3 ?side4 ?side5 A57.out).mono ?_); (case side1 => repeat (first | (with_reducible first | exact HI0.out | apply IsS71.alloc | apply IsS71.drewN | apply IsS71.drew | apply IsS71.set_1) | exact HI0.out)); (case side2 => repeat (first | (with_reducible first | exact HB.out | apply below_alloc | apply pw_below_drewN | apply below_drew1 | refine below_set ?_ (IsS71.ge HI0.out)) | exact HB.out)); (case side3 => repeat (first | exact (Kd.R_reads' HO395.out).2.2 | (with_reducible refine Kd.C_alloc ?_ _) | (with_reducible refine Kd.C_drewN ?_ _) | (with_reducible refine Kd.C_drew ?_))); (case side4 => exact (Kd.R_reads' HO395.out).2.1); (case side5 => exact far_slice (IsS71.own_ne HI0.out HO395.out (by decide))); rintro e w61 ⟨rfl, hi, hb, hk⟩; refine ⟨_, rfl, ?_⟩; have n0_ := Aside0.mk (Kd.R_mono (Kd.R_keep (IsS71.apart (show IsS71 w0 _ g s0_0 t357 from by repeat (first | (with_reducible first | exact HI0.out | apply IsS71.alloc | apply IsS71.drewN | apply IsS71.drew | apply IsS71.set_1) | exact HI0.out)) (by (with_reducible repeat (first | apply Kd.R_alloc | apply Kd.R_drewN | apply Kd.R_drew)); exact HO395.out) (by decide)) hk (fun _ h => h.2)) (fun _ h => h.1)); have n1_ := Aside0.mk (KeepBut.trans (by repeat (first | (with_reducible first | exact HK.out | apply KeepBut.set_ | apply keep_drewN | apply keep_drew | apply keep_alloc) | exact HK.out)) hk (.inl rfl)); have n2_ := Aside0.mk (hb); have n3_ := Aside0.mk (hi); clear HO395; clear HK; clear HB; clear HI0; have HO395 := n0_; have HK := n1_; have HB := n2_; have HI0 := n3_; clear n0_ n1_ n2_ n3_; (try clear hb); (try clear hb2); (try clear hk); (try clear hi)))
                go_ret; exact ⟨by first | rfl | (simp [errW_none, errW_some] <;> rfl) | (simp [*, errW_none, errW_some] <;> rfl), by repeat (first | (with_reducible first | exact HI0.out | apply IsS71.alloc | apply IsS71.drewN | apply IsS71.drew | apply IsS71.set_1) | exact HI0.out), by repeat (first | (with_reducible first | exact HB.out | apply below_alloc | apply pw_below_drewN | apply below_drew1 | refine below_set ?_ (IsS71.ge HI0.out)) | exact HB.out), by repeat (first | (with_reducible first | exact HK.out | apply KeepBut.set_ | apply keep_drewN | apply keep_drew | apply keep_alloc) | exact HK.out)⟩
               ·
                rw [if_neg c56] at H; have c56b0 : (t356 == 14) = false := beq_eq_false_iff_ne.mpr c56; have c56b1 : (t356 != 14) = true := bne_iff_ne.mpr c56; obtain ⟨y398, hy398⟩ : ∃ y_ : List Int, y_ = (([19968, 40959, 127462, 127487, 128512, 200, 40, 41] : List Int)) := ⟨_, rfl⟩; replace H : ((spec_l1Rd_one.f kj34 s0_0 t357 y398).bind fun bt401 => (some (bt401.1, bt401.2))) = some (r1, r2) := by first | (rw [hy398]; with_reducible exact H) | (have H2_ := (Option.bind_some _ _).symm.trans H; rw [hy398]; with_reducible exact H2_) | (have H2_ := (Option.bind_some _ _).symm.trans H; with_reducible exact H2_) | with_reducible exact H | (rw [hy398]; exact H) | exact H
                have Ny398 := Aside0.mk hy398; clear hy398; replace H := Option.bind_eq_some_iff.mp H; obtain ⟨⟨t401, t402⟩, A620, H⟩ := H; replace H : (some (t401, t402)) = some (r1, r2) := H; have A62 := Aside0.mk A620; clear A620; simp only [Option.some.injEq, Prod.mk.injEq] at H; obtain ⟨rfl, rfl⟩ := H; go_wp2_with (first | ((with_reducible refine gate_dst (N := 54) rfl ?_); refine Kd.R_lit (Kd.int .i64) _ 3 ?hg (N := 54) ?hd (xs := ([19968, 40959, 127462, 127487, 128512, 200, 40, 41] : List Int)) (inner := [.int .i64 19968, .int .i64 40959, .int .i64 127462, .int .i64 127487, .int .i64 128512, .int .i64 200, .int .i64 40, .int .i64 41]) (ok := fun _ => True) (okp := fun _ => True) ?hr ?hp (fun _ hk => hk) trivial (Below.refl _ _) (Nat.le_refl _) (by simp) ?_; (case hd => rfl); (case hg => rfl); (case hr => first | (go_simp; done) | (go_simp; rfl)); (case hp => exact (Reps.one (show Kd.M (Kd.int .i64) _ _ _ 19968 [.int .i64 19968] from rfl) (Reps.one (show Kd.M (Kd.int .i64) _ _ _ 40959 [.int .i64 40959] from rfl) (Reps.one (show Kd.M (Kd.int .i64) _ _ _ 127462 [.int .i64 127462] from rfl) (Reps.one (show Kd.M (Kd.int .i64) _ _ _ 127487 [.int .i64 127487] from rfl) (Reps.one (show Kd.M (Kd.int .i64) _ _ _ 128512 [.int .i64 128512] from rfl) (Reps.one (show Kd.M (Kd.int .i64) _ _ _ 200 [.int .i64 200] from rfl) (Reps.one (show Kd.M (Kd.int .i64) _ _ _ 40 [.int .i64 40] from rfl) (Reps.one (show Kd.M (Kd.int .i64) _ _ _ 41 [.int .i64 41] from rfl) (Reps.none _ _)))))))))); intro v399 w63 ho64 hb hg_ hnew_; clear hg_ hnew_; (first | rw [← Ny398.out] at ho64 | (simp only [Int.reduceToNat] at ho64; rw [← Ny398.out] at ho64)); have n0_ := Aside0.mk (Kd.R_lower ho64 (keep_size (w := w) (g := g) (row := none) (by repeat (first | (with_reducible first | exact HK.out | apply KeepBut.set_ | apply keep_drewN | apply keep_drew | apply keep_alloc) | exact HK.out)))); have n1_ := Aside0.mk (IsS71.below (by repeat (first | (with_reducible first | exact HI0.out | apply IsS71.alloc | apply IsS71.drewN | apply IsS71.drew | apply IsS71.set_1) | exact HI0.out)) hb); have n2_ := Aside0.mk (KeepBut.trans (by repeat (first | (with_reducible first | exact HK.out | apply KeepBut.set_ | apply keep_drewN | apply keep_drew | apply keep_alloc) | exact HK.out)) (KeepBut.of_below hb g none) (.inl rfl)); have n3_ := Aside0.mk (below_step (by repeat (first | (with_reducible first | exact HB.out | apply below_alloc | apply pw_below_drewN | apply below_drew1 | refine below_set ?_ (IsS71.ge HI0.out)) | exact HB.out)) hb); clear HI0; clear HK; clear HB; have HO400 := n0_; have HI0 := n1_; have HK := n2_; have HB := n3_; clear n0_ n1_ n2_ n3_; clear hb ho64; obtain ⟨Ao65, co65, eo65⟩ := Kd.R_slice HO400.out; subst eo65) | ((with_reducible refine gate_callee (f := 70) rfl ?_); refine goesL_ (some 55) rfl rfl Try.func70 (by kernel_rfl) rfl #[.pointer (some ⟨g, 0, none⟩), .slice Ao65 y398.length co65] rfl (by (try simp only [List.map_toArray, List.map_cons, List.map_nil]); first | done | rfl) ?_; (with_reducible refine (spec_l1Rd_one.calls kj34 g s0_0 t357 _ _ y398 t401 t402 w0 _ ?side1 ?side2 ?side3 ?side4 ?side5 A62.out).mono ?_); (case side1 => repeat (first | (with_reducible first | exact HI0.out | apply IsS71.alloc | apply IsS71.drewN | apply IsS71.drew | apply IsS71.set_1) | exact HI0.out)); (case side2 => repeat (first | (with_reducible first | exact HB.out | apply below_alloc | apply pw_below_drewN | apply below_drew1 | refine below_set ?_ (IsS71.ge HI0.out)) | exact HB.out)); (case side3 => repeat (first | exact (Kd.R_reads' HO400.out).2.2 | (with_reducible refine Kd.C_alloc ?_ _) | (with_reducible refine Kd.C_drewN ?_ _) | (with_reducible refine Kd.C_drew ?_))); (case side4 => exact (Kd.R_reads' HO400.out).2.1); (case side5 => exact far_slice (IsS71.own_ne HI0.out HO400.out (by decide))); rintro e w66 ⟨rfl, hi, hb, hk⟩; refine ⟨_, rfl, ?_⟩; have n0_ := Aside0.mk (Kd.R_mono (Kd.R_keep (IsS71.apart (show IsS71 w0 _ g s0_0 t357 from by repeat (first | (with_reducible first | exact HI0.out | apply IsS71.alloc | apply IsS71.drewN | apply IsS71.drew | apply IsS71.set_1) | exact HI0.out)) (by (with_reducible repeat (first | apply Kd.R_alloc | apply Kd.R_drewN | apply Kd.R_drew)); exact HO400.out) (by decide)) hk (fun _ h => h.2)) (fun _ h => h.1)); have n1_ := Aside0.mk (KeepBut.trans (by repeat (first | (with_reducible first | exact HK.out | apply KeepBut.set_ | apply keep_drewN | apply keep_drew | apply keep_alloc) | exact HK.out)) hk (.inl rfl)); have n2_ := Aside0.mk (hb); have n3_ := Aside0.mk (hi); clear HO400; clear HK; clear HB; clear HI0; have HO400 := n0_; have HK := n1_; have HB := n2_; have HI0 := n3_; clear n0_ n1_ n2_ n3_; (try clear hb); (try clear hb2); (try clear hk); (try clear hi)))
                go_ret; exact ⟨by first | rfl | (simp [errW_none, errW_some] <;> rfl) | (simp [*, errW_none, errW_some] <;> rfl), by repeat (first | (with_reducible first | exact HI0.out | apply IsS71.alloc | apply IsS71.drewN | apply IsS71.drew | apply IsS71.set_1) | exact HI0.out), by repeat (first | (with_reducible first | exact HB.out | apply below_alloc | apply pw_below_drewN | apply below_drew1 | refine below_set ?_ (IsS71.ge HI0.out)) | exact HB.out), by repeat (first | (with_reducible first | exact HK.out | apply KeepBut.set_ | apply keep_drewN | apply keep_drew | apply keep_alloc) | exact HK.out)⟩

end Go.Proofs.Ytojehfdioeglgaa.S

namespace Go.Proofs.Ytojehfdioeglgaa.S
open Go.RowKit Go.Proofs.YtojehfdioeglgaaW.PrintWords Go.Proofs.YtojehfdioeglgaaW.PrintLast Go.Proofs.YtojehfdioeglgaaW.PrintMore
attribute [local go_sem] max2_int min2_int max_two min_two max_three min_three max_four min_four   -- for this text's walks alone
set_option linter.unusedVariables false
set_option linter.unusedSimpArgs false

/-! ### spec_l13Runes: function 79 -/
mutual
def spec_l13Runes.l0 : Nat → List Int → Int → List Int → Int → Option (List Int × Int)
  | 0, _, _, _, _ => none
  | k + 1, x3, x4, x1000, x1001 => if x4 > 0 then ((spec_l13Rune.f k x1000 x1001).bind fun bt408 => (if x3.length < 17592186044416 then (spec_l13Runes.l0 k (x3 ++ [bt408.1]) (wrap64 (x4 - 1)) x1000 bt408.2) else (none))) else ((spec_l1Rd_pick.f k x1000 x1001 24).bind fun bt413 => (if bt413.1 = 0 then (spec_l13Runes.l1 k x3 x1000 bt413.2) else (some (x3, bt413.2))))
def spec_l13Runes.l1 : Nat → List Int → List Int → Int → Option (List Int × Int)
  | 0, _, _, _ => none
  | k + 1, x3, x1000, x1001 => if (x3.length : Int) < 80 then ((spec_l1Rd_one.f k x1000 x1001 (([8235, 8238, 8295, 1488, 97] : List Int))).bind fun bt418 => (if x3.length < 17592186044416 then (spec_l13Runes.l1 k (x3 ++ [bt418.1]) x1000 bt418.2) else (none))) else (some (x3, x1001))
end
def spec_l13Runes.f (k : Nat) (s0_0 : List Int) (s0_1 : Int) : Option (List Int × Int) := (spec_l1Rd_pick.f k s0_0 s0_1 24).bind fun bt406 => (spec_l13Runes.l0 k (([] : List Int)) bt406.1 s0_0 bt406.2)
theorem spec_l13Runes.mono_l : ∀ k, (∀ y0 y1 y2 y3, LeO (spec_l13Runes.l0 k y0 y1 y2 y3) (spec_l13Runes.l0 (k + 1) y0 y1 y2 y3)) ∧ (∀ y0 y1 y2, LeO (spec_l13Runes.l1 k y0 y1 y2) (spec_l13Runes.l1 (k + 1) y0 y1 y2))
  | 0 => ⟨fun _ _ _ _ r h => by simp [spec_l13Runes.l0] at h, fun _ _ _ r h => by simp [spec_l13Runes.l1] at h⟩
  | k + 1 => by
    obtain ⟨ih0, ih1⟩ := spec_l13Runes.mono_l k
    refine ⟨?_, ?_⟩
    · intro y0 y1 y2 y3
      unfold spec_l13Runes.l0
      repeat' first
      | (with_reducible exact ih0 _ _ _ _)
      | (with_reducible exact ih1 _ _ _)
      | (with_reducible exact spec_l13Rune.mono _ _ _)
      | (with_reducible exact spec_l1Rd_one.mono _ _ _ _)
      | (with_reducible exact spec_l1Rd_pick.mono _ _ _ _)
      | (with_reducible exact LeO.refl _)
      | (with_reducible exact LeO.none _)
      | (with_reducible refine LeO.ite ?_ ?_)
      | (with_reducible refine LeO.bind ?_ (fun _ => ?_))
      | exact ih0 _ _ _ _
      | exact ih1 _ _ _
      | exact spec_l13Rune.mono _ _ _
      | exact spec_l1Rd_one.mono _ _ _ _
      | exact spec_l1Rd_pick.mono _ _ _ _
      | exact LeO.none _
      | refine LeO.ite ?_ ?_
      | refine LeO.bind ?_ (fun _ => ?_)
    · intro y0 y1 y2
      unfold spec_l13Runes.l1
      repeat' first
      | (with_reducible exact ih0 _ _ _ _)
      | (with_reducible exact ih1 _ _ _)
      | (with_reducible exact spec_l13Rune.mono _ _ _)
      | (with_reducible exact spec_l1Rd_one.mono _ _ _ _)
      | (with_reducible exact spec_l1Rd_pick.mono _ _ _ _)
      | (with_reducible exact LeO.refl _)
      | (with_reducible exact LeO.none _)
      | (with_reducible refine LeO.ite ?_ ?_)
      | (with_reducible refine LeO.bind ?_ (fun _ => ?_))
      | exact ih0 _ _ _ _
      | exact ih1 _ _ _
      | exact spec_l13Rune.mono _ _ _
      | exact spec_l1Rd_one.mono _ _ _ _
      | exact spec_l1Rd_pick.mono _ _ _ _
      | exact LeO.none _
      | refine LeO.ite ?_ ?_
      | refine LeO.bind ?_ (fun _ => ?_)
theorem spec_l13Runes.mono : ∀ a0 a1 k, LeO (spec_l13Runes.f k a0 a1) (spec_l13Runes.f (k + 1) a0 a1) := by
  intro a0 a1 k
  obtain ⟨ih0, ih1⟩ := spec_l13Runes.mono_l k
  unfold spec_l13Runes.f
  repeat' first
      | (with_reducible exact ih0 _ _ _ _)
      | (with_reducible exact ih1 _ _ _)
      | (with_reducible exact spec_l13Rune.mono _ _ _)
      | (with_reducible exact spec_l1Rd_one.mono _ _ _ _)
      | (with_reducible exact spec_l1Rd_pick.mono _ _ _ _)
      | (with_reducible exact LeO.refl _)
      | (with_reducible exact LeO.none _)
      | (with_reducible refine LeO.ite ?_ ?_)
      | (with_reducible refine LeO.bind ?_ (fun _ => ?_))
      | exact ih0 _ _ _ _
      | exact ih1 _ _ _
      | exact spec_l13Rune.mono _ _ _
      | exact spec_l1Rd_one.mono _ _ _ _
      | exact spec_l1Rd_pick.mono _ _ _ _
      | exact LeO.none _
      | refine LeO.ite ?_ ?_
      | refine LeO.bind ?_ (fun _ => ?_)
set_option maxHeartbeats 8000000 in
set_option maxRecDepth 100000 in
theorem spec_l13Runes.calls (k : Nat) (g : Nat) (s0_0 : List Int) (s0_1 : Int) (r1 : List Int) (r2 : Int) (w0 w : World) (hI : IsS71 w0 w g s0_0 s0_1) (hB : Below w0.heap.size w0 w) (h : spec_l13Runes.f k s0_0 s0_1 = some (r1, r2)) :
    Calls Try.prog 79 #[.pointer (some ⟨g, 0, none⟩)] w fun e w' => ∃ v0_ : Value, e = .returned (v0_) ∧ Kd.R (Kd.int .i64) 3 w' w.heap.size (fun _ => True) v0_ r1 ∧ IsS71 w0 w' g s0_0 r2 ∧ Below w0.heap.size w0 w' ∧ KeepBut w w' g none := by
  have HI0 := Aside0.mk hI
  have HK := Aside0.mk (KeepBut.refl w g none)
  have HL := Aside0.mk hB.size
  clear hI
  have HW0 := Aside0.mk hB.size
  have HB := Aside0.mk hB
  clear hB
  have H : ((spec_l1Rd_pick.f k s0_0 s0_1 24).bind fun bt406 => (spec_l13Runes.l0 k (([] : List Int)) bt406.1 s0_0 bt406.2)) = some (r1, r2) := h
  clear h
  obtain ⟨y403, hy403⟩ : ∃ y_ : List Int, y_ = (([] : List Int)) := ⟨_, rfl⟩
  replace H : ((spec_l1Rd_pick.f k s0_0 s0_1 24).bind fun bt406 => (spec_l13Runes.l0 k y403 bt406.1 s0_0 bt406.2)) = some (r1, r2) := by first | (rw [hy403]; with_reducible exact H) | (have H2_ := (Option.bind_some _ _).symm.trans H; rw [hy403]; with_reducible exact H2_) | (have H2_ := (Option.bind_some _ _).symm.trans H; with_reducible exact H2_) | with_reducible exact H | (rw [hy403]; exact H) | exact H
  have Ny403 := Aside0.mk hy403
  clear hy403
  replace H := Option.bind_eq_some_iff.mp H
  obtain ⟨⟨t406, t407⟩, A20, H⟩ := H
  replace H : (spec_l13Runes.l0 k y403 t406 s0_0 t407) = some (r1, r2) := H
  have A2 := Aside0.mk A20
  clear A20
  have H' := Aside0.mk H
  clear H
  go_enter Try.func79, Try.ntmps79
  go_wp2_with (first | ((with_reducible refine gate_dst (N := 5) rfl ?_); refine Kd.R_lit (Kd.int .i64) _ 3 ?hg (N := 5) ?hd (xs := ([] : List Int)) (inner := []) (ok := fun _ => True) (okp := fun _ => True) ?hr ?hp (fun _ hk => hk) trivial (Below.refl _ _) (Nat.le_refl _) (by simp) ?_; (case hd => rfl); (case hg => rfl); (case hr => first | (go_simp; done) | (go_simp; rfl)); (case hp => exact (Reps.none _ _)); intro v404 w3 ho4 hb hg_ hnew_; clear hg_ hnew_; (first | rw [← Ny403.out] at ho4 | (simp only [Int.reduceToNat] at ho4; rw [← Ny403.out] at ho4)); have n0_ := Aside0.mk (Kd.R_lower ho4 (keep_size (w := w) (g := g) (row := none) (by repeat (first | (with_reducible first | exact HK.out | apply KeepBut.set_ | apply keep_drewN | apply keep_drew | apply keep_alloc) | exact HK.out)))); have n1_ := Aside0.mk (IsS71.below (by repeat (first | (with_reducible first | exact HI0.out | apply IsS71.alloc | apply IsS71.drewN | apply IsS71.drew | apply IsS71.set_1) | exact HI0.out)) hb); have n2_ := Aside0.mk (KeepBut.trans (by repeat (first | (with_reducible first | exact HK.out | apply KeepBut.set_ | apply keep_drewN | apply keep_drew | apply keep_alloc) | exact HK.out)) (KeepBut.of_below hb g none) (.inl rfl)); have n3_ := Aside0.mk (below_step (by repeat (first | (with_reducible first | exact HB.out | apply below_alloc | apply pw_below_drewN | apply below_drew1 | refine below_set ?_ (IsS71.ge HI0.out)) | exact HB.out)) hb); clear HI0; clear HK; clear HB; have HO405 := n0_; have HI0 := n1_; have HK := n2_; have HB := n3_; clear n0_ n1_ n2_ n3_; clear hb ho4) | ((with_reducible refine gate_callee (f := 44) rfl ?_); refine goesL_ (some 7) rfl rfl Try.func44 (by kernel_rfl) rfl #[.pointer (some ⟨g, 0, none⟩), .int .i64 24] rfl (by (try simp only [List.map_toArray, List.map_cons, List.map_nil]); first | done | rfl | (simp only [List.length_drop, List.length_take]; rfl)) ?_; (with_reducible refine (spec_l1Rd_pick.calls k g s0_0 s0_1 24 t406 t407 w0 _ ?side1 ?side2 A2.out).mono ?_); (case side1 => repeat (first | (with_reducible first | exact HI0.out | apply IsS71.alloc | apply IsS71.drewN | apply IsS71.drew | apply IsS71.set_1) | exact HI0.out)); (case side2 => repeat (first | (with_reducible first | exact HB.out | apply below_alloc | apply pw_below_drewN | apply below_drew1 | refine below_set ?_ (IsS71.ge HI0.out)) | exact HB.out)); rintro e w5 ⟨rfl, hi, hb, hk⟩; refine ⟨_, rfl, ?_⟩; have n0_ := Aside0.mk (Kd.R_mono (Kd.R_keep (IsS71.apart (show IsS71 w0 _ g s0_0 s0_1 from by repeat (first | (with_reducible first | exact HI0.out | apply IsS71.alloc | apply IsS71.drewN | apply IsS71.drew | apply IsS71.set_1) | exact HI0.out)) (by (with_reducible repeat (first | apply Kd.R_alloc | apply Kd.R_drewN | apply Kd.R_drew)); exact HO405.out) (by decide)) hk (fun _ h => h.2)) (fun _ h => h.1)); have n1_ := Aside0.mk (KeepBut.trans (by repeat (first | (with_reducible first | exact HK.out | apply KeepBut.set_ | apply keep_drewN | apply keep_drew | apply keep_alloc) | exact HK.out)) hk (.inl rfl)); have n2_ := Aside0.mk (hb); have n3_ := Aside0.mk (hi); clear HO405; clear HK; clear HB; clear HI0; have HO405 := n0_; have HK := n1_; have HB := n2_; have HI0 := n3_; clear n0_ n1_ n2_ n3_; (try clear hb); (try clear hb2); (try clear hk); (try clear hi)))
  go_loopg [3, 4] k (fun kq v3 v4 w' => ∃ (x3_1 : List Int) (x4_1 : Int) (x1001_1 : Int), v4 = .int .i64 x4_1 ∧ Aside0 (spec_l13Runes.l0 kq x3_1 x4_1 s0_0 x1001_1 = some (r1, r2)) ∧ Aside0 (kq ≤ k) ∧ Aside0 (Kd.R (Kd.int .i64) 3 w' w.heap.size (fun _ => True) v3 x3_1) ∧ Aside0 (IsS71 w0 w' g s0_0 x1001_1) ∧ Aside0 (KeepBut w w' g none) ∧ Aside0 (Below w0.heap.size w0 w'))
  case atStart => exact ⟨(y403), (t406), (t407), (by first | rfl | (simp; done) | (simp [*]; done)), H', ⟨Nat.le_refl _⟩, ⟨by (with_reducible repeat (first | apply Kd.R_alloc | apply Kd.R_drewN | apply Kd.R_drew)); exact HO405.out⟩, ⟨by repeat (first | (with_reducible first | exact HI0.out | apply IsS71.alloc | apply IsS71.drewN | apply IsS71.drew | apply IsS71.set_1) | exact HI0.out)⟩, ⟨by repeat (first | (with_reducible first | exact HK.out | apply KeepBut.set_ | apply keep_drewN | apply keep_drew | apply keep_alloc) | exact HK.out)⟩, ⟨by repeat (first | (with_reducible first | exact HB.out | apply below_alloc | apply pw_below_drewN | apply below_drew1 | refine below_set ?_ (IsS71.ge HI0.out)) | exact HB.out)⟩⟩
  case round =>
    clear H'
    try clear p2
    try clear c4
    obtain ⟨x3_1, x4_1, x1001_1, rfl, HA, HK1, HO_3, HI0, HK, HB⟩ := hrel
    cases gk with
    | zero => exact absurd HA.out (by simp [spec_l13Runes.l0])
    | succ k1 =>
      have H := HA.out
      clear HA
      simp only [spec_l13Runes.l0] at H
      by_cases c6 : x4_1 > 0
      · rw [if_pos c6] at H
        have c6b0 : decide (0 < x4_1) = true := decide_eq_true c6
        clear c6
        replace H := Option.bind_eq_some_iff.mp H
        obtain ⟨⟨t408, t409⟩, A70, H⟩ := H
        replace H : (if x3_1.length < 17592186044416 then (spec_l13Runes.l0 k1 (x3_1 ++ [t408]) (wrap64 (x4_1 - 1)) s0_0 t409) else (none)) = some (r1, r2) := H
        have A7 := Aside0.mk A70
        clear A70
        by_cases c8 : x3_1.length < 17592186044416
        · rw [if_pos c8] at H
          have LMc8 := Aside0.mk c8
          clear c8
          obtain ⟨y410, hy410⟩ : ∃ y_ : List Int, y_ = (x3_1 ++ [t408]) := ⟨_, rfl⟩
          replace H : (spec_l13Runes.l0 k1 y410 (wrap64 (x4_1 - 1)) s0_0 t409) = some (r1, r2) := by first | (rw [hy410]; with_reducible exact H) | (have H2_ := (Option.bind_some _ _).symm.trans H; rw [hy410]; with_reducible exact H2_) | (have H2_ := (Option.bind_some _ _).symm.trans H; with_reducible exact H2_) | with_reducible exact H | (rw [hy410]; exact H) | exact H
          have Ny410 := Aside0.mk hy410
          clear hy410
          have H' := Aside0.mk H
          clear H
          go_wp2_with (first | ((with_reducible refine gate_callee (f := 105) rfl ?_); refine goesL_ (some 14) rfl rfl Try.func105 (by kernel_rfl) rfl #[.pointer (some ⟨g, 0, none⟩)] rfl (by (try simp only [List.map_toArray, List.map_cons, List.map_nil]); first | done | rfl | (simp only [List.length_drop, List.length_take]; rfl)) ?_; (with_reducible refine (spec_l13Rune.calls k1 g s0_0 x1001_1 t408 t409 w0 _ ?side1 ?side2 A7.out).mono ?_); (case side1 => repeat (first | (with_reducible first | exact HI0.out | apply IsS71.alloc | apply IsS71.drewN | apply IsS71.drew | apply IsS71.set_1) | exact HI0.out)); (case side2 => repeat (first | (with_reducible first | exact HB.out | apply below_alloc | apply pw_below_drewN | apply below_drew1 | refine below_set ?_ (IsS71.ge HI0.out)) | exact HB.out)); rintro e w9 ⟨rfl, hi, hb, hk⟩; refine ⟨_, rfl, ?_⟩; have n0_ := Aside0.mk (Kd.R_mono (Kd.R_keep (IsS71.apart (show IsS71 w0 _ g s0_0 x1001_1 from by repeat (first | (with_reducible first | exact HI0.out | apply IsS71.alloc | apply IsS71.drewN | apply IsS71.drew | apply IsS71.set_1) | exact HI0.out)) (by (with_reducible repeat (first | apply Kd.R_alloc | apply Kd.R_drewN | apply Kd.R_drew)); exact HO_3.out) (by decide)) hk (fun _ h => h.2)) (fun _ h => h.1)); have n1_ := Aside0.mk (KeepBut.trans (by repeat (first | (with_reducible first | exact HK.out | apply KeepBut.set_ | apply keep_drewN | apply keep_drew | apply keep_alloc) | exact HK.out)) hk (.inl rfl)); have n2_ := Aside0.mk (hb); have n3_ := Aside0.mk (hi); clear HO_3; clear HK; clear HB; clear HI0; have HO_3 := n0_; have HK := n1_; have HB := n2_; have HI0 := n3_; clear n0_ n1_ n2_ n3_; (try clear hb); (try clear hb2); (try clear hk); (try clear hi)) | ((with_reducible refine gate_builtin (b := .append) (xs := #[.tmp 12, .tmp 15]) rfl ?_); at_builtin; refine Kd.R_append (Kd.int .i64) w.heap.size rfl (.tmp 12) (.tmp 15) 22 3 (.int .i64 0) 8 rfl Try.underlying22 info3 rfl (by decide) (by omega) u3 x3_1 t408 [.int .i64 t408] (fun _ => True) (fun _ => False) rfl rfl ?aP (fun _ hk => hk.elim) ?aF ?aO (Below.refl _ _) ?aS ?aL ?_; (case aP => exact rfl); (case aF => exact (fun _ _ => trivial)); (case aO => exact (by (with_reducible repeat (first | apply Kd.R_alloc | apply Kd.R_drewN | apply Kd.R_drew)); exact HO_3.out)); (case aS => exact (keep_size (w := w) (g := g) (row := none) (by repeat (first | (with_reducible first | exact HK.out | apply KeepBut.set_ | apply keep_drewN | apply keep_drew | apply keep_alloc) | exact HK.out)))); (case aL => have := LMc8.out; omega); intro v411 w10 ho hb hg hat; rw [← Ny410.out] at ho; have n0_ := Aside0.mk (IsS71.grown (by repeat (first | (with_reducible first | exact HI0.out | apply IsS71.alloc | apply IsS71.drewN | apply IsS71.drew | apply IsS71.set_1) | exact HI0.out)) hg (IsS71.own_ne HI0.out HO_3.out (by decide))); have n1_ := Aside0.mk (below_weaken (by repeat (first | (with_reducible first | exact HB.out | apply below_alloc | apply pw_below_drewN | apply below_drew1 | refine below_set ?_ (IsS71.ge HI0.out)) | exact HB.out)) HL.out hb); have n2_ := Aside0.mk (KeepBut.trans (by repeat (first | (with_reducible first | exact HK.out | apply KeepBut.set_ | apply keep_drewN | apply keep_drew | apply keep_alloc) | exact HK.out)) (KeepBut.of_grown hg g) (Kd.R_base2 HO_3.out)); have n3_ := Aside0.mk (ho); clear HI0; clear HB; clear HK; clear HO_3; have HI0 := n0_; have HB := n1_; have HK := n2_; have HO412 := n3_; clear n0_ n1_ n2_ n3_; clear ho hb hg hat))
          go_roundg k1
          case measure => have := HK1.out; omega
          case rel => exact ⟨(y410), (wrap64 (x4_1 - 1)), (t409), (by first | rfl | (simp; done) | (simp [*]; done)), H', ⟨by have := HK1.out; omega⟩, ⟨by (with_reducible repeat (first | apply Kd.R_alloc | apply Kd.R_drewN | apply Kd.R_drew)); exact HO412.out⟩, ⟨by repeat (first | (with_reducible first | exact HI0.out | apply IsS71.alloc | apply IsS71.drewN | apply IsS71.drew | apply IsS71.set_1) | exact HI0.out)⟩, ⟨by repeat (first | (with_reducible first | exact HK.out | apply KeepBut.set_ | apply keep_drewN | apply keep_drew | apply keep_alloc) | exact HK.out)⟩, ⟨by repeat (first | (with_reducible first | exact HB.out | apply below_alloc | apply pw_below_drewN | apply below_drew1 | refine below_set ?_ (IsS71.ge HI0.out)) | exact HB.out)⟩⟩
        · rw [if_neg c8] at H
          exact absurd H (by simp)
      · rw [if_neg c6] at H
        have c6b0 : decide (0 < x4_1) = false := decide_eq_false c6
        clear c6
        replace H := Option.bind_eq_some_iff.mp H
        obtain ⟨⟨t413, t414⟩, A110, H⟩ := H
        replace H : (if t413 = 0 then (spec_l13Runes.l1 k1 x3_1 s0_0 t414) else (some (x3_1, t414))) = some (r1, r2) := H
        have A11 := Aside0.mk A110
        clear A110
        by_cases c12 : t413 = 0
        · rw [if_pos c12] at H
          have c12b0 : (t413 == 0) = true := beq_iff_eq.mpr c12
          have c12b1 : (t413 != 0) = false := bne_eq_false_iff_eq.mpr c12
          clear c12
          have H' := Aside0.mk H
          clear H
          go_wp2_with (first | ((with_reducible refine gate_callee (f := 44) rfl ?_); refine goesL_ (some 18) rfl rfl Try.func44 (by kernel_rfl) rfl #[.pointer (some ⟨g, 0, none⟩), .int .i64 24] rfl (by (try simp only [List.map_toArray, List.map_cons, List.map_nil]); first | done | rfl | (simp only [List.length_drop, List.length_take]; rfl)) ?_; (with_reducible refine (spec_l1Rd_pick.calls k1 g s0_0 x1001_1 24 t413 t414 w0 _ ?side1 ?side2 A11.out).mono ?_); (case side1 => repeat (first | (with_reducible first | exact HI0.out | apply IsS71.alloc | apply IsS71.drewN | apply IsS71.drew | apply IsS71.set_1) | exact HI0.out)); (case side2 => repeat (first | (with_reducible first | exact HB.out | apply below_alloc | apply pw_below_drewN | apply below_drew1 | refine below_set ?_ (IsS71.ge HI0.out)) | exact HB.out)); rintro e w13 ⟨rfl, hi, hb, hk⟩; refine ⟨_, rfl, ?_⟩; have n0_ := Aside0.mk (Kd.R_mono (Kd.R_keep (IsS71.apart (show IsS71 w0 _ g s0_0 x1001_1 from by repeat (first | (with_reducible first | exact HI0.out | apply IsS71.alloc | apply IsS71.drewN | apply IsS71.drew | apply IsS71.set_1) | exact HI0.out)) (by (with_reducible repeat (first | apply Kd.R_alloc | apply Kd.R_drewN | apply Kd.R_drew)); exact HO_3.out) (by decide)) hk (fun _ h => h.2)) (fun _ h => h.1)); have n1_ := Aside0.mk (KeepBut.trans (by repeat (first | (with_reducible first | exact HK.out | apply KeepBut.set_ | apply keep_drewN | apply keep_drew | apply keep_alloc) | exact HK.out)) hk (.inl rfl)); have n2_ := Aside0.mk (hb); have n3_ := Aside0.mk (hi); clear HO_3; clear HK; clear HB; clear HI0; have HO_3 := n0_; have HK := n1_; have HB := n2_; have HI0 := n3_; clear n0_ n1_ n2_ n3_; (try clear hb); (try clear hb2); (try clear hk); (try clear hi)))
          go_loopg [3] k1 (fun kq v3 w' => ∃ (x3_2 : List Int) (x1001_2 : Int), Aside0 (spec_l13Runes.l1 kq x3_2 s0_0 x1001_2 = some (r1, r2)) ∧ Aside0 (kq ≤ k1) ∧ Aside0 (Kd.R (Kd.int .i64) 3 w' w.heap.size (fun _ => True) v3 x3_2) ∧ Aside0 (IsS71 w0 w' g s0_0 x1001_2) ∧ Aside0 (KeepBut w w' g none) ∧ Aside0 (Below w0.heap.size w0 w'))
          case atStart => exact ⟨(x3_1), (t414), H', ⟨Nat.le_refl _⟩, ⟨by (with_reducible repeat (first | apply Kd.R_alloc | apply Kd.R_drewN | apply Kd.R_drew)); exact HO_3.out⟩, ⟨by repeat (first | (with_reducible first | exact HI0.out | apply IsS71.alloc | apply IsS71.drewN | apply IsS71.drew | apply IsS71.set_1) | exact HI0.out)⟩, ⟨by repeat (first | (with_reducible first | exact HK.out | apply KeepBut.set_ | apply keep_drewN | apply keep_drew | apply keep_alloc) | exact HK.out)⟩, ⟨by repeat (first | (with_reducible first | exact HB.out | apply below_alloc | apply pw_below_drewN | apply below_drew1 | refine below_set ?_ (IsS71.ge HI0.out)) | exact HB.out)⟩⟩
          case round =>
            clear H'
            try clear c1
            try clear p2
            try clear c4
            try clear c6
            try clear c6b0
            try clear p6
            try clear c7
            try clear c8
            try clear c10
            try clear c12
            try clear c12b0
            try clear c12b1
            try clear p2
            obtain ⟨x3_2, x1001_2, HA, HK2, HO_3, HI0, HK, HB⟩ := hrel
            cases gk with
            | zero => exact absurd HA.out (by simp [spec_l13Runes.l1])
            | succ k2 =>
              have H := HA.out
              clear HA
              simp only [spec_l13Runes.l1] at H
              by_cases c14 : (x3_2.length : Int) < 80
              · rw [if_pos c14] at H
                have c14b0 : decide ((x3_2.length : Int) < 80) = true := decide_eq_true c14
                have c14b1 : decide (x3_2.length < 80) = true := decide_eq_true (by omega)
                clear c14
                obtain ⟨y415, hy415⟩ : ∃ y_ : List Int, y_ = (([8235, 8238, 8295, 1488, 97] : List Int)) := ⟨_, rfl⟩
                replace H : ((spec_l1Rd_one.f k2 s0_0 x1001_2 y415).bind fun bt418 => (if x3_2.length < 17592186044416 then (spec_l13Runes.l1 k2 (x3_2 ++ [bt418.1]) s0_0 bt418.2) else (none))) = some (r1, r2) := by first | (rw [hy415]; with_reducible exact H) | (have H2_ := (Option.bind_some _ _).symm.trans H; rw [hy415]; with_reducible exact H2_) | (have H2_ := (Option.bind_some _ _).symm.trans H; with_reducible exact H2_) | with_reducible exact H | (rw [hy415]; exact H) | exact H
                have Ny415 := Aside0.mk hy415
                clear hy415
                replace H := Option.bind_eq_some_iff.mp H
                obtain ⟨⟨t418, t419⟩, A150, H⟩ := H
                replace H : (if x3_2.length < 17592186044416 then (spec_l13Runes.l1 k2 (x3_2 ++ [t418]) s0_0 t419) else (none)) = some (r1, r2) := H
                have A15 := Aside0.mk A150
                clear A150
                by_cases c16 : x3_2.length < 17592186044416
                · rw [if_pos c16] at H
                  have LMc16 := Aside0.mk c16
                  clear c16
                  obtain ⟨y420, hy420⟩ : ∃ y_ : List Int, y_ = (x3_2 ++ [t418]) := ⟨_, rfl⟩
                  replace H : (spec_l13Runes.l1 k2 y420 s0_0 t419) = some (r1, r2) := by first | (rw [hy420]; with_reducible exact H) | (have H2_ := (Option.bind_some _ _).symm.trans H; rw [hy420]; with_reducible exact H2_) | (have H2_ := (Option.bind_some _ _).symm.trans H; with_reducible exact H2_) | with_reducible exact H | (rw [hy420]; exact H) | exact H
                  have Ny420 := Aside0.mk hy420
                  clear hy420
                  have H' := Aside0.mk H
                  clear H
                  obtain ⟨Ao17, co17, eo17⟩ := Kd.R_slice HO_3.out
                  subst eo17
                  go_wp2_with (first | ((with_reducible refine gate_dst (N := 25) rfl ?_); refine Kd.R_lit (Kd.int .i64) _ 3 ?hg (N := 25) ?hd (xs := ([8235, 8238, 8295, 1488, 97] : List Int)) (inner := [.int .i64 8235, .int .i64 8238, .int .i64 8295, .int .i64 1488, .int .i64 97]) (ok := fun _ => True) (okp := fun _ => True) ?hr ?hp (fun _ hk => hk) trivial (Below.refl _ _) (Nat.le_refl _) (by simp) ?_; (case hd => rfl); (case hg => rfl); (case hr => first | (go_simp; done) | (go_simp; rfl)); (case hp => exact (Reps.one (show Kd.M (Kd.int .i64) _ _ _ 8235 [.int .i64 8235] from rfl) (Reps.one (show Kd.M (Kd.int .i64) _ _ _ 8238 [.int .i64 8238] from rfl) (Reps.one (show Kd.M (Kd.int .i64) _ _ _ 8295 [.int .i64 8295] from rfl) (Reps.one (show Kd.M (Kd.int .i64) _ _ _ 1488 [.int .i64 1488] from rfl) (Reps.one (show Kd.M (Kd.int .i64) _ _ _ 97 [.int .i64 97] from rfl) (Reps.none _ _))))))); intro v416 w18 ho19 hb hg_ hnew_; clear hg_ hnew_; (first | rw [← Ny415.out] at ho19 | (simp only [Int.reduceToNat] at ho19; rw [← Ny415.out] at ho19)); have n0_ := Aside0.mk (Kd.R_elder' (by (with_reducible repeat (first | apply Kd.R_alloc | apply Kd.R_drewN | apply Kd.R_drew)); exact HO_3.out) (Kd.R_base ho19) hb); have n1_ := Aside0.mk (Kd.R_lower (Kd.R_new' ho19 (Kd.R_lt (by (with_reducible repeat (first | apply Kd.R_alloc | apply Kd.R_drewN | apply Kd.R_drew)); exact HO_3.out))) (keep_size (w := w) (g := g) (row := none) (by repeat (first | (with_reducible first | exact HK.out | apply KeepBut.set_ | apply keep_drewN | apply keep_drew | apply keep_alloc) | exact HK.out)))); have n2_ := Aside0.mk (IsS71.below (by repeat (first | (with_reducible first | exact HI0.out | apply IsS71.alloc | apply IsS71.drewN | apply IsS71.drew | apply IsS71.set_1) | exact HI0.out)) hb); have n3_ := Aside0.mk (KeepBut.trans (by repeat (first | (with_reducible first | exact HK.out | apply KeepBut.set_ | apply keep_drewN | apply keep_drew | apply keep_alloc) | exact HK.out)) (KeepBut.of_below hb g none) (.inl rfl)); have n4_ := Aside0.mk (below_step (by repeat (first | (with_reducible first | exact HB.out | apply below_alloc | apply pw_below_drewN | apply below_drew1 | refine below_set ?_ (IsS71.ge HI0.out)) | exact HB.out)) hb); clear HO_3; clear HI0; clear HK; clear HB; have HO_3 := n0_; have HO417 := n1_; have HI0 := n2_; have HK := n3_; have HB := n4_; clear n0_ n1_ n2_ n3_ n4_; clear hb ho19; obtain ⟨Ao20, co20, eo20⟩ := Kd.R_slice HO417.out; subst eo20) | ((with_reducible refine gate_callee (f := 70) rfl ?_); refine goesL_ (some 26) rfl rfl Try.func70 (by kernel_rfl) rfl #[.pointer (some ⟨g, 0, none⟩), .slice Ao20 y415.length co20] rfl (by (try simp only [List.map_toArray, List.map_cons, List.map_nil]); first | done | rfl | (simp only [List.length_drop, List.length_take]; rfl)) ?_; (with_reducible refine (spec_l1Rd_one.calls k2 g s0_0 x1001_2 _ _ y415 t418 t419 w0 _ ?side1 ?side2 ?side3 ?side4 ?side5 A15.out).mono ?_); (case side1 => repeat (first | (with_reducible first | exact HI0.out | apply IsS71.alloc | apply IsS71.drewN | apply IsS71.drew | apply IsS71.set_1) | exact HI0.out)); (case side2 => repeat (first | (with_reducible first | exact HB.out | apply below_alloc | apply pw_below_drewN | apply below_drew1 | refine below_set ?_ (IsS71.ge HI0.out)) | exact HB.out)); (case side3 => repeat (first | exact (Kd.R_reads' HO417.out).2.2 | (with_reducible refine Kd.C_alloc ?_ _) | (with_reducible refine Kd.C_drewN ?_ _) | (with_reducible refine Kd.C_drew ?_))); (case side4 => exact (Kd.R_reads' HO417.out).2.1); (case side5 => exact far_slice (IsS71.own_ne HI0.out HO417.out (by decide))); rintro e w21 ⟨rfl, hi, hb, hk⟩; refine ⟨_, rfl, ?_⟩; have n0_ := Aside0.mk (Kd.R_mono (Kd.R_keep (IsS71.apart (show IsS71 w0 _ g s0_0 x1001_2 from by repeat (first | (with_reducible first | exact HI0.out | apply IsS71.alloc | apply IsS71.drewN | apply IsS71.drew | apply IsS71.set_1) | exact HI0.out)) (by (with_reducible repeat (first | apply Kd.R_alloc | apply Kd.R_drewN | apply Kd.R_drew)); exact HO_3.out) (by decide)) hk (fun _ h => h.2)) (fun _ h => h.1)); have n1_ := Aside0.mk (Kd.R_mono (Kd.R_keep (IsS71.apart (show IsS71 w0 _ g s0_0 x1001_2 from by repeat (first | (with_reducible first | exact HI0.out | apply IsS71.alloc | apply IsS71.drewN | apply IsS71.drew | apply IsS71.set_1) | exact HI0.out)) (by (with_reducible repeat (first | apply Kd.R_alloc | apply Kd.R_drewN | apply Kd.R_drew)); exact HO417.out) (by decide)) hk (fun _ h => h.2)) (fun _ h => h.1)); have n2_ := Aside0.mk (KeepBut.trans (by repeat (first | (with_reducible first | exact HK.out | apply KeepBut.set_ | apply keep_drewN | apply keep_drew | apply keep_alloc) | exact HK.out)) hk (.inl rfl)); have n3_ := Aside0.mk (hb); have n4_ := Aside0.mk (hi); clear HO_3; clear HO417; clear HK; clear HB; clear HI0; have HO_3 := n0_; have HO417 := n1_; have HK := n2_; have HB := n3_; have HI0 := n4_; clear n0_ n1_ n2_ n3_ n4_; (try clear hb); (try clear hb2); (try clear hk); (try clear hi)) | ((with_reducible refine gate_builtin (b := .append) (xs := #[.tmp 23, .tmp 27]) rfl ?_); at_builtin; refine Kd.R_append (Kd.int .i64) w.heap.size rfl (.tmp 23) (.tmp 27) 22 3 (.int .i64 0) 8 rfl Try.underlying22 info3 rfl (by decide) (by omega) (.slice Ao17 x3_2.length co17) x3_2 t418 [.int .i64 t418] (fun k_ => some k_ ≠ (.slice Ao20 y415.length co20 : Value).ownBlock) (fun _ => False) rfl rfl ?aP (fun _ hk => hk.elim) ?aF ?aO (Below.refl _ _) ?aS ?aL ?_; (case aP => exact rfl); (case aF => exact (fun k_ hk => Kd.fresh' (Kd.R_lt (by (with_reducible repeat (first | apply Kd.R_alloc | apply Kd.R_drewN | apply Kd.R_drew)); exact HO417.out)) k_ hk)); (case aO => exact (by (with_reducible repeat (first | apply Kd.R_alloc | apply Kd.R_drewN | apply Kd.R_drew)); exact Kd.R_mono HO_3.out (fun _ hk => hk.2))); (case aS => exact (keep_size (w := w) (g := g) (row := none) (by repeat (first | (with_reducible first | exact HK.out | apply KeepBut.set_ | apply keep_drewN | apply keep_drew | apply keep_alloc) | exact HK.out)))); (case aL => have := LMc16.out; omega); intro v421 w22 ho hb hg hat; rw [← Ny420.out] at ho; have n0_ := Aside0.mk (IsS71.grown (by repeat (first | (with_reducible first | exact HI0.out | apply IsS71.alloc | apply IsS71.drewN | apply IsS71.drew | apply IsS71.set_1) | exact HI0.out)) hg (IsS71.own_ne HI0.out HO_3.out (by decide))); have n1_ := Aside0.mk (Kd.R_after (ok := (fun _ => True)) (by (with_reducible repeat (first | apply Kd.R_alloc | apply Kd.R_drewN | apply Kd.R_drew)); exact HO417.out) hg hat); have n2_ := Aside0.mk (below_weaken (by repeat (first | (with_reducible first | exact HB.out | apply below_alloc | apply pw_below_drewN | apply below_drew1 | refine below_set ?_ (IsS71.ge HI0.out)) | exact HB.out)) HL.out hb); have n3_ := Aside0.mk (KeepBut.trans (by repeat (first | (with_reducible first | exact HK.out | apply KeepBut.set_ | apply keep_drewN | apply keep_drew | apply keep_alloc) | exact HK.out)) (KeepBut.of_grown hg g) (Kd.R_base2 HO_3.out)); have n4_ := Aside0.mk (ho); clear HI0; clear HO417; clear HB; clear HK; clear HO_3; have HI0 := n0_; have HO417 := n1_; have HB := n2_; have HK := n3_; have HO422 := n4_; clear n0_ n1_ n2_ n3_ n4_; clear ho hb hg hat))
                  go_roundg k2
                  case measure => have := HK1.out; have := HK2.out; omega
                  case rel => exact ⟨(y420), (t419), H', ⟨by have := HK1.out; have := HK2.out; omega⟩, ⟨by (with_reducible repeat (first | apply Kd.R_alloc | apply Kd.R_drewN | apply Kd.R_drew)); exact Kd.R_mono HO422.out (fun _ hk => trivial)⟩, ⟨by repeat (first | (with_reducible first | exact HI0.out | apply IsS71.alloc | apply IsS71.drewN | apply IsS71.drew | apply IsS71.set_1) | exact HI0.out)⟩, ⟨by repeat (first | (with_reducible first | exact HK.out | apply KeepBut.set_ | apply keep_drewN | apply keep_drew | apply keep_alloc) | exact HK.out)⟩, ⟨by repeat (first | (with_reducible first | exact HB.out | apply below_alloc | apply pw_below_drewN | apply below_drew1 | refine below_set ?_ (IsS71.ge HI0.out)) | exact HB.out)⟩⟩
                · rw [if_neg c16] at H
                  exact absurd H (by simp)
              · rw [if_neg c14] at H
                have c14b0 : decide ((x3_2.length : Int) < 80) = false := decide_eq_false c14
                have c14b1 : decide (x3_2.length < 80) = false := decide_eq_false (by omega)
                clear c14
                simp only [Option.some.injEq, Prod.mk.injEq] at H
                obtain ⟨rfl, rfl⟩ := H
                obtain ⟨Ao23, co23, eo23⟩ := Kd.R_slice HO_3.out
                subst eo23
                go_wp2
                go_ret
                exact ⟨_, by first | rfl | (simp [errW_none, errW_some] <;> rfl) | (simp [*, errW_none, errW_some] <;> rfl), by (with_reducible repeat (first | apply Kd.R_alloc | apply Kd.R_drewN | apply Kd.R_drew)); exact HO_3.out, by repeat (first | (with_reducible first | exact HI0.out | apply IsS71.alloc | apply IsS71.drewN | apply IsS71.drew | apply IsS71.set_1) | exact HI0.out), by repeat (first | (with_reducible first | exact HB.out | apply below_alloc | apply pw_below_drewN | apply below_drew1 | refine below_set ?_ (IsS71.ge HI0.out)) | exact HB.out), by repeat (first | (with_reducible first | exact HK.out | apply KeepBut.set_ | apply keep_drewN | apply keep_drew | apply keep_alloc) | exact HK.out)⟩
        · rw [if_neg c12] at H
          have c12b0 : (t413 == 0) = false := beq_eq_false_iff_ne.mpr c12
          have c12b1 : (t413 != 0) = true := bne_iff_ne.mpr c12
          simp only [Option.some.injEq, Prod.mk.injEq] at H
          obtain ⟨rfl, rfl⟩ := H
          go_wp2_with (first | ((with_reducible refine gate_callee (f := 44) rfl ?_); refine goesL_ (some 18) rfl rfl Try.func44 (by kernel_rfl) rfl #[.pointer (some ⟨g, 0, none⟩), .int .i64 24] rfl (by (try simp only [List.map_toArray, List.map_cons, List.map_nil]); first | done | rfl | (simp only [List.length_drop, List.length_take]; rfl)) ?_; (with_reducible refine (spec_l1Rd_pick.calls k1 g s0_0 x1001_1 24 t413 t414 w0 _ ?side1 ?side2 A11.out).mono ?_); (case side1 => repeat (first | (with_reducible first | exact HI0.out | apply IsS71.alloc | apply IsS71.drewN | apply IsS71.drew | apply IsS71.set_1) | exact HI0.out)); (case side2 => repeat (first | (with_reducible first | exact HB.out | apply below_alloc | apply pw_below_drewN | apply below_drew1 | refine below_set ?_ (IsS71.ge HI0.out)) | exact HB.out)); rintro e w24 ⟨rfl, hi, hb, hk⟩; refine ⟨_, rfl, ?_⟩; have n0_ := Aside0.mk (Kd.R_mono (Kd.R_keep (IsS71.apart (show IsS71 w0 _ g s0_0 x1001_1 from by repeat (first | (with_reducible first | exact HI0.out | apply IsS71.alloc | apply IsS71.drewN | apply IsS71.drew | apply IsS71.set_1) | exact HI0.out)) (by (with_reducible repeat (first | apply Kd.R_alloc | apply Kd.R_drewN | apply Kd.R_drew)); exact HO_3.out) (by decide)) hk (fun _ h => h.2)) (fun _ h => h.1)); have n1_ := Aside0.mk (KeepBut.trans (by repeat (first | (with_reducible first | exact HK.out | apply KeepBut.set_ | apply keep_drewN | apply keep_drew | apply keep_alloc) | exact HK.out)) hk (.inl rfl)); have n2_ := Aside0.mk (hb); have n3_ := Aside0.mk (hi); clear HO_3; clear HK; clear HB; clear HI0; have HO_3 := n0_; have HK := n1_; have HB := n2_; have HI0 := n3_; clear n0_ n1_ n2_ n3_; (try clear hb); (try clear hb2); (try clear hk); (try clear hi)))
          go_ret
          exact ⟨_, by first | rfl | (simp [errW_none, errW_some] <;> rfl) | (simp [*, errW_none, errW_some] <;> rfl), by (with_reducible repeat (first | apply Kd.R_alloc | apply Kd.R_drewN | apply Kd.R_drew)); exact HO_3.out, by repeat (first | (with_reducible first | exact HI0.out | apply IsS71.alloc | apply IsS71.drewN | apply IsS71.drew | apply IsS71.set_1) | exact HI0.out), by repeat (first | (with_reducible first | exact HB.out | apply below_alloc | apply pw_below_drewN | apply below_drew1 | refine below_set ?_ (IsS71.ge HI0.out)) | exact HB.out), by repeat (first | (with_reducible first | exact HK.out | apply KeepBut.set_ | apply keep_drewN | apply keep_drew | apply keep_alloc) | exact HK.out)⟩

end Go.Proofs.Ytojehfdioeglgaa.S

namespace Go.Proofs.Ytojehfdioeglgaa.S
open Go.RowKit Go.Proofs.YtojehfdioeglgaaW.PrintWords Go.Proofs.YtojehfdioeglgaaW.PrintLast Go.Proofs.YtojehfdioeglgaaW.PrintMore
attribute [local go_sem] max2_int min2_int max_two min_two max_three min_three max_four min_four   -- for this text's walks alone
set_option linter.unusedVariables false
set_option linter.unusedSimpArgs false

/-! ### spec_l13Any: function 51 -/
def spec_l13Any.l0 : Nat → List Int → List Int → Int → Option (List Int × Int)
  | 0, _, _, _ => none
  | k + 1, x3, x1000, x1001 => if (x3.length : Int) ≤ 80 then (if x3.length < 17592186044416 then (spec_l13Any.l0 k (x3 ++ [97]) x1000 x1001) else (none)) else (some (x3, x1001))
def spec_l13Any.f (k : Nat) (s0_0 : List Int) (s0_1 : Int) : Option (List Int × Int) := (spec_l13Runes.f k s0_0 s0_1).bind fun bt423 => ((spec_l1Rd_pick.f k s0_0 bt423.2 24).bind fun bt427 => (if bt427.1 = 0 then ((spec_l1Rd_one.f k s0_0 bt427.2 (([(-1), 55296, 57343, 1114112] : List Int))).bind fun bt432 => (if bt423.1.length < 17592186044416 then (some ((bt423.1 ++ [bt432.1]), bt432.2)) else (none))) else (if bt427.1 = 1 then (spec_l13Any.l0 k bt423.1 s0_0 bt427.2) else (some (bt423.1, bt427.2)))))
theorem spec_l13Any.mono_l : ∀ k, (∀ y0 y1 y2, LeO (spec_l13Any.l0 k y0 y1 y2) (spec_l13Any.l0 (k + 1) y0 y1 y2))
  | 0 => fun _ _ _ r h => by simp [spec_l13Any.l0] at h
  | k + 1 => by
    have ih0 := spec_l13Any.mono_l k
    · intro y0 y1 y2
      unfold spec_l13Any.l0
      repeat' first
      | (with_reducible exact ih0 _ _ _)
      | (with_reducible exact spec_l13Runes.mono _ _ _)
      | (with_reducible exact spec_l1Rd_one.mono _ _ _ _)
      | (with_reducible exact spec_l1Rd_pick.mono _ _ _ _)
      | (with_reducible exact LeO.refl _)
      | (with_reducible exact LeO.none _)
      | (with_reducible refine LeO.ite ?_ ?_)
      | (with_reducible refine LeO.bind ?_ (fun _ => ?_))
      | exact ih0 _ _ _
      | exact spec_l13Runes.mono _ _ _
      | exact spec_l1Rd_one.mono _ _ _ _
      | exact spec_l1Rd_pick.mono _ _ _ _
      | exact LeO.none _
      | refine LeO.ite ?_ ?_
      | refine LeO.bind ?_ (fun _ => ?_)
theorem spec_l13Any.mono : ∀ a0 a1 k, LeO (spec_l13Any.f k a0 a1) (spec_l13Any.f (k + 1) a0 a1) := by
  intro a0 a1 k
  have ih0 := spec_l13Any.mono_l k
  unfold spec_l13Any.f
  repeat' first
      | (with_reducible exact ih0 _ _ _)
      | (with_reducible exact spec_l13Runes.mono _ _ _)
      | (with_reducible exact spec_l1Rd_one.mono _ _ _ _)
      | (with_reducible exact spec_l1Rd_pick.mono _ _ _ _)
      | (with_reducible exact LeO.refl _)
      | (with_reducible exact LeO.none _)
      | (with_reducible refine LeO.ite ?_ ?_)
      | (with_reducible refine LeO.bind ?_ (fun _ => ?_))
      | exact ih0 _ _ _
      | exact spec_l13Runes.mono _ _ _
      | exact spec_l1Rd_one.mono _ _ _ _
      | exact spec_l1Rd_pick.mono _ _ _ _
      | exact LeO.none _
      | refine LeO.ite ?_ ?_
      | refine LeO.bind ?_ (fun _ => ?_)
set_option maxHeartbeats 8000000 in
set_option maxRecDepth 100000 in
theorem spec_l13Any.calls (k : Nat) (g : Nat) (s0_0 : List Int) (s0_1 : Int) (r1 : List Int) (r2 : Int) (w0 w : World) (hI : IsS71 w0 w g s0_0 s0_1) (hB : Below w0.heap.size w0 w) (h : spec_l13Any.f k s0_0 s0_1 = some (r1, r2)) :
    Calls Try.prog 51 #[.pointer (some ⟨g, 0, none⟩)] w fun e w' => ∃ v0_ : Value, e = .returned (v0_) ∧ Kd.R (Kd.int .i64) 3 w' w.heap.size (fun _ => True) v0_ r1 ∧ IsS71 w0 w' g s0_0 r2 ∧ Below w0.heap.size w0 w' ∧ KeepBut w w' g none := by
  have HI0 := Aside0.mk hI
  have HK := Aside0.mk (KeepBut.refl w g none)
  have HL := Aside0.mk hB.size
  clear hI
  have HW0 := Aside0.mk hB.size
  have HB := Aside0.mk hB
  clear hB
  have H : ((spec_l13Runes.f k s0_0 s0_1).bind fun bt423 => ((spec_l1Rd_pick.f k s0_0 bt423.2 24).bind fun bt427 => (if bt427.1 = 0 then ((spec_l1Rd_one.f k s0_0 bt427.2 (([(-1), 55296, 57343, 1114112] : List Int))).bind fun bt432 => (if bt423.1.length < 17592186044416 then (some ((bt423.1 ++ [bt432.1]), bt432.2)) else (none))) else (if bt427.1 = 1 then (spec_l13Any.l0 k bt423.1 s0_0 bt427.2) else (some (bt423.1, bt427.2)))))) = some (r1, r2) := h
  clear h
  replace H := Option.bind_eq_some_iff.mp H
  obtain ⟨⟨t423, t426⟩, A20, H⟩ := H
  replace H : ((spec_l1Rd_pick.f k s0_0 t426 24).bind fun bt427 => (if bt427.1 = 0 then ((spec_l1Rd_one.f k s0_0 bt427.2 (([(-1), 55296, 57343, 1114112] : List Int))).bind fun bt432 => (if t423.length < 17592186044416 then (some ((t423 ++ [bt432.1]), bt432.2)) else (none))) else (if bt427.1 = 1 then (spec_l13Any.l0 k t423 s0_0 bt427.2) else (some (t423, bt427.2))))) = some (r1, r2) := H
  have A2 := Aside0.mk A20
  clear A20
  replace H := Option.bind_eq_some_iff.mp H
  obtain ⟨⟨t427, t428⟩, A30, H⟩ := H
  replace H : (if t427 = 0 then ((spec_l1Rd_one.f k s0_0 t428 (([(-1), 55296, 57343, 1114112] : List Int))).bind fun bt432 => (if t423.length < 17592186044416 then (some ((t423 ++ [bt432.1]), bt432.2)) else (none))) else (if t427 = 1 then (spec_l13Any.l0 k t423 s0_0 t428) else (some (t423, t428)))) = some (r1, r2) := H
  have A3 := Aside0.mk A30
  clear A30
  by_cases c4 : t427 = 0
  · rw [if_pos c4] at H
    have c4b0 : (t427 == 0) = true := beq_iff_eq.mpr c4
    have c4b1 : (t427 != 0) = false := bne_eq_false_iff_eq.mpr c4
    clear c4
    obtain ⟨y429, hy429⟩ : ∃ y_ : List Int, y_ = (([(-1), 55296, 57343, 1114112] : List Int)) := ⟨_, rfl⟩
    replace H : ((spec_l1Rd_one.f k s0_0 t428 y429).bind fun bt432 => (if t423.length < 17592186044416 then (some ((t423 ++ [bt432.1]), bt432.2)) else (none))) = some (r1, r2) := by first | (rw [hy429]; with_reducible exact H) | (have H2_ := (Option.bind_some _ _).symm.trans H; rw [hy429]; with_reducible exact H2_) | (have H2_ := (Option.bind_some _ _).symm.trans H; with_reducible exact H2_) | with_reducible exact H | (rw [hy429]; exact H) | exact H
    have Ny429 := Aside0.mk hy429
    clear hy429
    replace H := Option.bind_eq_some_iff.mp H
    obtain ⟨⟨t432, t433⟩, A50, H⟩ := H
    replace H : (if t423.length < 17592186044416 then (some ((t423 ++ [t432]), t433)) else (none)) = some (r1, r2) := H
    have A5 := Aside0.mk A50
    clear A50
    by_cases c6 : t423.length < 17592186044416
    · rw [if_pos c6] at H
      have LMc6 := Aside0.mk c6
      clear c6
      obtain ⟨y434, hy434⟩ : ∃ y_ : List Int, y_ = (t423 ++ [t432]) := ⟨_, rfl⟩
      replace H : (some (y434, t433)) = some (r1, r2) := by first | (rw [hy434]; with_reducible exact H) | (have H2_ := (Option.bind_some _ _).symm.trans H; rw [hy434]; with_reducible exact H2_) | (have H2_ := (Option.bind_some _ _).symm.trans H; with_reducible exact H2_) | with_reducible exact H | (rw [hy434]; exact H) | exact H
      have Ny434 := Aside0.mk hy434
      clear hy434
      simp only [Option.some.injEq, Prod.mk.injEq] at H
      obtain ⟨rfl, rfl⟩ := H
      go_enter Try.func51, Try.ntmps51
      go_wp2_with (first | ((with_reducible refine gate_callee (f := 79) rfl ?_); refine goesL_ (some 5) rfl rfl Try.func79 (by kernel_rfl) rfl #[.pointer (some ⟨g, 0, none⟩)] rfl (by (try simp only [List.map_toArray, List.map_cons, List.map_nil]); first | done | rfl | (simp only [List.length_drop, List.length_take]; rfl)) ?_; (with_reducible refine (spec_l13Runes.calls k g s0_0 s0_1 t423 t426 w0 _ ?side1 ?side2 A2.out).mono ?_); (case side1 => repeat (first | (with_reducible first | exact HI0.out | apply IsS71.alloc | apply IsS71.drewN | apply IsS71.drew | apply IsS71.set_1) | exact HI0.out)); (case side2 => repeat (first | (with_reducible first | exact HB.out | apply below_alloc | apply pw_below_drewN | apply below_drew1 | refine below_set ?_ (IsS71.ge HI0.out)) | exact HB.out)); rintro e w7 ⟨v424, rfl, ho0, hi, hb, hk⟩; refine ⟨_, rfl, ?_⟩; have n0_ := Aside0.mk (Kd.R_lower ho0 (keep_size (w := w) (g := g) (row := none) (by repeat (first | (with_reducible first | exact HK.out | apply KeepBut.set_ | apply keep_drewN | apply keep_drew | apply keep_alloc) | exact HK.out)))); have n1_ := Aside0.mk (KeepBut.trans (by repeat (first | (with_reducible first | exact HK.out | apply KeepBut.set_ | apply keep_drewN | apply keep_drew | apply keep_alloc) | exact HK.out)) hk (.inl rfl)); have n2_ := Aside0.mk (hb); have n3_ := Aside0.mk (hi); clear HK; clear HB; clear HI0; have HO425 := n0_; have HK := n1_; have HB := n2_; have HI0 := n3_; clear n0_ n1_ n2_ n3_; (try clear hb); (try clear hb2); (try clear hk); (try clear hi); (try clear ho0)) | ((with_reducible refine gate_callee (f := 44) rfl ?_); refine goesL_ (some 7) rfl rfl Try.func44 (by kernel_rfl) rfl #[.pointer (some ⟨g, 0, none⟩), .int .i64 24] rfl (by (try simp only [List.map_toArray, List.map_cons, List.map_nil]); first | done | rfl | (simp only [List.length_drop, List.length_take]; rfl)) ?_; (with_reducible refine (spec_l1Rd_pick.calls k g s0_0 t426 24 t427 t428 w0 _ ?side1 ?side2 A3.out).mono ?_); (case side1 => repeat (first | (with_reducible first | exact HI0.out | apply IsS71.alloc | apply IsS71.drewN | apply IsS71.drew | apply IsS71.set_1) | exact HI0.out)); (case side2 => repeat (first | (with_reducible first | exact HB.out | apply below_alloc | apply pw_below_drewN | apply below_drew1 | refine below_set ?_ (IsS71.ge HI0.out)) | exact HB.out)); rintro e w8 ⟨rfl, hi, hb, hk⟩; refine ⟨_, rfl, ?_⟩; have n0_ := Aside0.mk (Kd.R_mono (Kd.R_keep (IsS71.apart (show IsS71 w0 _ g s0_0 t426 from by repeat (first | (with_reducible first | exact HI0.out | apply IsS71.alloc | apply IsS71.drewN | apply IsS71.drew | apply IsS71.set_1) | exact HI0.out)) (by (with_reducible repeat (first | apply Kd.R_alloc | apply Kd.R_drewN | apply Kd.R_drew)); exact HO425.out) (by decide)) hk (fun _ h => h.2)) (fun _ h => h.1)); have n1_ := Aside0.mk (KeepBut.trans (by repeat (first | (with_reducible first | exact HK.out | apply KeepBut.set_ | apply keep_drewN | apply keep_drew | apply keep_alloc) | exact HK.out)) hk (.inl rfl)); have n2_ := Aside0.mk (hb); have n3_ := Aside0.mk (hi); clear HO425; clear HK; clear HB; clear HI0; have HO425 := n0_; have HK := n1_; have HB := n2_; have HI0 := n3_; clear n0_ n1_ n2_ n3_; (try clear hb); (try clear hb2); (try clear hk); (try clear hi)) | ((with_reducible refine gate_dst (N := 12) rfl ?_); refine Kd.R_lit (Kd.int .i64) _ 3 ?hg (N := 12) ?hd (xs := ([(-1), 55296, 57343, 1114112] : List Int)) (inner := [.int .i64 (-1), .int .i64 55296, .int .i64 57343, .int .i64 1114112]) (ok := fun _ => True) (okp := fun _ => True) ?hr ?hp (fun _ hk => hk) trivial (Below.refl _ _) (Nat.le_refl _) (by simp) ?_; (case hd => rfl); (case hg => rfl); (case hr => first | (go_simp; done) | (go_simp; rfl)); (case hp => exact (Reps.one (show Kd.M (Kd.int .i64) _ _ _ (-1) [.int .i64 (-1)] from rfl) (Reps.one (show Kd.M (Kd.int .i64) _ _ _ 55296 [.int .i64 55296] from rfl) (Reps.one (show Kd.M (Kd.int .i64) _ _ _ 57343 [.int .i64 57343] from rfl) (Reps.one (show Kd.M (Kd.int .i64) _ _ _ 1114112 [.int .i64 1114112] from rfl) (Reps.none _ _)))))); intro v430 w9 ho10 hb hg_ hnew_; clear hg_ hnew_; (first | rw [← Ny429.out] at ho10 | (simp only [Int.reduceToNat] at ho10; rw [← Ny429.out] at ho10)); have n0_ := Aside0.mk (Kd.R_elder' (by (with_reducible repeat (first | apply Kd.R_alloc | apply Kd.R_drewN | apply Kd.R_drew)); exact HO425.out) (Kd.R_base ho10) hb); have n1_ := Aside0.mk (Kd.R_lower (Kd.R_new' ho10 (Kd.R_lt (by (with_reducible repeat (first | apply Kd.R_alloc | apply Kd.R_drewN | apply Kd.R_drew)); exact HO425.out))) (keep_size (w := w) (g := g) (row := none) (by repeat (first | (with_reducible first | exact HK.out | apply KeepBut.set_ | apply keep_drewN | apply keep_drew | apply keep_alloc) | exact HK.out)))); have n2_ := Aside0.mk (IsS71.below (by repeat (first | (with_reducible first | exact HI0.out | apply IsS71.alloc | apply IsS71.drewN | apply IsS71.drew | apply IsS71.set_1) | exact HI0.out)) hb); have n3_ := Aside0.mk (KeepBut.trans (by repeat (first | (with_reducible first | exact HK.out | apply KeepBut.set_ | apply keep_drewN | apply keep_drew | apply keep_alloc) | exact HK.out)) (KeepBut.of_below hb g none) (.inl rfl)); have n4_ := Aside0.mk (below_step (by repeat (first | (with_reducible first | exact HB.out | apply below_alloc | apply pw_below_drewN | apply below_drew1 | refine below_set ?_ (IsS71.ge HI0.out)) | exact HB.out)) hb); clear HO425; clear HI0; clear HK; clear HB; have HO425 := n0_; have HO431 := n1_; have HI0 := n2_; have HK := n3_; have HB := n4_; clear n0_ n1_ n2_ n3_ n4_; clear hb ho10; obtain ⟨Ao11, co11, eo11⟩ := Kd.R_slice HO431.out; subst eo11) | ((with_reducible refine gate_callee (f := 70) rfl ?_); refine goesL_ (some 13) rfl rfl Try.func70 (by kernel_rfl) rfl #[.pointer (some ⟨g, 0, none⟩), .slice Ao11 y429.length co11] rfl (by (try simp only [List.map_toArray, List.map_cons, List.map_nil]); first | done | rfl | (simp only [List.length_drop, List.length_take]; rfl)) ?_; (with_reducible refine (spec_l1Rd_one.calls k g s0_0 t428 _ _ y429 t432 t433 w0 _ ?side1 ?side2 ?side3 ?side4 ?side5 A5.out).mono ?_); (case side1 => repeat (first | (with_reducible first | exact HI0.out | apply IsS71.alloc | apply IsS71.drewN | apply IsS71.drew | apply IsS71.set_1) | exact HI0.out)); (case side2 => repeat (first | (with_reducible first | exact HB.out | apply below_alloc | apply pw_below_drewN | apply below_drew1 | refine below_set ?_ (IsS71.ge HI0.out)) | exact HB.out)); (case side3 => repeat (first | exact (Kd.R_reads' HO431.out).2.2 | (with_reducible refine Kd.C_alloc ?_ _) | (with_reducible refine Kd.C_drewN ?_ _) | (with_reducible refine Kd.C_drew ?_))); (case side4 => exact (Kd.R_reads' HO431.out).2.1); (case side5 => exact far_slice (IsS71.own_ne HI0.out HO431.out (by decide))); rintro e w12 ⟨rfl, hi, hb, hk⟩; refine ⟨_, rfl, ?_⟩; have n0_ := Aside0.mk (Kd.R_mono (Kd.R_keep (IsS71.apart (show IsS71 w0 _ g s0_0 t428 from by repeat (first | (with_reducible first | exact HI0.out | apply IsS71.alloc | apply IsS71.drewN | apply IsS71.drew | apply IsS71.set_1) | exact HI0.out)) (by (with_reducible repeat (first | apply Kd.R_alloc | apply Kd.R_drewN | apply Kd.R_drew)); exact HO425.out) (by decide)) hk (fun _ h => h.2)) (fun _ h => h.1)); have n1_ := Aside0.mk (Kd.R_mono (Kd.R_keep (IsS71.apart (show IsS71 w0 _ g s0_0 t428 from by repeat (first | (with_reducible first | exact HI0.out | apply IsS71.alloc | apply IsS71.drewN | apply IsS71.drew | apply IsS71.set_1) | exact HI0.out)) (by (with_reducible repeat (first | apply Kd.R_alloc | apply Kd.R_drewN | apply Kd.R_drew)); exact HO431.out) (by decide)) hk (fun _ h => h.2)) (fun _ h => h.1)); have n2_ := Aside0.mk (KeepBut.trans (by repeat (first | (with_reducible first | exact HK.out | apply KeepBut.set_ | apply keep_drewN | apply keep_drew | apply keep_alloc) | exact HK.out)) hk (.inl rfl)); have n3_ := Aside0.mk (hb); have n4_ := Aside0.mk (hi); clear HO425; clear HO431; clear HK; clear HB; clear HI0; have HO425 := n0_; have HO431 := n1_; have HK := n2_; have HB := n3_; have HI0 := n4_; clear n0_ n1_ n2_ n3_ n4_; (try clear hb); (try clear hb2); (try clear hk); (try clear hi)) | ((with_reducible refine gate_builtin (b := .append) (xs := #[.tmp 10, .tmp 14]) rfl ?_); at_builtin; refine Kd.R_append (Kd.int .i64) w.heap.size rfl (.tmp 10) (.tmp 14) 22 3 (.int .i64 0) 8 rfl Try.underlying22 info3 rfl (by decide) (by omega) v424 t423 t432 [.int .i64 t432] (fun k_ => some k_ ≠ (.slice Ao11 y429.length co11 : Value).ownBlock) (fun _ => False) rfl rfl ?aP (fun _ hk => hk.elim) ?aF ?aO (Below.refl _ _) ?aS ?aL ?_; (case aP => exact rfl); (case aF => exact (fun k_ hk => Kd.fresh' (Kd.R_lt (by (with_reducible repeat (first | apply Kd.R_alloc | apply Kd.R_drewN | apply Kd.R_drew)); exact HO431.out)) k_ hk)); (case aO => exact (by (with_reducible repeat (first | apply Kd.R_alloc | apply Kd.R_drewN | apply Kd.R_drew)); exact Kd.R_mono HO425.out (fun _ hk => hk.2))); (case aS => exact (keep_size (w := w) (g := g) (row := none) (by repeat (first | (with_reducible first | exact HK.out | apply KeepBut.set_ | apply keep_drewN | apply keep_drew | apply keep_alloc) | exact HK.out)))); (case aL => have := LMc6.out; omega); intro v435 w13 ho hb hg hat; rw [← Ny434.out] at ho; have n0_ := Aside0.mk (IsS71.grown (by repeat (first | (with_reducible first | exact HI0.out | apply IsS71.alloc | apply IsS71.drewN | apply IsS71.drew | apply IsS71.set_1) | exact HI0.out)) hg (IsS71.own_ne HI0.out HO425.out (by decide))); have n1_ := Aside0.mk (Kd.R_after (ok := (fun _ => True)) (by (with_reducible repeat (first | apply Kd.R_alloc | apply Kd.R_drewN | apply Kd.R_drew)); exact HO431.out) hg hat); have n2_ := Aside0.mk (below_weaken (by repeat (first | (with_reducible first | exact HB.out | apply below_alloc | apply pw_below_drewN | apply below_drew1 | refine below_set ?_ (IsS71.ge HI0.out)) | exact HB.out)) HL.out hb); have n3_ := Aside0.mk (KeepBut.trans (by repeat (first | (with_reducible first | exact HK.out | apply KeepBut.set_ | apply keep_drewN | apply keep_drew | apply keep_alloc) | exact HK.out)) (KeepBut.of_grown hg g) (Kd.R_base2 HO425.out)); have n4_ := Aside0.mk (ho); clear HI0; clear HO431; clear HB; clear HK; clear HO425; have HI0 := n0_; have HO431 := n1_; have HB := n2_; have HK := n3_; have HO436 := n4_; clear n0_ n1_ n2_ n3_ n4_; clear ho hb hg hat))
      go_ret
      exact ⟨_, by first | rfl | (simp [errW_none, errW_some] <;> rfl) | (simp [*, errW_none, errW_some] <;> rfl), by (with_reducible repeat (first | apply Kd.R_alloc | apply Kd.R_drewN | apply Kd.R_drew)); exact Kd.R_mono HO436.out (fun _ hk => trivial), by repeat (first | (with_reducible first | exact HI0.out | apply IsS71.alloc | apply IsS71.drewN | apply IsS71.drew | apply IsS71.set_1) | exact HI0.out), by repeat (first | (with_reducible first | exact HB.out | apply below_alloc | apply pw_below_drewN | apply below_drew1 | refine below_set ?_ (IsS71.ge HI0.out)) | exact HB.out), by repeat (first | (with_reducible first | exact HK.out | apply KeepBut.set_ | apply keep_drewN | apply keep_drew | apply keep_alloc) | exact HK.out)⟩
    · rw [if_neg c6] at H
      exact absurd H (by simp)
  · rw [if_neg c4] at H
    have c4b0 : (t427 == 0) = false := beq_eq_false_iff_ne.mpr c4
    have c4b1 : (t427 != 0) = true := bne_iff_ne.mpr c4
    by_cases c14 : t427 = 1
    · rw [if_pos c14] at H
      have c14b0 : (t427 == 1) = true := beq_iff_eq.mpr c14
      have c14b1 : (t427 != 1) = false := bne_eq_false_iff_eq.mpr c14
      clear c14
      have H' := Aside0.mk H
      clear H
      go_enter Try.func51, Try.ntmps51
      go_wp2_with (first | ((with_reducible refine gate_callee (f := 79) rfl ?_); refine goesL_ (some 5) rfl rfl Try.func79 (by kernel_rfl) rfl #[.pointer (some ⟨g, 0, none⟩)] rfl (by (try simp only [List.map_toArray, List.map_cons, List.map_nil]); first | done | rfl | (simp only [List.length_drop, List.length_take]; rfl)) ?_; (with_reducible refine (spec_l13Runes.calls k g s0_0 s0_1 t423 t426 w0 _ ?side1 ?side2 A2.out).mono ?_); (case side1 => repeat (first | (with_reducible first | exact HI0.out | apply IsS71.alloc | apply IsS71.drewN | apply IsS71.drew | apply IsS71.set_1) | exact HI0.out)); (case side2 => repeat (first | (with_reducible first | exact HB.out | apply below_alloc | apply pw_below_drewN | apply below_drew1 | refine below_set ?_ (IsS71.ge HI0.out)) | exact HB.out)); rintro e w15 ⟨v424, rfl, ho0, hi, hb, hk⟩; refine ⟨_, rfl, ?_⟩; have n0_ := Aside0.mk (Kd.R_lower ho0 (keep_size (w := w) (g := g) (row := none) (by repeat (first | (with_reducible first | exact HK.out | apply KeepBut.set_ | apply keep_drewN | apply keep_drew | apply keep_alloc) | exact HK.out)))); have n1_ := Aside0.mk (KeepBut.trans (by repeat (first | (with_reducible first | exact HK.out | apply KeepBut.set_ | apply keep_drewN | apply keep_drew | apply keep_alloc) | exact HK.out)) hk (.inl rfl)); have n2_ := Aside0.mk (hb); have n3_ := Aside0.mk (hi); clear HK; clear HB; clear HI0; have HO425 := n0_; have HK := n1_; have HB := n2_; have HI0 := n3_; clear n0_ n1_ n2_ n3_; (try clear hb); (try clear hb2); (try clear hk); (try clear hi); (try clear ho0)) | ((with_reducible refine gate_callee (f := 44) rfl ?_); refine goesL_ (some 7) rfl rfl Try.func44 (by kernel_rfl) rfl #[.pointer (some ⟨g, 0, none⟩), .int .i64 24] rfl (by (try simp only [List.map_toArray, List.map_cons, List.map_nil]); first | done | rfl | (simp only [List.length_drop, List.length_take]; rfl)) ?_; (with_reducible refine (spec_l1Rd_pick.calls k g s0_0 t426 24 t427 t428 w0 _ ?side1 ?side2 A3.out).mono ?_); (case side1 => repeat (first | (with_reducible first | exact HI0.out | apply IsS71.alloc | apply IsS71.drewN | apply IsS71.drew | apply IsS71.set_1) | exact HI0.out)); (case side2 => repeat (first | (with_reducible first | exact HB.out | apply below_alloc | apply pw_below_drewN | apply below_drew1 | refine below_set ?_ (IsS71.ge HI0.out)) | exact HB.out)); rintro e w16 ⟨rfl, hi, hb, hk⟩; refine ⟨_, rfl, ?_⟩; have n0_ := Aside0.mk (Kd.R_mono (Kd.R_keep (IsS71.apart (show IsS71 w0 _ g s0_0 t426 from by repeat (first | (with_reducible first | exact HI0.out | apply IsS71.alloc | apply IsS71.drewN | apply IsS71.drew | apply IsS71.set_1) | exact HI0.out)) (by (with_reducible repeat (first | apply Kd.R_alloc | apply Kd.R_drewN | apply Kd.R_drew)); exact HO425.out) (by decide)) hk (fun _ h => h.2)) (fun _ h => h.1)); have n1_ := Aside0.mk (KeepBut.trans (by repeat (first | (with_reducible first | exact HK.out | apply KeepBut.set_ | apply keep_drewN | apply keep_drew | apply keep_alloc) | exact HK.out)) hk (.inl rfl)); have n2_ := Aside0.mk (hb); have n3_ := Aside0.mk (hi); clear HO425; clear HK; clear HB; clear HI0; have HO425 := n0_; have HK := n1_; have HB := n2_; have HI0 := n3_; clear n0_ n1_ n2_ n3_; (try clear hb); (try clear hb2); (try clear hk); (try clear hi)))
      go_loopg [3] k (fun kq v3 w' => ∃ (x3_1 : List Int), Aside0 (spec_l13Any.l0 kq x3_1 s0_0 t428 = some (r1, r2)) ∧ Aside0 (kq ≤ k) ∧ Aside0 (Kd.R (Kd.int .i64) 3 w' w.heap.size (fun _ => True) v3 x3_1) ∧ Aside0 (IsS71 w0 w' g s0_0 t428) ∧ Aside0 (KeepBut w w' g none) ∧ Aside0 (Below w0.heap.size w0 w'))
      case atStart => exact ⟨(t423), H', ⟨Nat.le_refl _⟩, ⟨by (with_reducible repeat (first | apply Kd.R_alloc | apply Kd.R_drewN | apply Kd.R_drew)); exact HO425.out⟩, ⟨by repeat (first | (with_reducible first | exact HI0.out | apply IsS71.alloc | apply IsS71.drewN | apply IsS71.drew | apply IsS71.set_1) | exact HI0.out)⟩, ⟨by repeat (first | (with_reducible first | exact HK.out | apply KeepBut.set_ | apply keep_drewN | apply keep_drew | apply keep_alloc) | exact HK.out)⟩, ⟨by repeat (first | (with_reducible first | exact HB.out | apply below_alloc | apply pw_below_drewN | apply below_drew1 | refine below_set ?_ (IsS71.ge HI0.out)) | exact HB.out)⟩⟩
      case round =>
        clear H'
        try clear c1
        try clear p2
        try clear c4
        try clear c4b0
        try clear c4b1
        try clear c5
        try clear c6
        try clear c7
        try clear c14
        try clear c14b0
        try clear c14b1
        obtain ⟨x3_1, HA, HK1, HO_3, HI0, HK, HB⟩ := hrel
        cases gk with
        | zero => exact absurd HA.out (by simp [spec_l13Any.l0])
        | succ k1 =>
          have H := HA.out
          clear HA
          simp only [spec_l13Any.l0] at H
          by_cases c17 : (x3_1.length : Int) ≤ 80
          · rw [if_pos c17] at H
            have c17b0 : decide ((x3_1.length : Int) ≤ 80) = true := decide_eq_true c17
            have c17b1 : decide (x3_1.length ≤ 80) = true := decide_eq_true (by omega)
            clear c17
            by_cases c18 : x3_1.length < 17592186044416
            · rw [if_pos c18] at H
              have LMc18 := Aside0.mk c18
              clear c18
              obtain ⟨y437, hy437⟩ : ∃ y_ : List Int, y_ = (x3_1 ++ [97]) := ⟨_, rfl⟩
              replace H : (spec_l13Any.l0 k1 y437 s0_0 t428) = some (r1, r2) := by first | (rw [hy437]; with_reducible exact H) | (have H2_ := (Option.bind_some _ _).symm.trans H; rw [hy437]; with_reducible exact H2_) | (have H2_ := (Option.bind_some _ _).symm.trans H; with_reducible exact H2_) | with_reducible exact H | (rw [hy437]; exact H) | exact H
              have Ny437 := Aside0.mk hy437
              clear hy437
              have H' := Aside0.mk H
              clear H
              obtain ⟨Ao19, co19, eo19⟩ := Kd.R_slice HO_3.out
              subst eo19
              go_wp2_with (first | ((with_reducible refine gate_builtin (b := .append) (xs := #[.tmp 21, .tmp 22]) rfl ?_); at_builtin; refine Kd.R_append (Kd.int .i64) w.heap.size rfl (.tmp 21) (.tmp 22) 22 3 (.int .i64 0) 8 rfl Try.underlying22 info3 rfl (by decide) (by omega) (.slice Ao19 x3_1.length co19) x3_1 97 [.int .i64 97] (fun _ => True) (fun _ => False) rfl rfl ?aP (fun _ hk => hk.elim) ?aF ?aO (Below.refl _ _) ?aS ?aL ?_; (case aP => exact rfl); (case aF => exact (fun _ _ => trivial)); (case aO => exact (by (with_reducible repeat (first | apply Kd.R_alloc | apply Kd.R_drewN | apply Kd.R_drew)); exact HO_3.out)); (case aS => exact (keep_size (w := w) (g := g) (row := none) (by repeat (first | (with_reducible first | exact HK.out | apply KeepBut.set_ | apply keep_drewN | apply keep_drew | apply keep_alloc) | exact HK.out)))); (case aL => have := LMc18.out; omega); intro v438 w20 ho hb hg hat; rw [← Ny437.out] at ho; have n0_ := Aside0.mk (IsS71.grown (by repeat (first | (with_reducible first | exact HI0.out | apply IsS71.alloc | apply IsS71.drewN | apply IsS71.drew | apply IsS71.set_1) | exact HI0.out)) hg (IsS71.own_ne HI0.out HO_3.out (by decide))); have n1_ := Aside0.mk (below_weaken (by repeat (first | (with_reducible first | exact HB.out | apply below_alloc | apply pw_below_drewN | apply below_drew1 | refine below_set ?_ (IsS71.ge HI0.out)) | exact HB.out)) HL.out hb); have n2_ := Aside0.mk (KeepBut.trans (by repeat (first | (with_reducible first | exact HK.out | apply KeepBut.set_ | apply keep_drewN | apply keep_drew | apply keep_alloc) | exact HK.out)) (KeepBut.of_grown hg g) (Kd.R_base2 HO_3.out)); have n3_ := Aside0.mk (ho); clear HI0; clear HB; clear HK; clear HO_3; have HI0 := n0_; have HB := n1_; have HK := n2_; have HO439 := n3_; clear n0_ n1_ n2_ n3_; clear ho hb hg hat))
              go_roundg k1
              case measure => have := HK1.out; omega
              case rel => exact ⟨(y437), H', ⟨by have := HK1.out; omega⟩, ⟨by (with_reducible repeat (first | apply Kd.R_alloc | apply Kd.R_drewN | apply Kd.R_drew)); exact HO439.out⟩, ⟨by repeat (first | (with_reducible first | exact HI0.out | apply IsS71.alloc | apply IsS71.drewN | apply IsS71.drew | apply IsS71.set_1) | exact HI0.out)⟩, ⟨by repeat (first | (with_reducible first | exact HK.out | apply KeepBut.set_ | apply keep_drewN | apply keep_drew | apply keep_alloc) | exact HK.out)⟩, ⟨by repeat (first | (with_reducible first | exact HB.out | apply below_alloc | apply pw_below_drewN | apply below_drew1 | refine below_set ?_ (IsS71.ge HI0.out)) | exact HB.out)⟩⟩
            · rw [if_neg c18] at H
              exact absurd H (by simp)
          · rw [if_neg c17] at H
            have c17b0 : decide ((x3_1.length : Int) ≤ 80) = false := decide_eq_false c17
            have c17b1 : decide (x3_1.length ≤ 80) = false := decide_eq_false (by omega)
            clear c17
            simp only [Option.some.injEq, Prod.mk.injEq] at H
            obtain ⟨rfl, rfl⟩ := H
            obtain ⟨Ao21, co21, eo21⟩ := Kd.R_slice HO_3.out
            subst eo21
            go_wp2
            go_ret
            exact ⟨_, by first | rfl | (simp [errW_none, errW_some] <;> rfl) | (simp [*, errW_none, errW_some] <;> rfl), by (with_reducible repeat (first | apply Kd.R_alloc | apply Kd.R_drewN | apply Kd.R_drew)); exact HO_3.out, by repeat (first | (with_reducible first | exact HI0.out | apply IsS71.alloc | apply IsS71.drewN | apply IsS71.drew | apply IsS71.set_1) | exact HI0.out), by repeat (first | (with_reducible first | exact HB.out | apply below_alloc | apply pw_below_drewN | apply below_drew1 | refine below_set ?_ (IsS71.ge HI0.out)) | exact HB.out), by repeat (first | (with_reducible first | exact HK.out | apply KeepBut.set_ | apply keep_drewN | apply keep_drew | apply keep_alloc) | exact HK.out)⟩
    · rw [if_neg c14] at H
      have c14b0 : (t427 == 1) = false := beq_eq_false_iff_ne.mpr c14
      have c14b1 : (t427 != 1) = true := bne_iff_ne.mpr c14
      simp only [Option.some.injEq, Prod.mk.injEq] at H
      obtain ⟨rfl, rfl⟩ := H
      go_enter Try.func51, Try.ntmps51
      go_wp2_with (first | ((with_reducible refine gate_callee (f := 79) rfl ?_); refine goesL_ (some 5) rfl rfl Try.func79 (by kernel_rfl) rfl #[.pointer (some ⟨g, 0, none⟩)] rfl (by (try simp only [List.map_toArray, List.map_cons, List.map_nil]); first | done | rfl | (simp only [List.length_drop, List.length_take]; rfl)) ?_; (with_reducible refine (spec_l13Runes.calls k g s0_0 s0_1 t423 t426 w0 _ ?side1 ?side2 A2.out).mono ?_); (case side1 => repeat (first | (with_reducible first | exact HI0.out | apply IsS71.alloc | apply IsS71.drewN | apply IsS71.drew | apply IsS71.set_1) | exact HI0.out)); (case side2 => repeat (first | (with_reducible first | exact HB.out | apply below_alloc | apply pw_below_drewN | apply below_drew1 | refine below_set ?_ (IsS71.ge HI0.out)) | exact HB.out)); rintro e w22 ⟨v424, rfl, ho0, hi, hb, hk⟩; refine ⟨_, rfl, ?_⟩; have n0_ := Aside0.mk (Kd.R_lower ho0 (keep_size (w := w) (g := g) (row := none) (by repeat (first | (with_reducible first | exact HK.out | apply KeepBut.set_ | apply keep_drewN | apply keep_drew | apply keep_alloc) | exact HK.out)))); have n1_ := Aside0.mk (KeepBut.trans (by repeat (first | (with_reducible first | exact HK.out | apply KeepBut.set_ | apply keep_drewN | apply keep_drew | apply keep_alloc) | exact HK.out)) hk (.inl rfl)); have n2_ := Aside0.mk (hb); have n3_ := Aside0.mk (hi); clear HK; clear HB; clear HI0; have HO425 := n0_; have HK := n1_; have HB := n2_; have HI0 := n3_; clear n0_ n1_ n2_ n3_; (try clear hb); (try clear hb2); (try clear hk); (try clear hi); (try clear ho0)) | ((with_reducible refine gate_callee (f := 44) rfl ?_); refine goesL_ (some 7) rfl rfl Try.func44 (by kernel_rfl) rfl #[.pointer (some ⟨g, 0, none⟩), .int .i64 24] rfl (by (try simp only [List.map_toArray, List.map_cons, List.map_nil]); first | done | rfl | (simp only [List.length_drop, List.length_take]; rfl)) ?_; (with_reducible refine (spec_l1Rd_pick.calls k g s0_0 t426 24 t427 t428 w0 _ ?side1 ?side2 A3.out).mono ?_); (case side1 => repeat (first | (with_reducible first | exact HI0.out | apply IsS71.alloc | apply IsS71.drewN | apply IsS71.drew | apply IsS71.set_1) | exact HI0.out)); (case side2 => repeat (first | (with_reducible first | exact HB.out | apply below_alloc | apply pw_below_drewN | apply below_drew1 | refine below_set ?_ (IsS71.ge HI0.out)) | exact HB.out)); rintro e w23 ⟨rfl, hi, hb, hk⟩; refine ⟨_, rfl, ?_⟩; have n0_ := Aside0.mk (Kd.R_mono (Kd.R_keep (IsS71.apart (show IsS71 w0 _ g s0_0 t426 from by repeat (first | (with_reducible first | exact HI0.out | apply IsS71.alloc | apply IsS71.drewN | apply IsS71.drew | apply IsS71.set_1) | exact HI0.out)) (by (with_reducible repeat (first | apply Kd.R_alloc | apply Kd.R_drewN | apply Kd.R_drew)); exact HO425.out) (by decide)) hk (fun _ h => h.2)) (fun _ h => h.1)); have n1_ := Aside0.mk (KeepBut.trans (by repeat (first | (with_reducible first | exact HK.out | apply KeepBut.set_ | apply keep_drewN | apply keep_drew | apply keep_alloc) | exact HK.out)) hk (.inl rfl)); have n2_ := Aside0.mk (hb); have n3_ := Aside0.mk (hi); clear HO425; clear HK; clear HB; clear HI0; have HO425 := n0_; have HK := n1_; have HB := n2_; have HI0 := n3_; clear n0_ n1_ n2_ n3_; (try clear hb); (try clear hb2); (try clear hk); (try clear hi)))
      go_ret
      exact ⟨_, by first | rfl | (simp [errW_none, errW_some] <;> rfl) | (simp [*, errW_none, errW_some] <;> rfl), by (with_reducible repeat (first | apply Kd.R_alloc | apply Kd.R_drewN | apply Kd.R_drew)); exact HO425.out, by repeat (first | (with_reducible first | exact HI0.out | apply IsS71.alloc | apply IsS71.drewN | apply IsS71.drew | apply IsS71.set_1) | exact HI0.out), by repeat (first | (with_reducible first | exact HB.out | apply below_alloc | apply pw_below_drewN | apply below_drew1 | refine below_set ?_ (IsS71.ge HI0.out)) | exact HB.out), by repeat (first | (with_reducible first | exact HK.out | apply KeepBut.set_ | apply keep_drewN | apply keep_drew | apply keep_alloc) | exact HK.out)⟩

end Go.Proofs.Ytojehfdioeglgaa.S

/- What the reference's drawing answers always: something, and of bounded length. -/
namespace Go.Proofs.Ytojehfdioeglgaa.Pure
open Go.RowKit Go.Proofs.Ytojehfdioeglgaa.S Go.Proofs.YtojehfdioeglgaaW.PrintWords Go.Proofs.YtojehfdioeglgaaW.PrintLast
theorem xor_k {x y : Int} (hx : 0 ≤ x) (hx' : x < 4611686018427387904) (hy : 0 ≤ y) (hy' : y < 4611686018427387904) : 0 ≤ Go.bits .xor .i64 x y := by
  obtain ⟨a, rfl⟩ : ∃ a : Nat, x = (a : Int) := ⟨x.toNat, by omega⟩
  obtain ⟨b, rfl⟩ : ∃ b : Nat, y = (b : Int) := ⟨y.toNat, by omega⟩
  have e : (BitVec.ofInt 64 (a : Int) ^^^ BitVec.ofInt 64 (b : Int)).toNat < 2 ^ 62 := by
    rw [BitVec.toNat_xor, BitVec.ofInt_natCast, BitVec.ofInt_natCast, BitVec.toNat_ofNat, BitVec.toNat_ofNat, Nat.mod_eq_of_lt (by omega), Nat.mod_eq_of_lt (by omega)]
    exact Nat.xor_lt_two_pow (by omega) (by omega)
  show 0 ≤ IntKind.wrap .i64 ((BitVec.ofInt 64 (a : Int) ^^^ BitVec.ofInt 64 (b : Int)).toNat : Int)
  generalize (BitVec.ofInt 64 (a : Int) ^^^ BitVec.ofInt 64 (b : Int)).toNat = n at e
  rw [IntWalk.i64_in _ (by omega)]
  omega
def DS (s : List Int) : Prop := s.length ≤ 2000 ∧ ∀ x ∈ s, 0 ≤ x ∧ x ≤ 255
theorem rd_byte {s : List Int} (h : DS s) (i : Int) : 0 ≤ rd s i ∧ rd s i ≤ 255 := by
  unfold rd
  by_cases hi : i.toNat < s.length
  · have := h.2 s[i.toNat] (List.getElem_mem hi)
    simpa [List.getD_eq_getElem?_getD, hi] using this
  · simp [List.getD_eq_getElem?_getD, hi]
set_option maxHeartbeats 8000000 in
theorem pick_k {s : List Int} (hs : DS s) {p n : Int} {k : Nat} (h0 : 0 ≤ p) (h1 : p ≤ 1000000) (hn : 1 ≤ n) (hn' : n ≤ 1000000) (hk : 1 ≤ k) : ∃ v, spec_l1Rd_pick.f k s p n = some (v, p + 1) ∧ 0 ≤ v ∧ v < n := by
  obtain ⟨k, rfl⟩ : ∃ m, k = m + 1 := ⟨k - 1, by omega⟩
  have hl := hs.1
  unfold spec_l1Rd_pick.f
  rw [if_neg (by omega), w64 (by omega) (by omega), spec_l1Rd_pick.j0]
  by_cases hz : s.length = 0
  · rw [if_pos (by simp [hz])]
    exact ⟨0, rfl, by omega, by omega⟩
  · rw [if_neg (by simpa using hz), w64 (x := p + 1 - 1) (by omega) (by omega), show p + 1 - 1 = p by omega]
    by_cases hp : p < (s.length : Int)
    · have hb := rd_byte hs p
      rw [if_pos hp, if_pos h0, if_neg (by omega), w64 (by omega) (by omega)]
      refine ⟨_, rfl, Int.tmod_nonneg _ hb.1, Int.tmod_lt_of_pos _ (by omega)⟩
    · have hd := Int.tdiv_eq_ediv_of_nonneg (b := (s.length : Int)) h0
      have hd0 : 0 ≤ p / (s.length : Int) := Int.ediv_nonneg h0 (by omega)
      have hd1 : p / (s.length : Int) ≤ p := Int.ediv_le_self _ h0
      have e1 := Int.tmod_nonneg (s.length : Int) h0
      have e2 := Int.tmod_lt_of_pos p (show 0 < (s.length : Int) by omega)
      have e3 := Int.tmod_nonneg (s.length : Int) (show 0 ≤ p * 7 + 3 by omega)
      have e4 := Int.tmod_lt_of_pos (p * 7 + 3) (show 0 < (s.length : Int) by omega)
      rw [hd, w64 (x := p * 7) (by omega) (by omega), w64 (x := p * 7 + 3) (by omega) (by omega), w64 (x := p * 29) (by omega) (by omega)]
      generalize p / (s.length : Int) = dv at hd0 hd1
      generalize Int.tmod p (s.length : Int) = i1 at e1 e2
      generalize Int.tmod (p * 7 + 3) (s.length : Int) = i2 at e3 e4
      have b1 := rd_byte hs i1
      have b2 := rd_byte hs i2
      generalize rd s i1 = c1 at b1
      generalize rd s i2 = c2 at b2
      rw [if_neg hp, if_neg (by omega), if_pos e1, if_pos e2, if_pos e3, if_pos e4, if_neg (by omega), w64 (x := dv) (by omega) (by omega), w64 (x := c1) (by omega) (by omega), w64 (x := c2) (by omega) (by omega), w64 (x := c1 * 131) (by omega) (by omega), w64 (x := c2 * 1117) (by omega) (by omega),
        w64 (x := dv * 53) (by omega) (by omega), w64 (x := c1 * 131 + c2 * 1117) (by omega) (by omega), w64 (x := c1 * 131 + c2 * 1117 + p * 29) (by omega) (by omega), w64 (x := c1 * 131 + c2 * 1117 + p * 29 + dv * 53) (by omega) (by omega)]
      have hh : 0 ≤ c1 * 131 + c2 * 1117 + p * 29 + dv * 53 ∧ c1 * 131 + c2 * 1117 + p * 29 + dv * 53 ≤ 1099511627776 := by omega
      generalize c1 * 131 + c2 * 1117 + p * 29 + dv * 53 = hv at hh
      rw [Int.tdiv_eq_ediv_of_nonneg hh.1, w64 (x := hv / 64) (by omega) (by omega)]
      exact ⟨_, rfl, Int.tmod_nonneg _ (xor_k hh.1 (by omega) (by omega) (by omega)), Int.tmod_lt_of_pos _ (by omega)⟩
theorem one_k {s L : List Int} (hs : DS s) {p : Int} {k : Nat} (h0 : 0 ≤ p) (h1 : p ≤ 1000000) (hn : 1 ≤ L.length) (hn' : L.length ≤ 100) (hk : 1 ≤ k) : ∃ v, spec_l1Rd_one.f k s p L = some (v, p + 1) := by
  obtain ⟨v, hv, v0, v1⟩ := pick_k hs (p := p) (n := (L.length : Int)) h0 h1 (by omega) (by omega) hk
  refine ⟨rd L v, ?_⟩
  unfold spec_l1Rd_one.f
  rw [hv, Option.bind_some, if_pos v0, if_pos v1]
def Ok1 (o : Option (Int × Int)) (q : Int) : Prop := ∃ v p', o = some (v, p') ∧ q ≤ p' ∧ p' ≤ q + 2
theorem one_b {s L : List Int} (hs : DS s) {p q : Int} {k : Nat} (h0 : 0 ≤ p) (h1 : p ≤ 1000000) (hq : q ≤ p) (hq' : p ≤ q + 1) (hn : 1 ≤ L.length ∧ L.length ≤ 100) (hk : 1 ≤ k) :
    Ok1 ((spec_l1Rd_one.f k s p L).bind fun (bt : Int × Int) => (some (bt.1, bt.2))) q := by
  obtain ⟨v, hv⟩ := one_k hs (L := L) h0 h1 hn.1 hn.2 hk
  exact ⟨v, p + 1, by rw [hv]; rfl, by omega, by omega⟩
theorem ok_ite {c : Prop} [Decidable c] {a b : Option (Int × Int)} {q : Int} (h1 : Ok1 a q) (h2 : Ok1 b q) : Ok1 (if c then a else b) q := by
  split <;> assumption
set_option maxHeartbeats 8000000 in
theorem rune_k {s : List Int} (hs : DS s) {p : Int} {k : Nat} (h0 : 0 ≤ p) (h1 : p ≤ 900000) (hk : 4 ≤ k) : Ok1 (spec_l13Rune.f k s p) p := by
  obtain ⟨k, rfl⟩ : ∃ m, k = m + 4 := ⟨k - 4, by omega⟩
  obtain ⟨n, hv, v0, v1⟩ := pick_k hs (p := p) (n := 16) (k := k + 4) h0 (by omega) (by omega) (by omega) (by omega)
  unfold spec_l13Rune.f
  rw [hv, Option.bind_some]
  simp only [spec_l13Rune.j0, spec_l13Rune.j1, spec_l13Rune.j2]
  have leaf : Ok1 (some (32, p + 1)) p := ⟨_, _, rfl, by omega, by omega⟩
  repeat' first
    | exact leaf
    | exact one_b hs (by omega) (by omega) (by omega) (by omega) (by decide) (by omega)
    | refine ok_ite ?_ ?_
theorem runes1_k {s : List Int} (hs : DS s) : ∀ (d k : Nat) (x : List Int) (p : Int), 80 - x.length = d → 0 ≤ p → p + d ≤ 900000 → x.length ≤ 200 → d + 4 < k →
    ∃ y p', spec_l13Runes.l1 k x s p = some (y, p') ∧ p ≤ p' ∧ p' ≤ p + d ∧ y.length ≤ 200
  | 0, k, x, p, hd, h0, h1, hx, hk => by
    obtain ⟨k, rfl⟩ : ∃ m, k = m + 1 := ⟨k - 1, by omega⟩
    rw [spec_l13Runes.l1, if_neg (by omega)]
    exact ⟨_, _, rfl, by omega, by omega, hx⟩
  | d + 1, k, x, p, hd, h0, h1, hx, hk => by
    obtain ⟨k, rfl⟩ : ∃ m, k = m + 1 := ⟨k - 1, by omega⟩
    obtain ⟨v, hv⟩ := one_k hs (L := [8235, 8238, 8295, 1488, 97]) (p := p) (k := k) h0 (by omega) (by decide) (by decide) (by omega)
    rw [spec_l13Runes.l1, if_pos (by omega), hv, Option.bind_some, if_pos (by omega)]
    obtain ⟨y, p', e, e1, e2, e3⟩ := runes1_k hs d k (x ++ [v]) (p + 1) (by simp; omega) (by omega) (by omega) (by simp; omega) (by omega)
    exact ⟨y, p', e, by omega, by omega, e3⟩
theorem runes0_k {s : List Int} (hs : DS s) : ∀ (d k : Nat) (x : List Int) (p : Int), 0 ≤ p → p + 2 * d ≤ 800000 → x.length + d ≤ 100 → d + 90 < k →
    ∃ y p', spec_l13Runes.l0 k x (d : Int) s p = some (y, p') ∧ p ≤ p' ∧ p' ≤ p + 2 * d + 90 ∧ y.length ≤ 200
  | 0, k, x, p, h0, h1, hx, hk => by
    obtain ⟨k, rfl⟩ : ∃ m, k = m + 1 := ⟨k - 1, by omega⟩
    obtain ⟨n, hv, v0, v1⟩ := pick_k hs (p := p) (n := 24) (k := k) h0 (by omega) (by omega) (by omega) (by omega)
    rw [spec_l13Runes.l0, if_neg (by omega), hv, Option.bind_some]
    by_cases hn : n = 0
    · rw [if_pos hn]
      obtain ⟨y, p', e, e1, e2, e3⟩ := runes1_k hs (80 - x.length) k x (p + 1) rfl (by omega) (by omega) (by omega) (by omega)
      exact ⟨y, p', e, by omega, by omega, e3⟩
    · rw [if_neg hn]
      exact ⟨_, _, rfl, by omega, by omega, by omega⟩
  | d + 1, k, x, p, h0, h1, hx, hk => by
    obtain ⟨k, rfl⟩ : ∃ m, k = m + 1 := ⟨k - 1, by omega⟩
    obtain ⟨v, q, hv, hq, hq'⟩ := rune_k hs (p := p) (k := k) h0 (by omega) (by omega)
    rw [spec_l13Runes.l0, if_pos (by omega), hv, Option.bind_some, if_pos (by omega), w64 (by omega) (by omega), show ((d + 1 : Nat) : Int) - 1 = (d : Int) by omega]
    obtain ⟨y, p', e, e1, e2, e3⟩ := runes0_k hs d k (x ++ [v]) q (by omega) (by omega) (by simp; omega) (by omega)
    exact ⟨y, p', e, by omega, by omega, e3⟩
theorem runes_k {s : List Int} (hs : DS s) {p : Int} {k : Nat} (h0 : 0 ≤ p) (h1 : p ≤ 700000) (hk : 200 ≤ k) : ∃ y p', spec_l13Runes.f k s p = some (y, p') ∧ p ≤ p' ∧ p' ≤ p + 200 ∧ y.length ≤ 200 := by
  obtain ⟨n, hv, v0, v1⟩ := pick_k hs (p := p) (n := 24) (k := k) h0 (by omega) (by omega) (by omega) (by omega)
  unfold spec_l13Runes.f
  rw [hv, Option.bind_some]
  obtain ⟨m, rfl⟩ : ∃ m : Nat, n = (m : Int) := ⟨n.toNat, by omega⟩
  obtain ⟨y, p', e, e1, e2, e3⟩ := runes0_k hs m k [] (p + 1) (by omega) (by omega) (by simp; omega) (by omega)
  exact ⟨y, p', e, by omega, by omega, e3⟩
theorem any0_k {s : List Int} : ∀ (d k : Nat) (x : List Int) (p : Int), 81 - x.length = d → x.length ≤ 300 → d < k → ∃ y, spec_l13Any.l0 k x s p = some (y, p) ∧ y.length ≤ 300
  | 0, k, x, p, hd, hx, hk => by
    obtain ⟨k, rfl⟩ : ∃ m, k = m + 1 := ⟨k - 1, by omega⟩
    rw [spec_l13Any.l0, if_neg (by omega)]
    exact ⟨_, rfl, hx⟩
  | d + 1, k, x, p, hd, hx, hk => by
    obtain ⟨k, rfl⟩ : ∃ m, k = m + 1 := ⟨k - 1, by omega⟩
    rw [spec_l13Any.l0, if_pos (by omega), if_pos (by omega)]
    exact any0_k d k (x ++ [97]) p (by simp; omega) (by simp; omega) (by omega)
theorem any_k {s : List Int} (hs : DS s) {p : Int} {k : Nat} (h0 : 0 ≤ p) (h1 : p ≤ 600000) (hk : 300 ≤ k) : ∃ y p', spec_l13Any.f k s p = some (y, p') ∧ p ≤ p' ∧ p' ≤ p + 300 ∧ y.length ≤ 300 := by
  obtain ⟨y, q, hr, q0, q1, hy⟩ := runes_k hs (p := p) (k := k) h0 (by omega) (by omega)
  obtain ⟨n, hv, v0, v1⟩ := pick_k hs (p := q) (n := 24) (k := k) (by omega) (by omega) (by omega) (by omega) (by omega)
  unfold spec_l13Any.f
  rw [hr, Option.bind_some, hv, Option.bind_some]
  by_cases hn : n = 0
  · obtain ⟨v, hv2⟩ := one_k hs (L := [-1, 55296, 57343, 1114112]) (p := q + 1) (k := k) (by omega) (by omega) (by decide) (by decide) (by omega)
    rw [if_pos hn, hv2, Option.bind_some, if_pos (by simp only; omega)]
    exact ⟨_, _, rfl, by omega, by omega, by simp; omega⟩
  · rw [if_neg hn]
    by_cases hn1 : n = 1
    · rw [if_pos hn1]
      obtain ⟨z, e, hz⟩ := any0_k (s := s) (81 - y.length) k y (q + 1) rfl (by omega) (by omega)
      exact ⟨z, q + 1, e, by omega, by omega, hz⟩
    · rw [if_neg hn1]
      exact ⟨_, _, rfl, by omega, by omega, by simp; omega⟩
theorem open_k {l : List Int} (hl : ∀ x ∈ l, (Lit.int .u8 x).wf = true) : ∃ s, spec_l1Open.f l = some (s, 0) ∧ DS s := by
  have hb : ∀ x ∈ l, 0 ≤ x ∧ x ≤ 255 := by
    intro x hx
    have := hl x hx
    simp [Lit.wf, IntKind.min, IntKind.max, IntKind.bits, IntKind.signed] at this
    omega
  unfold spec_l1Open.f
  by_cases h : (l.length : Int) > 2000
  · rw [if_pos h, if_pos (by omega)]
    exact ⟨_, rfl, by simp; omega, fun x hx => hb x (List.mem_of_mem_take hx)⟩
  · rw [if_neg h]
    exact ⟨_, rfl, by omega, hb⟩
end Go.Proofs.Ytojehfdioeglgaa.Pure

/- Behind the rules for figures and signs no letter of some, no sign and nothing that stands on others is left: of all drawn classes and sides, for every code. No condition beyond the statement's own. -/
namespace Go.Proofs.Ytojehfdioeglgaa.Pure
open Go.RowKit Go.Proofs.Ytojehfdioeglgaa.S Go.Proofs.YtojehfdioeglgaaW.PrintWords Go.Proofs.YtojehfdioeglgaaW.PrintLast
theorem wcInts_e (a b : List Int) (hab : a.length = b.length) (hn : a.length ≤ 1099511627776) : ∀ (d k i : Nat), a.length - i = d → i ≤ a.length → d < k → laws_wcInts.l0 k a b (i : Int) = some (decide (a.drop i = b.drop i))
  | 0, k, i, hd, hi, hk => by
    obtain ⟨k, rfl⟩ : ∃ m, k = m + 1 := ⟨k - 1, by omega⟩
    have e : i = a.length := by omega
    subst e
    rw [laws_wcInts.l0, if_neg (by omega), List.drop_length, hab, List.drop_length]
    simp
  | d + 1, k, i, hd, hi, hk => by
    obtain ⟨k, rfl⟩ : ∃ m, k = m + 1 := ⟨k - 1, by omega⟩
    have hlt : i < a.length := by omega
    have hlb : i < b.length := by omega
    rw [laws_wcInts.l0, if_pos (by omega), if_pos (by omega), if_pos (by omega), w64 (by omega) (by omega), rd_get hlt, rd_get hlb, List.drop_eq_getElem_cons hlt, List.drop_eq_getElem_cons hlb]
    have := wcInts_e a b hab hn d k (i + 1) (by omega) (by omega) (by omega)
    rw [show ((i : Int) + 1) = ((i + 1 : Nat) : Int) by omega, this]
    by_cases h : a[i] = b[i]
    · rw [if_pos h, h]
      simp only [List.cons.injEq, true_and]
    · rw [if_neg h]
      simp only [List.cons.injEq, h, false_and, decide_false]
theorem wcInts_s {a : List Int} {k : Nat} (hn : a.length ≤ 1099511627776) (hk : a.length < k) : laws_wcInts.f k a a = some true := by
  unfold laws_wcInts.f
  rw [if_pos rfl]
  have := wcInts_e a a rfl hn a.length k 0 (by omega) (by omega) hk
  rw [show ((0 : Nat) : Int) = 0 from rfl] at this
  rw [this, decide_eq_true rfl]
/-- What a rule leaves of a class: the same, wherever it stands. -/
def Keeps (v : Int) (f : List Int → Nat → List Int) : Prop := ∀ l k i, l.getD i 0 = v → (f l k).getD i 0 = v
theorem Keeps.upTo {v : Int} {f : List Int → Nat → List Int} (h : Keeps v f) (l : List Int) (i : Nat) (hi : l.getD i 0 = v) : ∀ n, (upTo f l n).getD i 0 = v
  | 0 => hi
  | n + 1 => h _ _ _ (Keeps.upTo h l i hi n)
theorem keeps_marks {v : Int} (h : v = 1 ∨ v = 2 ∨ v = 3) (bf : Int) : Keeps v (marksF bf) := by
  intro l k i hi
  unfold marksF
  repeat' split
  all_goals (first | exact hi | (rw [getD_set]; grind))
theorem keeps_numbers {v : Int} (h : v = 1 ∨ v = 2 ∨ v = 3) : Keeps v numbersF := by
  intro l k i hi
  unfold numbersF
  split
  all_goals (first | exact hi | (rw [getD_set]; grind))
theorem keeps_arabic {v : Int} (h : v = 1 ∨ v = 2) : Keeps v arabicF := by
  intro l k i hi
  unfold arabicF
  split
  all_goals (first | exact hi | (rw [getD_set]; grind))
theorem keeps_between {v : Int} (h : v = 1 ∨ v = 2) : Keeps v betweenF := by
  intro l k i hi
  unfold betweenF
  repeat' split
  all_goals (first | exact hi | (rw [getD_set]; grind))
theorem keeps_others {v : Int} (h : v = 1 ∨ v = 2) : Keeps v othersF := by
  intro l k i hi
  unfold othersF
  split
  all_goals (first | exact hi | (rw [getD_set]; grind))
theorem keeps_plain {v : Int} (h : v = 1 ∨ v = 2) (bf : Int) : Keeps v (plainF bf) := by
  intro l k i hi
  unfold plainF
  repeat' split
  all_goals (first | exact hi | (rw [getD_set]; grind))
theorem subV_keep {x : List Int} {i j : Nat} (hi : i ≤ x.length) (h : x.getD j 0 ≠ 6) : (subV qT x i (runE pT x i)).getD j 0 = x.getD j 0 := by
  have h0 := runE_ge pT x i
  have h1 := runE_le (p := pT) (l := x) (fr := i) hi
  unfold subV
  split
  · rw [fillV_get _ _ _ _ _ (by omega)]
    rw [if_neg]
    rintro ⟨a, b⟩
    have := runE_all (p := pT) (l := x) (fr := i) (j := j) a (by omega)
    exact h (by simpa [pT] using this)
  · rfl
theorem besideL_keep : ∀ (k : Nat) (x : List Int) (i j : Nat), x.getD j 0 ≠ 6 → (besideL pT qT k x i).getD j 0 = x.getD j 0
  | 0, x, i, j, h => rfl
  | k + 1, x, i, j, h => by
    rw [besideL]
    split
    · split
      · exact besideL_keep k x (i + 1) j h
      · have e := subV_keep (x := x) (i := i) (j := j) (by omega) h
        rw [besideL_keep k _ _ j (by rw [e]; exact h), e]
    · rfl
theorem keeps_terms {x : List Int} {j : Nat} (h : x.getD j 0 ≠ 6) : (termsV x).getD j 0 = x.getD j 0 := besideL_keep _ _ _ _ h
theorem weak_side {v : Int} (h : v = 1 ∨ v = 2) (bf : Int) (l : List Int) (i : Nat) (hi : l.getD i 0 = v) : (weakV bf l).getD i 0 = v := by
  unfold weakV
  refine Keeps.upTo (keeps_plain h bf) _ _ (Keeps.upTo (keeps_others h) _ _ ?_ _) _
  have hb : (upTo betweenF (upTo arabicF (upTo numbersF (upTo (marksF bf) l l.length) l.length) l.length) (l.length - 2)).getD i 0 = v :=
    Keeps.upTo (keeps_between h) _ _ (Keeps.upTo (keeps_arabic h) _ _ (Keeps.upTo (keeps_numbers (by omega)) _ _ (Keeps.upTo (keeps_marks (by omega) bf) _ _ hi _) _) _) _
  rw [keeps_terms (by rw [hb]; omega), hb]
theorem weak_arabic (bf : Int) (l : List Int) (i : Nat) (hi : l.getD i 0 = 3) (hl : i < l.length) : (weakV bf l).getD i 0 = 2 := by
  unfold weakV
  refine Keeps.upTo (keeps_plain (.inr rfl) bf) _ _ (Keeps.upTo (keeps_others (.inr rfl)) _ _ ?_ _) _
  have h0 : (upTo numbersF (upTo (marksF bf) l l.length) l.length).getD i 0 = 3 := Keeps.upTo (keeps_numbers (by omega)) _ _ (Keeps.upTo (keeps_marks (by omega) bf) _ _ hi _) _
  have ha : (upTo arabicF (upTo numbersF (upTo (marksF bf) l l.length) l.length) l.length).getD i 0 = 2 := by rw [arabic_get, if_pos ⟨hl, h0⟩]
  have hb := Keeps.upTo (keeps_between (v := 2) (.inr rfl)) _ _ ha (l.length - 2)
  rw [keeps_terms (by rw [hb]; decide), hb]
/-- A rule after which all of a list is so, if it was so before. -/
def All (p : Int → Prop) (l : List Int) : Prop := ∀ j, j < l.length → p (l.getD j 0)
theorem All.set {p : Int → Prop} {l : List Int} (h : All p l) (i : Nat) {v : Int} (hv : p v) : All p (l.set i v) := by
  intro j hj
  rw [getD_set]
  split
  · exact hv
  · exact h j (by simpa using hj)
theorem All.upTo {p : Int → Prop} {f : List Int → Nat → List Int} (hf : ∀ l k, k < l.length → All p l → All p (f l k)) (hlen : ∀ l k, (f l k).length = l.length) {l : List Int} (h : All p l) : ∀ n, n ≤ l.length → All p (upTo f l n)
  | 0, _ => h
  | n + 1, hn => hf _ _ (by rw [lenF hlen]; omega) (All.upTo hf hlen h n (by omega))
theorem all_numbers {p : Int → Prop} (h : p 7) (l : List Int) (k : Nat) (_ : k < l.length) (hl : All p l) : All p (numbersF l k) := by
  unfold numbersF; split
  · exact hl.set _ h
  · exact hl
theorem all_arabic {p : Int → Prop} (h : p 2) (l : List Int) (k : Nat) (_ : k < l.length) (hl : All p l) : All p (arabicF l k) := by
  unfold arabicF; split
  · exact hl.set _ h
  · exact hl
theorem all_between {p : Int → Prop} (h : p 4) (h' : p 7) (l : List Int) (k : Nat) (_ : k < l.length) (hl : All p l) : All p (betweenF l k) := by
  unfold betweenF; repeat' split
  · exact hl.set _ h
  · exact hl.set _ h'
  · exact hl
  · exact hl
theorem all_others {p : Int → Prop} (h : p 13) (l : List Int) (k : Nat) (_ : k < l.length) (hl : All p l) : All p (othersF l k) := by
  unfold othersF; split
  · exact hl.set _ h
  · exact hl
theorem all_plain {p : Int → Prop} (h : p 1) (bf : Int) (l : List Int) (k : Nat) (_ : k < l.length) (hl : All p l) : All p (plainF bf l k) := by
  unfold plainF; repeat' split
  · exact hl.set _ h
  · exact hl
  · exact hl
theorem all_fill {p : Int → Prop} {l : List Int} (h : All p l) (a : Nat) {v : Int} (hv : p v) : ∀ m, All p (fillV l a v m)
  | 0 => h
  | m + 1 => (all_fill h a hv m).set _ hv
theorem all_beside {p : Int → Prop} (h : p 4) : ∀ (k : Nat) (x : List Int) (i : Nat), All p x → All p (besideL pT qT k x i)
  | 0, x, i, hx => hx
  | k + 1, x, i, hx => by
    rw [besideL]
    split
    · split
      · exact all_beside h k x (i + 1) hx
      · refine all_beside h k _ _ ?_
        unfold subV
        split
        · rename_i v hv
          have : v = 4 := by simp only [qT] at hv; grind
          subst this
          exact all_fill hx _ h _
        · exact hx
    · exact hx
theorem all_terms {p : Int → Prop} (h : p 4) {x : List Int} (hx : All p x) : All p (termsV x) := all_beside h _ _ _ hx
theorem all_marks {p : Int → Prop} (h13 : p 13) {bf : Int} (hb : p bf) (l : List Int) (k : Nat) (hk : k < l.length) (hl : All p l) : All p (marksF bf l k) := by
  unfold marksF; repeat' split
  · exact hl.set _ hb
  · exact hl.set _ h13
  · exact hl.set _ h13
  · exact hl.set _ (hl _ (by omega))
  · exact hl
theorem marks_no9 {bf : Int} (hb : bf ≠ 9) (l : List Int) : ∀ n, n ≤ l.length → ∀ j, j < n → (upTo (marksF bf) l n).getD j 0 ≠ 9
  | 0, _, j, hj => by omega
  | n + 1, hn, j, hj => by
    have ih := marks_no9 hb l n (by omega)
    have hlen : (upTo (marksF bf) l n).length = l.length := lenF (marksF_len bf) _ _
    rw [upTo]
    generalize upTo (marksF bf) l n = x at ih hlen
    have h1 : n ≠ 0 → x.getD (n - 1) 0 ≠ 9 := fun h => ih (n - 1) (by omega)
    have h2 : j < n → x.getD j 0 ≠ 9 := fun h => ih j h
    unfold marksF
    repeat' split
    all_goals (first | (rw [getD_set]; grind) | (by_cases e : j = n; (subst e; assumption); exact h2 (by omega)))
theorem weak_all {p : Int → Prop} (h1 : p 1) (h2 : p 2) (h4 : p 4) (h7 : p 7) (h13 : p 13) {bf : Int} (l : List Int) (hl : All p (upTo (marksF bf) l l.length)) : All p (weakV bf l) := by
  have e1 : (upTo (marksF bf) l l.length).length = l.length := lenF (marksF_len bf) _ _
  unfold weakV
  have a1 := All.upTo (all_numbers h7) numbersF_len hl l.length (by omega)
  have e2 : (upTo numbersF (upTo (marksF bf) l l.length) l.length).length = l.length := by rw [lenF numbersF_len, e1]
  have a2 := All.upTo (all_arabic h2) arabicF_len a1 l.length (by omega)
  have e3 := lenF arabicF_len (upTo numbersF (upTo (marksF bf) l l.length) l.length) l.length
  have a3 := All.upTo (all_between h4 h7) betweenF_len a2 (l.length - 2) (by omega)
  have e4 := lenF betweenF_len (upTo arabicF (upTo numbersF (upTo (marksF bf) l l.length) l.length) l.length) (l.length - 2)
  have a4 := all_terms h4 a3
  have e5 := termsV_len (upTo betweenF (upTo arabicF (upTo numbersF (upTo (marksF bf) l l.length) l.length) l.length) (l.length - 2))
  have a5 := All.upTo (all_others h13) othersF_len a4 l.length (by omega)
  have e6 := lenF othersF_len (termsV (upTo betweenF (upTo arabicF (upTo numbersF (upTo (marksF bf) l l.length) l.length) l.length) (l.length - 2))) l.length
  exact All.upTo (all_plain h1 bf) (plainF_len bf) a5 l.length (by omega)
theorem weak_no9 {bf : Int} (hb : bf ≠ 9) (l : List Int) : All (fun c => c ≠ 9) (weakV bf l) :=
  weak_all (by decide) (by decide) (by decide) (by decide) (by decide) l (fun j hj => marks_no9 hb l l.length (Nat.le_refl _) j (by rwa [lenF (marksF_len bf)] at hj))
theorem weak_ok {bf : Int} (hb : 1 ≤ bf ∧ bf ≤ 22) {l : List Int} (h : All (fun c => 1 ≤ c ∧ c ≤ 22) l) : All (fun c => 1 ≤ c ∧ c ≤ 22) (weakV bf l) :=
  weak_all (by decide) (by decide) (by decide) (by decide) (by decide) l (All.upTo (all_marks (by decide) hb) (marksF_len bf) h l.length (Nat.le_refl _))
theorem others_no (l : List Int) : ∀ n, n ≤ l.length → ∀ j, j < n → (upTo othersF l n).getD j 0 ≠ 5 ∧ (upTo othersF l n).getD j 0 ≠ 6 ∧ (upTo othersF l n).getD j 0 ≠ 8
  | 0, _, j, hj => by omega
  | n + 1, hn, j, hj => by
    have ih := others_no l n (by omega)
    have hlen : (upTo othersF l n).length = l.length := lenF othersF_len _ _
    rw [upTo]
    generalize upTo othersF l n = x at ih hlen
    unfold othersF
    split
    · rw [getD_set]
      by_cases e : n = j
      · rw [if_pos ⟨e, by omega⟩]; decide
      · rw [if_neg (fun h => e h.1)]; exact ih j (by omega)
    · by_cases e : n = j
      · subst e; grind
      · exact ih j (by omega)
theorem weak_signs {bf : Int} (l : List Int) : All (fun c => c ≠ 3 ∧ c ≠ 5 ∧ c ≠ 6 ∧ c ≠ 8) (weakV bf l) := by
  unfold weakV
  have e1 : (upTo (marksF bf) l l.length).length = l.length := lenF (marksF_len bf) _ _
  have e2 : (upTo numbersF (upTo (marksF bf) l l.length) l.length).length = l.length := by rw [lenF numbersF_len, e1]
  have e3 := lenF arabicF_len (upTo numbersF (upTo (marksF bf) l l.length) l.length) l.length
  have e4 := lenF betweenF_len (upTo arabicF (upTo numbersF (upTo (marksF bf) l l.length) l.length) l.length) (l.length - 2)
  have e5 := termsV_len (upTo betweenF (upTo arabicF (upTo numbersF (upTo (marksF bf) l l.length) l.length) l.length) (l.length - 2))
  have e6 := lenF othersF_len (termsV (upTo betweenF (upTo arabicF (upTo numbersF (upTo (marksF bf) l l.length) l.length) l.length) (l.length - 2))) l.length
  refine All.upTo (all_plain (by decide) bf) (plainF_len bf) ?_ l.length (by omega)
  intro j hj
  have h := others_no (termsV (upTo betweenF (upTo arabicF (upTo numbersF (upTo (marksF bf) l l.length) l.length) l.length) (l.length - 2))) l.length (by omega) j (by omega)
  have h3 : No3 (upTo arabicF (upTo numbersF (upTo (marksF bf) l l.length) l.length) l.length) := by
    have := arabic_no3 (upTo numbersF (upTo (marksF bf) l l.length) l.length)
    rwa [e2] at this
  have h4 : All (fun c => c ≠ 3) (termsV (upTo betweenF (upTo arabicF (upTo numbersF (upTo (marksF bf) l l.length) l.length) l.length) (l.length - 2))) := fun j _ => termsV_no3 (between_no3 h3 _) j
  exact ⟨All.upTo (all_others (p := fun c => c ≠ 3) (by decide)) othersF_len h4 l.length (by omega) j hj, h⟩
/-- What the last rule leaves as a figure stands behind no L. -/
theorem plain_inv (bf : Int) (l : List Int) : ∀ n, n ≤ l.length → ∀ i, i < n → (upTo (plainF bf) l n).getD i 0 = 4 → ¬ (lastV sideV (upTo (plainF bf) l n) i = 1 ∨ lastV sideV (upTo (plainF bf) l n) i = 0 ∧ bf = 1)
  | 0, _, i, hi => by omega
  | n + 1, hn, i, hi => by
    have ih := plain_inv bf l n (by omega)
    have hlen : (upTo (plainF bf) l n).length = l.length := lenF (plainF_len bf) _ _
    rw [upTo]
    generalize upTo (plainF bf) l n = x at ih hlen
    intro h4
    unfold plainF at h4 ⊢
    by_cases h1 : x.getD n 0 = 4
    · rw [if_pos h1] at h4 ⊢
      by_cases h2 : lastV sideV x n = 1 ∨ lastV sideV x n = 0 ∧ bf = 1
      · rw [if_pos h2] at h4 ⊢
        rw [last_set _ _ _ _ _ (by omega)]
        rw [getD_set] at h4
        by_cases e : n = i
        · rw [if_pos ⟨e, by omega⟩] at h4; exact absurd h4 (by decide)
        · rw [if_neg (fun h => e h.1)] at h4
          exact ih i (by omega) h4
      · rw [if_neg h2] at h4 ⊢
        by_cases e : n = i
        · subst e; exact h2
        · exact ih i (by omega) h4
    · rw [if_neg h1] at h4 ⊢
      by_cases e : n = i
      · subst e; exact absurd h4 h1
      · exact ih i (by omega) h4
theorem upTo_id {f : List Int → Nat → List Int} {l : List Int} : ∀ n, (∀ k, k < n → f l k = l) → upTo f l n = l
  | 0, _ => rfl
  | n + 1, h => by rw [upTo, upTo_id n (fun k hk => h k (by omega)), h n (by omega)]
theorem lastV_in (p : Int → Bool) (x : List Int) : ∀ m, lastV p x m = 0 ∨ ∃ j, j < m ∧ lastV p x m = x.getD j 0
  | 0 => .inl rfl
  | m + 1 => by
    rw [lastV]
    split
    · exact .inr ⟨m, by omega, rfl⟩
    · rcases lastV_in p x m with h | ⟨j, h1, h2⟩
      · exact .inl h
      · exact .inr ⟨j, by omega, h2⟩
theorem weak_again {bf : Int} {x : List Int} (h9 : All (fun c => c ≠ 9) x) (hs : All (fun c => c ≠ 3 ∧ c ≠ 5 ∧ c ≠ 6 ∧ c ≠ 8) x) (hp : ∀ i, i < x.length → x.getD i 0 = 4 → ¬ (lastV sideV x i = 1 ∨ lastV sideV x i = 0 ∧ bf = 1)) : weakV bf x = x := by
  unfold weakV
  have m1 : upTo (marksF bf) x x.length = x := upTo_id _ (fun k hk => by rw [marksF, if_neg (h9 k hk)])
  have m2 : upTo numbersF x x.length = x := upTo_id _ (fun k hk => by
    rw [numbersF, if_neg]
    rintro ⟨_, h⟩
    rcases lastV_in strongV x k with h0 | ⟨j, h1, h2⟩
    · omega
    · exact (hs j (by omega)).1 (by omega))
  have m3 : upTo arabicF x x.length = x := upTo_id _ (fun k hk => by rw [arabicF, if_neg (hs k hk).1])
  have m4 : upTo betweenF x (x.length - 2) = x := upTo_id _ (fun k hk => by
    have := hs (k + 1) (by omega)
    rw [betweenF]
    split
    · rw [if_neg (by rintro ⟨_, h | h⟩; (exact this.2.1 h); exact this.2.2.2 h), if_neg (fun h => this.2.2.2 h.2)]
    · rfl)
  have m5 : termsV x = x := by
    have h := BT_skip (x := x) x.length 0 (by omega) (fun j _ hj => (hs j (by omega)).2.2.1)
    rw [Nat.zero_add, BT_end (i := x.length) (by omega)] at h
    exact h
  have m6 : upTo othersF x x.length = x := upTo_id _ (fun k hk => by
    have := hs k hk
    rw [othersF, if_neg (by rintro (h | h | h); (exact this.2.1 h); (exact this.2.2.1 h); exact this.2.2.2 h)])
  have m7 : upTo (plainF bf) x x.length = x := upTo_id _ (fun k hk => by
    unfold plainF
    split
    · rw [if_neg (hp k hk (by assumption))]
    · rfl)
  simp only [m1, m2, m3, m4, m5, m6, m7]
theorem weak_twice {bf : Int} (hb : bf = 1 ∨ bf = 2) (l : List Int) : weakV bf (weakV bf l) = weakV bf l := by
  refine weak_again (weak_no9 (by omega) l) (weak_signs l) ?_
  intro i hi
  rw [weakV_len] at hi
  unfold weakV
  have e1 : (upTo (marksF bf) l l.length).length = l.length := lenF (marksF_len bf) _ _
  have e2 : (upTo numbersF (upTo (marksF bf) l l.length) l.length).length = l.length := by rw [lenF numbersF_len, e1]
  have e3 := lenF arabicF_len (upTo numbersF (upTo (marksF bf) l l.length) l.length) l.length
  have e4 := lenF betweenF_len (upTo arabicF (upTo numbersF (upTo (marksF bf) l l.length) l.length) l.length) (l.length - 2)
  have e5 := termsV_len (upTo betweenF (upTo arabicF (upTo numbersF (upTo (marksF bf) l l.length) l.length) l.length) (l.length - 2))
  have e6 := lenF othersF_len (termsV (upTo betweenF (upTo arabicF (upTo numbersF (upTo (marksF bf) l l.length) l.length) l.length) (l.length - 2))) l.length
  exact plain_inv bf _ l.length (by omega) i hi
theorem classes_k {s : List Int} (hs : DS s) : ∀ (d k : Nat) (x : List Int) (p : Int), 0 ≤ p → p + 10 * d ≤ 800000 → x.length + d ≤ 100 → d + 4 < k →
    ∃ y p', spec_l13Classes.l0 k x (d : Int) s p = some (y, p') ∧ p ≤ p' ∧ p' ≤ p + 10 * d + 10 ∧ y.length ≤ 200
  | 0, k, x, p, h0, h1, hx, hk => by
    obtain ⟨k, rfl⟩ : ∃ m, k = m + 1 := ⟨k - 1, by omega⟩
    obtain ⟨n, hv, v0, v1⟩ := pick_k hs (p := p) (n := 20) (k := k) h0 (by omega) (by omega) (by omega) (by omega)
    rw [spec_l13Classes.l0, if_neg (by omega), hv, Option.bind_some]
    by_cases hn : n = 0
    · obtain ⟨v, hv2⟩ := one_k hs (L := [0, 23, -1]) (p := p + 1) (k := k) (by omega) (by omega) (by decide) (by decide) (by omega)
      rw [if_pos hn, hv2, Option.bind_some, if_pos (by omega)]
      exact ⟨_, _, rfl, by omega, by omega, by simp; omega⟩
    · rw [if_neg hn]
      exact ⟨_, _, rfl, by omega, by omega, by omega⟩
  | d + 1, k, x, p, h0, h1, hx, hk => by
    obtain ⟨k, rfl⟩ : ∃ m, k = m + 1 := ⟨k - 1, by omega⟩
    obtain ⟨a, ha, a0, a1⟩ := pick_k hs (p := p) (n := 9) (k := k) h0 (by omega) (by omega) (by omega) (by omega)
    obtain ⟨b, hb, b0, b1⟩ := pick_k hs (p := p + 1) (n := 8) (k := k) (by omega) (by omega) (by omega) (by omega) (by omega)
    obtain ⟨c, hc, c0, c1⟩ := pick_k hs (p := p + 1 + 1) (n := 3) (k := k) (by omega) (by omega) (by omega) (by omega) (by omega)
    obtain ⟨e, he, e0, e1⟩ := pick_k hs (p := p + 1 + 1 + 1) (n := 4) (k := k) (by omega) (by omega) (by omega) (by omega) (by omega)
    obtain ⟨g, hg, g0, g1⟩ := pick_k hs (p := p + 1 + 1 + 1 + 1) (n := 4) (k := k) (by omega) (by omega) (by omega) (by omega) (by omega)
    rw [spec_l13Classes.l0, if_pos (by omega), ha, Option.bind_some, hb, Option.bind_some, hc, Option.bind_some, he, Option.bind_some, Option.bind_some, hg, Option.bind_some, if_pos g0, if_pos (by simp; omega), if_pos (by omega), w64 (x := ((d + 1 : Nat) : Int) - 1) (by omega) (by omega), show ((d + 1 : Nat) : Int) - 1 = (d : Int) by omega]
    obtain ⟨y, p', f, f1, f2, f3⟩ := classes_k hs d k (x ++ [rd [wrap64 (1 + a), wrap64 (1 + b), wrap64 (11 + c), wrap64 (19 + e)] g]) (p + 1 + 1 + 1 + 1 + 1) (by omega) (by omega) (by simp; omega) (by omega)
    exact ⟨y, p', f, by omega, by omega, f3⟩
theorem drawWeak_k {l : List Int} (hl : ∀ x ∈ l, (Lit.int .u8 x).wf = true) {k : Nat} (hk : 1000 ≤ k) : ∃ t b, spec_DrawLevelWeak.f k l = some (t, b) ∧ t.length ≤ 200 := by
  obtain ⟨s, hs, hD⟩ := open_k hl
  obtain ⟨n, hv, v0, v1⟩ := pick_k hD (p := 0) (n := 14) (k := k) (by omega) (by omega) (by omega) (by omega) (by omega)
  obtain ⟨m, rfl⟩ : ∃ m : Nat, n = (m : Int) := ⟨n.toNat, by omega⟩
  obtain ⟨y, p', f, f1, f2, f3⟩ := classes_k hD m k [] (0 + 1) (by omega) (by omega) (by simp; omega) (by omega)
  obtain ⟨g, hg, g0, g1⟩ := pick_k hD (p := p') (n := 16) (k := k) (by omega) (by omega) (by omega) (by omega) (by omega)
  unfold spec_DrawLevelWeak.f spec_l13Classes.f
  rw [hs, Option.bind_some, hv, Option.bind_some, f, Option.bind_some, Option.bind_some, hg, Option.bind_some, w64 (x := g * 3) (by omega) (by omega)]
  have e : Int.tdiv (g * 3) 16 = g * 3 / 16 := Int.tdiv_eq_ediv_of_nonneg (by omega)
  rw [e, w64 (by omega) (by omega), if_pos (by omega), if_pos (by simp; omega)]
  exact ⟨_, _, rfl, f3⟩
theorem lawWeak_l {t x : List Int} {b : Int} (hx : x = weakV b t) (hb : b = 1 ∨ b = 2) (hok : classesOkV t = true) (ht : t.length ≤ 80) : ∀ (d k i : Nat), t.length - i = d → i ≤ t.length → 2 * d + 30000 < k → laws_FnLevelWeak.l0 k t b x (i : Int) = some true
  | 0, k, i, hd, hi, hk => by
    obtain ⟨k, rfl⟩ : ∃ m, k = m + 1 := ⟨k - 1, by omega⟩
    have hl : x.length = t.length := by rw [hx, weakV_len]
    have hc : All (fun c => 1 ≤ c ∧ c ≤ 22) t := by
      intro j hj
      simp [classesOkV] at hok
      have := hok.2 (t[j]) (List.getElem_mem hj)
      simp [clsOkV] at this
      simpa [List.getD_eq_getElem?_getD, hj] using this
    have hc2 : classesOkV x = true := by
      have h2 := weak_ok (bf := b) (by omega) hc
      rw [← hx] at h2
      simp only [classesOkV, Bool.and_eq_true, decide_eq_true_eq, List.all_eq_true]
      refine ⟨by omega, fun c hc => ?_⟩
      obtain ⟨j, hj, rfl⟩ := List.getElem_of_mem hc
      have := h2 j hj
      simp [List.getD_eq_getElem?_getD, hj] at this
      simp [clsOkV, this]
    have e : levelWeakV x b = x := by
      unfold levelWeakV
      rw [if_pos ⟨hc2, by simpa [sideV] using hb⟩, hx, weak_twice hb]
    rw [laws_FnLevelWeak.l0, if_neg (by omega), if_pos (by omega), implLevelWeak_p, e, Option.bind_some, wcInts_s (by omega) (by omega), Option.bind_some]
  | d + 1, k, i, hd, hi, hk => by
    obtain ⟨k, rfl⟩ : ∃ m, k = m + 2 := ⟨k - 2, by omega⟩
    have hl : x.length = t.length := by rw [hx, weakV_len]
    have ih := lawWeak_l hx hb hok ht d k (i + 1) (by omega) (by omega) (by omega)
    have h9 := weak_no9 (bf := b) (by omega) t i (by rw [weakV_len]; omega)
    have hs := weak_signs (bf := b) t i (by rw [weakV_len]; omega)
    have h1 : t.getD i 0 = 1 → x.getD i 0 = 1 := fun h => by rw [hx]; exact weak_side (.inl rfl) b t i h
    have h2 : t.getD i 0 = 2 → x.getD i 0 = 2 := fun h => by rw [hx]; exact weak_side (.inr rfl) b t i h
    have h3 : t.getD i 0 = 3 → x.getD i 0 = 2 := fun h => by rw [hx]; exact weak_arabic b t i h (by omega)
    rw [← hx] at h9 hs
    rw [laws_FnLevelWeak.l0, if_pos (by omega), if_pos (by omega), if_pos (by omega)]
    simp only [rdG]
    rw [if_neg hs.1, if_neg hs.2.1, if_neg hs.2.2.1, if_neg hs.2.2.2, laws_FnLevelWeak.j2, if_neg (by simpa using h9), if_pos (by omega), if_pos (by omega)]
    simp only [rdG]
    rw [wadd i (by omega), ih]
    generalize t.getD i 0 = u at h1 h2 h3
    generalize x.getD i 0 = v at h1 h2 h3
    grind
theorem FnLevelWeak : laws_FnLevelWeak.Pure := by
  intro l _ _ hl
  refine ⟨100001, ?_⟩
  unfold laws_FnLevelWeak.f
  by_cases h : (l.length : Int) > 1048576
  · rw [if_pos h]
  · obtain ⟨t, b, ht, htl⟩ := drawWeak_k hl (k := 100001) (by omega)
    have hwl := levelWeakV_len t b
    rw [if_neg h, ht, Option.bind_some, implLevelWeak_p, Option.bind_some, specLevelWeak_p (by simp only; omega) (by simp only; omega) (by omega), Option.bind_some, wcInts_s (by simp only; omega) (by simp only; omega), Option.bind_some, if_pos rfl, laws_FnLevelWeak.j0]
    by_cases h0 : (levelWeakV t b).length = 0
    · rw [if_pos (by simp [h0]), specLevelWeak_p (by simp only; omega) (by simp only; omega) (by omega), Option.bind_some, wcInts_s (by simp only; omega) (by simp only; omega), Option.bind_some]
    · rw [if_neg (by simpa using h0)]
      unfold levelWeakV at h0 ⊢
      by_cases hok : classesOkV t = true ∧ sideV b = true
      · rw [if_pos hok]
        have h80 : t.length ≤ 80 := by
          have := hok.1
          simp [classesOkV] at this; exact this.1
        exact lawWeak_l rfl (by simpa [sideV] using hok.2) hok.1 h80 t.length 100000 0 (by omega) (by omega) (by omega)
      · rw [if_neg hok] at h0; simp at h0
end Go.Proofs.Ytojehfdioeglgaa.Pure
