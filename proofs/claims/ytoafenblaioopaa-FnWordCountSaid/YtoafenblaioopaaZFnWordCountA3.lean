/- WordCount counts as the reference does, and as the statement says of letters set behind, for every text that the reference draws. No condition beyond the statement's own. (text 4 of 5 of this claim: functions of the program and of the reference as plain Lean functions, what a call of each comes to, and what follows.) -/
import Derived.Test.YtoafenblaioopaaZFnWordCountA2
import Derived.Test.YtoafenblaioopaaZFnWordCountA1
import Derived.Test.YtoafenblaioopaaZFnWordCountA0
/- Where words start, by both texts. -/
namespace Go.Proofs.Ytoafenblaioopaa.Pure
open Go.RowKit Go.Proofs.Ytoafenblaioopaa.S Go.Proofs.YtoafenblaioopaaW.PrintWords Go.Proofs.YtoafenblaioopaaW.PrintLast
def flagV (a : Int) : Bool := decide (127462 ≤ a) && decide (a ≤ 127487)
theorem flag_p (a : Int) : spec_l2Flag.f a = some (flagV a) := by
  unfold spec_l2Flag.f flagV
  rw [l1In_p]; rfl
theorem regional_p (a : Int) : impl_isRegional.f a = some (flagV a) := by
  unfold impl_isRegional.f flagV
  by_cases h : 127462 ≤ a <;> simp [h]
def joinI (st a : Int) : Bool := if st = 0 then false else if st = 2 then false else if a = 10 then decide (st = 1) else if bidiV a = 9 then true else if a = 8205 then true else if flagV a = true then decide (st = 3) else false
def nextI (st a : Int) : Int := if a = 13 then 1 else if a = 10 then 2 else if flagV a = true then (if st = 3 then 4 else 3) else 5
theorem joins_p (k : Nat) (st a : Int) : impl_joining_joins.f (k + 1) st a = some (joinI st a) := by
  simp only [impl_joining_joins.f, impl_joining_joins.j0, impl_bidi_p, regional_p, Option.bind_some, joinI]
  grind
theorem next_p (k : Nat) (st a : Int) : impl_joining_next.f (k + 1) st a = some (nextI st a) := by
  simp only [impl_joining_next.f, impl_joining_next.j0, regional_p, Option.bind_some, nextI]
  grind
def stV (l : List Int) : Nat → Int
  | 0 => 0
  | i + 1 => nextI (stV l i) (l.getD i 0)
def joinV (l : List Int) (i : Nat) : Bool := joinI (stV l i) (l.getD i 0)
theorem joinV_zero (l : List Int) : joinV l 0 = false := by simp [joinV, stV, joinI]
theorem joined_l (l : List Int) (hn : l.length ≤ 1099511627776) : ∀ (d k i : Nat), l.length - i = d → i ≤ l.length → d + 1 < k →
    impl_joined.l0 k ((List.range i).map (joinV l)) (stV l i) l (l.length : Int) (i : Int) = some ((List.range l.length).map (joinV l))
  | 0, k, i, hd, hi, hk => by
    obtain ⟨k, rfl⟩ : ∃ m, k = m + 1 := ⟨k - 1, by omega⟩
    have e : i = l.length := by omega
    subst e
    rw [impl_joined.l0, if_neg (by omega)]
  | d + 1, k, i, hd, hi, hk => by
    obtain ⟨k, rfl⟩ : ∃ m, k = m + 1 + 1 := ⟨k - 2, by omega⟩
    have hlt : i < l.length := by omega
    rw [impl_joined.l0, if_pos (by omega), if_pos (by omega), if_pos (by omega), rd_nat, joins_p, Option.bind_some, if_pos (by simp; omega), next_p, Option.bind_some, w64 (by omega) (by omega)]
    have := joined_l l hn d (k + 1) (i + 1) (by omega) (by omega) (by omega)
    rw [List.range_succ, List.map_append] at this
    exact this
def joinedV (l : List Int) : List Bool := (List.range l.length).map (joinV l)
theorem joined_p {l : List Int} {k : Nat} (hn : l.length ≤ 1099511627776) (hk : l.length + 2 < k) : impl_joined.f k l = some (joinedV l) :=
  joined_l l hn l.length k 0 (by omega) (by omega) (by omega)
theorem joinedV_len (l : List Int) : (joinedV l).length = l.length := by simp [joinedV]
theorem joinedV_at {l : List Int} {i : Nat} (h : i < l.length) : rdOf false (joinedV l) (i : Int) = joinV l i := by
  simp [rdOf, joinedV, List.getD_eq_getElem?_getD, h]
/-- The starts below i. -/
def stList (l : List Int) (i : Nat) : List Nat := (List.range i).filter fun j => !joinV l j
def ints (l : List Nat) : List Int := l.map fun (j : Nat) => (j : Int)
theorem stList_succ (l : List Int) (i : Nat) : stList l (i + 1) = stList l i ++ (if joinV l i = true then [] else [i]) := by
  unfold stList
  rw [List.range_succ, List.filter_append]
  cases h : joinV l i <;> simp [h]
theorem stList_len (l : List Int) (i : Nat) : (stList l i).length ≤ i := by
  have := List.length_filter_le (fun j => !joinV l j) (List.range i)
  simpa [stList] using this
theorem stList_lt {l : List Int} {i j : Nat} (h : j ∈ stList l i) : j < i := by
  simp [stList] at h; exact h.1
theorem starts_l (l : List Int) (hn : l.length ≤ 1099511627776) : ∀ (d k i : Nat), l.length - i = d → i ≤ l.length → d < k →
    impl_starts.l0 k (ints (stList l i)) (joinedV l) (l.length : Int) (i : Int) = some (ints (stList l l.length))
  | 0, k, i, hd, hi, hk => by
    obtain ⟨k, rfl⟩ : ∃ m, k = m + 1 := ⟨k - 1, by omega⟩
    have e : i = l.length := by omega
    subst e
    rw [impl_starts.l0, if_neg (by omega)]
  | d + 1, k, i, hd, hi, hk => by
    obtain ⟨k, rfl⟩ : ∃ m, k = m + 1 := ⟨k - 1, by omega⟩
    have hlt : i < l.length := by omega
    have hs := stList_len l i
    have := starts_l l hn d k (i + 1) (by omega) (by omega) (by omega)
    rw [stList_succ] at this
    rw [impl_starts.l0, if_pos (by omega), if_pos (by omega), if_pos (by rw [joinedV_len]; omega), joinedV_at hlt, w64 (by omega) (by omega)]
    cases h : joinV l i
    · rw [if_neg (by simp), if_pos (by simp [ints]; omega)]
      rw [h] at this
      simpa [ints] using this
    · rw [if_pos rfl]
      rw [h] at this
      simpa [ints] using this
theorem starts_p {l : List Int} {k : Nat} (hn : l.length ≤ 1099511627776) (hk : l.length + 2 < k) : impl_starts.f k l = some (ints (stList l l.length)) := by
  unfold impl_starts.f
  rw [joined_p hn hk, Option.bind_some, joinedV_len]
  exact starts_l l hn l.length k 0 (by omega) (by omega) (by omega)
/-! words -/
def wordV (a : Int) : Bool := decide (bidiV a = 1) || decide (bidiV a = 2) || decide (bidiV a = 3) || decide (bidiV a = 4) || decide (bidiV a = 7)
theorem ofWord_p {k : Nat} (h : 6 ≤ k) (a : Int) : impl_ofWord.f k a = some (wordV a) := by
  obtain ⟨k, rfl⟩ : ∃ m, k = m + 6 := ⟨k - 6, by omega⟩
  unfold impl_ofWord.f
  rw [impl_bidi_p, Option.bind_some]
  unfold wordV
  generalize bidiV a = b
  by_cases h1 : b = 1
  · subst h1; simp [impl_oneOf.f, impl_oneOf.l0, rd]
  by_cases h2 : b = 2
  · subst h2; simp [impl_oneOf.f, impl_oneOf.l0, rd, wrap64]
  by_cases h3 : b = 3
  · subst h3; simp [impl_oneOf.f, impl_oneOf.l0, rd, wrap64]
  by_cases h4 : b = 4
  · subst h4; simp [impl_oneOf.f, impl_oneOf.l0, rd, wrap64]
  by_cases h5 : b = 7
  · subst h5; simp [impl_oneOf.f, impl_oneOf.l0, rd, wrap64]
  simp [impl_oneOf.f, impl_oneOf.l0, rd, wrap64, h1, h2, h3, h4, h5]
theorem l10Word_p {l : List Int} {i k : Nat} (hi : i < l.length) (hk : 14 ≤ k) : spec_l10Word.f k l (i : Int) = some (wordV (l.getD i 0)) := by
  unfold spec_l10Word.f
  rw [if_pos (by omega), if_pos (by omega), rd_nat, spec_bidi_k hk, Option.bind_some]
  unfold wordV
  generalize bidiV (l.getD i 0) = b
  grind
/-! joins, as the reference tells it -/
def frun (l : List Int) : Nat → Nat
  | 0 => 0
  | i + 1 => if flagV (l.getD i 0) = true then frun l i + 1 else 0
theorem flag_not {a : Int} (h : flagV a = true) : a ≠ 13 ∧ a ≠ 10 := by
  simp [flagV] at h; omega
theorem stV_three (l : List Int) : ∀ i, (stV l i = 3 ↔ frun l i % 2 = 1)
  | 0 => by simp [stV, frun]
  | i + 1 => by
    have ih := stV_three l i
    simp only [stV, frun, nextI]
    by_cases hf : flagV (l.getD i 0) = true
    · have := flag_not hf
      rw [if_neg this.1, if_neg this.2, if_pos hf, if_pos hf]
      by_cases h3 : stV l i = 3
      · have := ih.1 h3
        rw [if_pos h3]; omega
      · have : ¬ frun l i % 2 = 1 := fun h => h3 (ih.2 h)
        rw [if_neg h3]; omega
    · rw [if_neg hf, if_neg hf]
      by_cases h1 : l.getD i 0 = 13
      · rw [if_pos h1]; omega
      · rw [if_neg h1]
        by_cases h2 : l.getD i 0 = 10
        · rw [if_pos h2]; omega
        · rw [if_neg h2]; omega
theorem stV_prev (l : List Int) (i : Nat) : stV l (i + 1) ≠ 0 ∧ (stV l (i + 1) = 1 ↔ l.getD i 0 = 13) ∧ (stV l (i + 1) = 2 ↔ l.getD i 0 = 10) := by
  simp only [stV, nextI]
  grind
theorem back_l (l : List Int) (hn : l.length ≤ 1099511627776) (a : Int) : ∀ (i k : Nat) (n : Int), i ≤ l.length → i < k → 0 ≤ n → n + i ≤ 2199023255552 →
    spec_l2Joins.l0 k l a n ((i : Int) - 1) = some (flagV a && decide ((n + frun l i) % 2 = 1))
  | 0, k, n, hi, hk, h0, h1 => by
    obtain ⟨k, rfl⟩ : ∃ m, k = m + 1 := ⟨k - 1, by omega⟩
    rw [spec_l2Joins.l0, if_neg (by omega), flag_p, Option.bind_some, Int.tmod_eq_emod_of_nonneg h0]
    cases flagV a <;> simp [frun] <;> rfl
  | i + 1, k, n, hi, hk, h0, h1 => by
    obtain ⟨k, rfl⟩ : ∃ m, k = m + 1 := ⟨k - 1, by omega⟩
    rw [show (((i + 1 : Nat) : Int) - 1) = (i : Int) by omega, spec_l2Joins.l0, if_pos (by omega), if_pos (by omega), if_pos (by omega), rd_nat, flag_p, Option.bind_some, frun]
    cases hf : flagV (l.getD i 0)
    · rw [if_neg (by simp), if_neg (by simp), flag_p, Option.bind_some, Int.tmod_eq_emod_of_nonneg h0]
      cases flagV a <;> simp <;> rfl
    · rw [if_pos rfl, if_pos rfl]
      rw [w64 (by omega) (by omega), w64 (by omega) (by omega), back_l l hn a i k (n + 1) (by omega) (by omega) (by omega) (by omega)]
      rw [show n + 1 + (frun l i : Int) = n + ((frun l i + 1 : Nat) : Int) by omega]
set_option maxHeartbeats 8000000 in
theorem l2Joins_p {l : List Int} {i k : Nat} (hn : l.length ≤ 1099511627776) (h0 : 0 < i) (hi : i < l.length) (hk : l.length + 20 ≤ k) : spec_l2Joins.f k l (i : Int) = some (joinV l i) := by
  obtain ⟨j, rfl⟩ : ∃ j, i = j + 1 := ⟨i - 1, by omega⟩
  obtain ⟨k, rfl⟩ : ∃ m, k = m + 1 + 1 := ⟨k - 2, by omega⟩
  obtain ⟨p0, p1, p2⟩ := stV_prev l j
  have p3 := stV_three l (j + 1)
  have hb := back_l l hn (l.getD (j + 1) 0) (j + 1) k 0 (by omega) (by omega) (by omega) (by omega)
  rw [show (((j + 1 : Nat) : Int) - 1) = (j : Int) by omega] at hb
  have c1 : ((j + 1 : Nat) : Int) < (l.length : Int) := by omega
  have c2 : (0 : Int) ≤ ((j + 1 : Nat) : Int) := by omega
  have e1 : (0 : Int) ≤ (j : Int) := by omega
  have e2 : (j : Int) < (l.length : Int) := by omega
  have w : wrap64 (((j + 1 : Nat) : Int) - 1) = (j : Int) := by rw [w64 (by omega) (by omega)]; omega
  have hbi' := spec_bidi_k (k := k + 1) (by omega) (l.getD (j + 1) 0)
  simp only [spec_l2Joins.f, spec_l2Joins.j0, spec_l2Joins.j1, c1, c2, e1, e2, w, rd_nat, hb, hbi', Option.bind_some, if_true]
  unfold joinV joinI
  have e3 : decide ((0 + (frun l (j + 1) : Int)) % 2 = 1) = decide (stV l (j + 1) = 3) := by
    rw [decide_eq_decide, p3]; omega
  rw [e3]
  generalize stV l (j + 1) = st at *
  generalize l.getD (j + 1) 0 = a at *
  generalize l.getD j 0 = p at *
  generalize bidiV a = b at *
  generalize flagV a = f at *
  clear hb hbi'
  cases f <;> grind (splits := 30)
def atV (l : List Int) : Nat → Nat
  | 0 => 0
  | i + 1 => if joinV l (i + 1) = true then atV l i else i + 1
theorem atV_le (l : List Int) : ∀ i, atV l i ≤ i
  | 0 => by simp [atV]
  | i + 1 => by
    have := atV_le l i
    simp only [atV]; split <;> omega
theorem atV_eq (l : List Int) (i : Nat) : atV l i = i ↔ joinV l i = false := by
  cases i with
  | zero => simp [atV, joinV_zero]
  | succ i =>
    have := atV_le l i
    simp only [atV]
    cases h : joinV l (i + 1)
    · simp
    · simp; omega
theorem at_p {l : List Int} (hn : l.length ≤ 1099511627776) : ∀ (i k : Nat), i < l.length → i + l.length + 22 ≤ k → spec_l2At.f k l (i : Int) = some (atV l i : Int)
  | 0, k, hi, hk => by
    obtain ⟨k, rfl⟩ : ∃ m, k = m + 1 := ⟨k - 1, by omega⟩
    unfold spec_l2At.f
    rw [spec_l2At.l0, if_neg (by omega)]; rfl
  | i + 1, k, hi, hk => by
    obtain ⟨k, rfl⟩ : ∃ m, k = m + 1 := ⟨k - 1, by omega⟩
    have ih := at_p hn i k (by omega) (by omega)
    unfold spec_l2At.f at ih ⊢
    rw [spec_l2At.l0, if_pos (by omega), l2Joins_p hn (by omega) hi (by omega), Option.bind_some, w64 (by omega) (by omega), show (((i + 1 : Nat) : Int) - 1) = (i : Int) by omega, ih, atV]
    cases joinV l (i + 1) <;> simp
def wdV (l : List Int) (i : Nat) : Bool := wordV (l.getD i 0)
def begV (l : List Int) (i : Nat) : Bool := !joinV l i && (decide (i = 0) || (wdV l i != wdV l (atV l (i - 1))))
theorem begins_p {l : List Int} {i k : Nat} (hn : l.length ≤ 1099511627776) (hi : i < l.length) (hk : 2 * l.length + 40 ≤ k) : spec_l10Begins.f k l (i : Int) = some (begV l i) := by
  unfold spec_l10Begins.f
  rw [at_p hn i k hi (by omega), Option.bind_some]
  have h := atV_eq l i
  unfold begV
  by_cases hj : joinV l i = true
  · rw [if_neg (by rw [hj] at h; simp at h; omega), hj]; rfl
  · have hj : joinV l i = false := by simpa using hj
    rw [if_pos (by rw [h.2 hj]), hj]
    by_cases h0 : i = 0
    · subst h0; simp
    · have := atV_le l (i - 1)
      rw [if_neg (by omega), l10Word_p hi (by omega), Option.bind_some, w64 (by omega) (by omega), show ((i : Int) - 1) = ((i - 1 : Nat) : Int) by omega, at_p hn (i - 1) k (by omega) (by omega), Option.bind_some, l10Word_p (by omega) (by omega), Option.bind_some]
      simp [h0, wdV]
def begList (l : List Int) (i : Nat) : List Nat := (List.range i).filter (begV l)
theorem begList_succ (l : List Int) (i : Nat) : begList l (i + 1) = begList l i ++ (if begV l i = true then [i] else []) := by
  unfold begList
  rw [List.range_succ, List.filter_append]
  cases h : begV l i <;> simp [h]
theorem begList_len (l : List Int) (i : Nat) : (begList l i).length ≤ i := by
  have := List.length_filter_le (begV l) (List.range i)
  simpa [begList] using this
theorem specStarts_l (l : List Int) (hn : l.length ≤ 1099511627776) : ∀ (d k i : Nat), l.length - i = d → i ≤ l.length → d + 2 * l.length + 40 < k →
    spec_WordStarts.l0 k l (ints (begList l i)) (i : Int) = some (ints (begList l l.length))
  | 0, k, i, hd, hi, hk => by
    obtain ⟨k, rfl⟩ : ∃ m, k = m + 1 := ⟨k - 1, by omega⟩
    have e : i = l.length := by omega
    subst e
    rw [spec_WordStarts.l0, if_neg (by omega)]
  | d + 1, k, i, hd, hi, hk => by
    obtain ⟨k, rfl⟩ : ∃ m, k = m + 1 := ⟨k - 1, by omega⟩
    have hlt : i < l.length := by omega
    have hs := begList_len l i
    have := specStarts_l l hn d k (i + 1) (by omega) (by omega) (by omega)
    rw [begList_succ] at this
    rw [spec_WordStarts.l0, if_pos (by omega), begins_p hn hlt (by omega), Option.bind_some, w64 (by omega) (by omega)]
    cases h : begV l i
    · rw [if_neg (by simp)]
      rw [h] at this
      simpa [ints] using this
    · rw [if_pos rfl, if_pos (by simp [ints]; omega)]
      rw [h] at this
      simpa [ints] using this
def wordStartsV (l : List Int) : List Int := if okV l = true then ints (begList l l.length) else []
theorem specWordStarts_p {l : List Int} {k : Nat} (hn : l.length ≤ 1099511627776) (hk : 3 * l.length + 50 ≤ k) : spec_WordStarts.f k l = some (wordStartsV l) := by
  unfold spec_WordStarts.f wordStartsV
  rw [Option.bind_some, ok_p hn (by omega), Option.bind_some]
  cases okV l
  · rfl
  · exact specStarts_l l hn l.length k 0 (by omega) (by omega) (by omega)
/-! the program's -/
def wsStep (l : List Int) (st : List Nat × Bool × Bool) (s : Nat) : List Nat × Bool × Bool :=
  (if st.2.2 = true then st.1 ++ [s] else if wdV l s = st.2.1 then st.1 else st.1 ++ [s], wdV l s, false)
def wsRun (l : List Int) (s : List Nat) : List Nat × Bool × Bool := s.foldl (wsStep l) ([], false, true)
theorem wsRun_beg (l : List Int) : ∀ i, wsRun l (stList l (i + 1)) = (begList l (i + 1), wdV l (atV l i), false)
  | 0 => by
    have e : stList l 1 = [0] := by simp [stList, joinV_zero, List.range_succ]
    have e2 : begList l 1 = [0] := by simp [begList, begV, joinV_zero, List.range_succ]
    rw [e, e2]; simp [wsRun, wsStep, atV]
  | i + 1 => by
    have ih := wsRun_beg l i
    rw [stList_succ, begList_succ]
    unfold wsRun at ih ⊢
    rw [List.foldl_append, ih]
    cases h : joinV l (i + 1)
    · simp only [Bool.false_eq_true, if_false, List.foldl_cons, List.foldl_nil, wsStep, begV, h, atV]
      by_cases hw : wdV l (i + 1) = wdV l (atV l i) <;> simp [hw]
    · simp [atV, h, begV]
theorem wsRun_nil (l : List Int) : ∀ i, (wsRun l (stList l i)).1 = begList l i
  | 0 => by simp [wsRun, stList, begList]
  | i + 1 => by rw [wsRun_beg]
theorem wsRun_len (l : List Int) : ∀ (s : List Nat) (st : List Nat × Bool × Bool), (s.foldl (wsStep l) st).1.length ≤ st.1.length + s.length
  | [], st => by simp
  | x :: s, st => by
    have := wsRun_len l s (wsStep l st x)
    have h : (wsStep l st x).1.length ≤ st.1.length + 1 := by
      unfold wsStep; simp only; split
      · simp
      · split <;> simp
    simp only [List.foldl_cons, List.length_cons]; omega
theorem ws_l (l : List Int) (s : List Nat) (hs : s.length ≤ 1099511627776) (hlt : ∀ x ∈ s, x < l.length) : ∀ (d k i : Nat), s.length - i = d → i ≤ s.length → d + 6 < k →
    impl_wordStarts.l0 k l (ints (wsRun l (s.take i)).1) (wsRun l (s.take i)).2.1 (ints s) (s.length : Int) (i : Int) = some (ints (wsRun l s).1)
  | 0, k, i, hd, hi, hk => by
    obtain ⟨k, rfl⟩ : ∃ m, k = m + 1 := ⟨k - 1, by omega⟩
    have e : i = s.length := by omega
    subst e
    rw [impl_wordStarts.l0, if_neg (by omega), List.take_length]
  | d + 1, k, i, hd, hi, hk => by
    obtain ⟨k, rfl⟩ : ∃ m, k = m + 1 := ⟨k - 1, by omega⟩
    have hlt' : i < s.length := by omega
    have hl := wsRun_len l (s.take i) ([], false, true)
    have hl' : (wsRun l (s.take i)).1.length ≤ i := by
      have : (s.take i).length = i := by simp; omega
      unfold wsRun; simp at hl; omega
    have e : rd (ints s) (i : Int) = (s[i] : Int) := by simp [ints, rd, List.getD_eq_getElem?_getD, hlt']
    have hb := hlt s[i] (List.getElem_mem hlt')
    have := ws_l l s hs hlt d k (i + 1) (by omega) (by omega) (by omega)
    have hf : i = 0 ↔ (wsRun l (s.take i)).2.2 = true := by
      cases i with
      | zero => simp [wsRun]
      | succ i =>
        rw [List.take_succ_eq_append_getElem (show i < s.length by omega)]
        unfold wsRun
        rw [List.foldl_append]
        simp only [List.foldl_cons, List.foldl_nil, wsStep]
        simp
    have hst : wsRun l (s.take (i + 1)) = wsStep l (wsRun l (s.take i)) s[i] := by
      rw [List.take_succ_eq_append_getElem hlt']
      unfold wsRun
      rw [List.foldl_append]
      rfl
    rw [hst] at this
    rw [impl_wordStarts.l0, if_pos (by omega), if_pos (by omega), if_pos (by simp [ints]; omega), e, if_pos (by omega), if_pos (by omega), rd_nat, ofWord_p (by omega), Option.bind_some, w64 (by omega) (by omega)]
    generalize wsRun l (s.take i) = st at *
    obtain ⟨out, w, f⟩ := st
    simp only [wsStep] at this
    by_cases h0 : i = 0
    · have hf' : f = true := hf.1 h0
      rw [if_pos (by omega), if_pos (by simp [ints]; simp at hl'; omega)]
      rw [if_pos hf'] at this
      simpa [ints, wdV] using this
    · have hf' : ¬ f = true := fun h => h0 (hf.2 h)
      rw [if_neg hf'] at this
      rw [if_neg (by omega)]
      by_cases hw : wdV l s[i] = w
      · rw [if_pos hw] at this
        rw [if_neg (by simpa [wdV] using hw)]
        simpa [ints, wdV] using this
      · rw [if_neg hw] at this
        rw [if_pos (by simpa [wdV] using hw), if_pos (by simp [ints]; simp at hl'; omega)]
        simpa [ints, wdV] using this
theorem implWordStarts_p {l : List Int} {k : Nat} (hk : 300 ≤ k) : impl_WordStarts.f k l = some (wordStartsV l) := by
  unfold impl_WordStarts.f wordStartsV impl_lettersOk.f
  rw [Option.bind_some]
  by_cases h : okV l = true
  · have hl := ok_len h
    have hs := stList_len l l.length
    rw [if_pos h, if_pos h]
    unfold impl_wordStarts.f
    rw [starts_p (by omega) (by omega), Option.bind_some, ← wsRun_nil]
    have := ws_l l (stList l l.length) (by omega) (fun x h => stList_lt h) (stList l l.length).length k 0 (by omega) (by omega) (by omega)
    simp only [List.take_zero] at this
    have e : ((ints (stList l l.length)).length : Int) = ((stList l l.length).length : Int) := by simp [ints]
    rw [e]
    simpa [wsRun, ints] using this
  · rw [if_neg h, if_neg h]
end Go.Proofs.Ytoafenblaioopaa.Pure

/- How many words, by both texts. -/
namespace Go.Proofs.Ytoafenblaioopaa.Pure
open Go.RowKit Go.Proofs.Ytoafenblaioopaa.S Go.Proofs.YtoafenblaioopaaW.PrintWords Go.Proofs.YtoafenblaioopaaW.PrintLast
def cntV (l : List Int) (s : List Nat) : Nat := (s.filter (wdV l)).length
theorem cntV_le (l : List Int) (s : List Nat) : cntV l s ≤ s.length := List.length_filter_le _ _
theorem specCount_l (l : List Int) (hn : l.length ≤ 1099511627776) : ∀ (d k i : Nat), l.length - i = d → i ≤ l.length → d + 2 * l.length + 40 < k →
    spec_WordCount.l0 k l (cntV l (begList l i) : Int) (i : Int) = some (cntV l (begList l l.length) : Int)
  | 0, k, i, hd, hi, hk => by
    obtain ⟨k, rfl⟩ : ∃ m, k = m + 1 := ⟨k - 1, by omega⟩
    have e : i = l.length := by omega
    subst e
    rw [spec_WordCount.l0, if_neg (by omega)]
  | d + 1, k, i, hd, hi, hk => by
    obtain ⟨k, rfl⟩ : ∃ m, k = m + 1 := ⟨k - 1, by omega⟩
    have hlt : i < l.length := by omega
    have hs := begList_len l i
    have hc := cntV_le l (begList l i)
    have := specCount_l l hn d k (i + 1) (by omega) (by omega) (by omega)
    rw [begList_succ] at this
    rw [spec_WordCount.l0, if_pos (by omega), begins_p hn hlt (by omega), Option.bind_some, w64 (x := (i : Int) + 1) (by omega) (by omega), w64 (by omega) (by omega)]
    cases h : begV l i
    · rw [if_neg (by simp)]
      rw [h] at this
      simpa using this
    · rw [if_pos rfl, l10Word_p hlt (by omega), Option.bind_some]
      rw [h] at this
      have e : cntV l (begList l i ++ [i]) = cntV l (begList l i) + (if wdV l i = true then 1 else 0) := by
        unfold cntV; cases hw : wdV l i <;> simp [hw]
      rw [if_pos rfl, e] at this
      by_cases hw : wordV (l.getD i 0) = true
      · rw [if_pos hw]
        rw [if_pos (show wdV l i = true from hw)] at this
        simpa using this
      · rw [if_neg hw]
        rw [if_neg (show ¬ wdV l i = true from hw)] at this
        simpa using this
def wordCountV (l : List Int) : Nat := if okV l = true then cntV l (begList l l.length) else 0
theorem specWordCount_p {l : List Int} {k : Nat} (hn : l.length ≤ 1099511627776) (hk : 3 * l.length + 50 ≤ k) : spec_WordCount.f k l = some (wordCountV l : Int) := by
  unfold spec_WordCount.f wordCountV
  rw [ok_p hn (by omega), Option.bind_some]
  cases okV l
  · rfl
  · exact specCount_l l hn l.length k 0 (by omega) (by omega) (by omega)
theorem implCount_l (l : List Int) (s : List Nat) (hs : s.length ≤ 1099511627776) (hlt : ∀ x ∈ s, x < l.length) : ∀ (d k i : Nat), s.length - i = d → i ≤ s.length → d + 6 < k →
    impl_WordCount.l0 k l (cntV l (s.take i) : Int) (ints s) (s.length : Int) (i : Int) = some (cntV l s : Int)
  | 0, k, i, hd, hi, hk => by
    obtain ⟨k, rfl⟩ : ∃ m, k = m + 1 := ⟨k - 1, by omega⟩
    have e : i = s.length := by omega
    subst e
    rw [impl_WordCount.l0, if_neg (by omega), List.take_length]
  | d + 1, k, i, hd, hi, hk => by
    obtain ⟨k, rfl⟩ : ∃ m, k = m + 1 := ⟨k - 1, by omega⟩
    have hlt' : i < s.length := by omega
    have hc := cntV_le l (s.take i)
    have hc' : cntV l (s.take i) ≤ i := by simp at hc; omega
    have e : rd (ints s) (i : Int) = (s[i] : Int) := by simp [ints, rd, List.getD_eq_getElem?_getD, hlt']
    have hb := hlt s[i] (List.getElem_mem hlt')
    have := implCount_l l s hs hlt d k (i + 1) (by omega) (by omega) (by omega)
    have e2 : cntV l (s.take (i + 1)) = cntV l (s.take i) + (if wdV l s[i] = true then 1 else 0) := by
      rw [List.take_succ_eq_append_getElem hlt']
      unfold cntV
      rw [List.filter_append, List.length_append]
      cases hw : wdV l s[i] <;> simp [List.filter, hw]
    rw [e2] at this
    rw [impl_WordCount.l0, if_pos (by omega), if_pos (by omega), if_pos (by simp [ints]; omega), e, if_pos (by omega), if_pos (by omega), rd_nat, ofWord_p (by omega), Option.bind_some, w64 (x := (i : Int) + 1) (by omega) (by omega), w64 (by omega) (by omega)]
    by_cases hw : wdV l s[i] = true
    · rw [if_pos (show wordV (l.getD s[i] 0) = true from hw)]
      rw [if_pos hw] at this
      simpa using this
    · rw [if_neg (show ¬ wordV (l.getD s[i] 0) = true from hw)]
      rw [if_neg hw] at this
      simpa using this
theorem implWordCount_p {l : List Int} {k : Nat} (hk : 300 ≤ k) : impl_WordCount.f k l = some (wordCountV l : Int) := by
  unfold impl_WordCount.f
  rw [implWordStarts_p hk, Option.bind_some]
  unfold wordStartsV wordCountV
  by_cases h : okV l = true
  · have hl := ok_len h
    have hs := begList_len l l.length
    have := implCount_l l (begList l l.length) (by omega) (fun x hx => by simp [begList] at hx; exact hx.1) (begList l l.length).length k 0 (by omega) (by omega) (by omega)
    rw [if_pos h, if_pos h]
    have e : ((ints (begList l l.length)).length : Int) = ((begList l l.length).length : Int) := by simp [ints]
    rw [e]
    simpa [cntV] using this
  · obtain ⟨k, rfl⟩ : ∃ m, k = m + 1 := ⟨k - 1, by omega⟩
    rw [if_neg h, if_neg h, impl_WordCount.l0, if_neg (by simp)]; rfl
end Go.Proofs.Ytoafenblaioopaa.Pure

/- Letters set behind other letters change no word before them. -/
namespace Go.Proofs.Ytoafenblaioopaa.Pure
open Go.RowKit Go.Proofs.Ytoafenblaioopaa.S Go.Proofs.YtoafenblaioopaaW.PrintWords Go.Proofs.YtoafenblaioopaaW.PrintLast
theorem getD_pre {l s : List Int} {i : Nat} (h : i < l.length) : (l ++ s).getD i 0 = l.getD i 0 := by
  simp [List.getD_eq_getElem?_getD, List.getElem?_append_left, h]
theorem stV_pre {l s : List Int} : ∀ {i : Nat}, i ≤ l.length → stV (l ++ s) i = stV l i
  | 0, _ => rfl
  | i + 1, h => by rw [stV, stV, stV_pre (by omega), getD_pre (by omega)]
theorem joinV_pre {l s : List Int} {i : Nat} (h : i < l.length) : joinV (l ++ s) i = joinV l i := by
  rw [joinV, joinV, stV_pre (by omega), getD_pre h]
theorem atV_pre {l s : List Int} : ∀ {i : Nat}, i < l.length → atV (l ++ s) i = atV l i
  | 0, _ => rfl
  | i + 1, h => by rw [atV, atV, joinV_pre h, atV_pre (by omega)]
theorem wdV_pre {l s : List Int} {i : Nat} (h : i < l.length) : wdV (l ++ s) i = wdV l i := by rw [wdV, wdV, getD_pre h]
theorem begV_pre {l s : List Int} {i : Nat} (h : i < l.length) : begV (l ++ s) i = begV l i := by
  have := atV_le l (i - 1)
  rw [begV, begV, joinV_pre h, wdV_pre h, atV_pre (by omega), wdV_pre (by omega)]
theorem begList_pre {l s : List Int} : ∀ {i : Nat}, i ≤ l.length → begList (l ++ s) i = begList l i
  | 0, _ => rfl
  | i + 1, h => by rw [begList_succ, begList_succ, begList_pre (by omega), begV_pre (by omega)]
theorem cntV_pre {l s : List Int} {i : Nat} (h : i ≤ l.length) : cntV (l ++ s) (begList l i) = cntV l (begList l i) := by
  unfold cntV
  congr 1
  refine List.filter_congr fun x hx => wdV_pre ?_
  simp [begList] at hx; omega
theorem cntV_app (l : List Int) (a b : List Nat) : cntV l (a ++ b) = cntV l a + cntV l b := by
  unfold cntV; rw [List.filter_append, List.length_append]
/-- A letter that is no mark, no joiner, no flag and no end of a line joins nothing. -/
theorem joinI_plain {st a : Int} (h1 : a ≠ 10) (h2 : bidiV a ≠ 9) (h3 : a ≠ 8205) (h4 : flagV a = false) : joinI st a = false := by
  unfold joinI
  simp [h1, h2, h3, h4]
theorem plain (st a : Int) (h : a = 32 ∨ a = 97 ∨ a = 98) : joinI st a = false := by
  refine joinI_plain ?_ ?_ ?_ ?_ <;> rcases h with h | h | h <;> subst h <;> decide
theorem joinV_plain {l : List Int} {i : Nat} (h : l.getD i 0 = 32 ∨ l.getD i 0 = 97 ∨ l.getD i 0 = 98) : joinV l i = false := plain _ _ h
theorem atV_plain {l : List Int} {i : Nat} (h : joinV l i = false) : atV l i = i := (atV_eq l i).2 h
theorem count_end (l s : List Int) (h : okV l = true) (hs : okV (l ++ s) = true) (d : Nat) (hd : s.length = d + 1) (w0 : wdV (l ++ s) l.length = false) (R : List Nat)
    (hR : begList (l ++ s) (l.length + (d + 1)) = begList (l ++ s) (l.length + 1) ++ R) : wordCountV (l ++ s) = wordCountV l + cntV (l ++ s) R := by
  unfold wordCountV
  rw [if_pos hs, if_pos h, List.length_append, hd, hR, cntV_app, begList_succ, cntV_app, begList_pre (Nat.le_refl _), cntV_pre (Nat.le_refl _)]
  have : cntV (l ++ s) (if begV (l ++ s) l.length = true then [l.length] else []) = 0 := by
    unfold cntV
    split <;> simp [w0]
  rw [this]; omega
theorem word_not (l : List Int) (i : Nat) (h : l.getD i 0 = 32) : wdV l i = false := by rw [wdV, h]; decide
theorem word_is (l : List Int) (i : Nat) (h : l.getD i 0 = 97 ∨ l.getD i 0 = 98) : wdV l i = true := by
  rw [wdV]; rcases h with h | h <;> rw [h] <;> decide
theorem count_ab {l : List Int} (h : okV l = true) (hs : okV (l ++ [32, 97, 98]) = true) : wordCountV (l ++ [32, 97, 98]) = wordCountV l + 1 := by
  have g0 : (l ++ [32, 97, 98]).getD l.length 0 = 32 := by simp [List.getD_eq_getElem?_getD]
  have g1 : (l ++ [32, 97, 98]).getD (l.length + 1) 0 = 97 := by simp [List.getD_eq_getElem?_getD]
  have g2 : (l ++ [32, 97, 98]).getD (l.length + 2) 0 = 98 := by simp [List.getD_eq_getElem?_getD]
  have j0 := joinV_plain (.inl g0)
  have j1 := joinV_plain (.inr (.inl g1))
  have j2 := joinV_plain (.inr (.inr g2))
  have b1 : begV (l ++ [32, 97, 98]) (l.length + 1) = true := by
    rw [begV, j1, show l.length + 1 - 1 = l.length by omega, atV_plain j0, word_not _ _ g0, word_is _ _ (.inl g1)]; simp
  have b2 : begV (l ++ [32, 97, 98]) (l.length + 2) = false := by
    rw [begV, j2, show l.length + 2 - 1 = l.length + 1 by omega, atV_plain j1, word_is _ _ (.inl g1), word_is _ _ (.inr g2)]; simp
  rw [count_end l _ h hs 2 rfl (word_not _ _ g0) [l.length + 1] (by rw [show l.length + (2 + 1) = l.length + 2 + 1 by omega, begList_succ, b2, show l.length + 2 = l.length + 1 + 1 by omega, begList_succ, b1]; simp)]
  simp [cntV, word_is _ _ (.inl g1)]
theorem count_sp {l : List Int} (h : okV l = true) (hs : okV (l ++ [32, 32]) = true) : wordCountV (l ++ [32, 32]) = wordCountV l := by
  have g0 : (l ++ [32, 32]).getD l.length 0 = 32 := by simp [List.getD_eq_getElem?_getD]
  have g1 : (l ++ [32, 32]).getD (l.length + 1) 0 = 32 := by simp [List.getD_eq_getElem?_getD]
  rw [count_end l _ h hs 1 rfl (word_not _ _ g0) (if begV (l ++ [32, 32]) (l.length + 1) = true then [l.length + 1] else []) (by rw [show l.length + (1 + 1) = l.length + 1 + 1 by omega, begList_succ])]
  have : cntV (l ++ [32, 32]) (if begV (l ++ [32, 32]) (l.length + 1) = true then [l.length + 1] else []) = 0 := by
    unfold cntV
    split <;> simp [word_not _ _ g1]
  rw [this]; rfl
theorem ok_app {l s : List Int} (h : okV l = true) (hs : s.all isLetV = true) (hn : (l ++ s).length ≤ 80) : okV (l ++ s) = true := by
  unfold okV at h ⊢
  simp only [Bool.and_eq_true, decide_eq_true_eq, List.all_append] at h ⊢
  exact ⟨hn, h.2, hs⟩
end Go.Proofs.Ytoafenblaioopaa.Pure

/- What the reference's drawing answers always: something, and of bounded length. -/
namespace Go.Proofs.Ytoafenblaioopaa.Pure
open Go.RowKit Go.Proofs.Ytoafenblaioopaa.S Go.Proofs.YtoafenblaioopaaW.PrintWords Go.Proofs.YtoafenblaioopaaW.PrintLast
theorem xor_k {x y : Int} (hx : 0 ≤ x) (hx' : x < 4611686018427387904) (hy : 0 ≤ y) (hy' : y < 4611686018427387904) : 0 ≤ Go.bits .xor .i64 x y := by
  obtain ⟨a, rfl⟩ : ∃ a : Nat, x = (a : Int) := ⟨x.toNat, by omega⟩
  obtain ⟨b, rfl⟩ : ∃ b : Nat, y = (b : Int) := ⟨y.toNat, by omega⟩
  have e : (BitVec.ofInt 64 (a : Int) ^^^ BitVec.ofInt 64 (b : Int)).toNat < 2 ^ 62 := by
    rw [BitVec.toNat_xor, BitVec.ofInt_natCast, BitVec.ofInt_natCast, BitVec.toNat_ofNat, BitVec.toNat_ofNat, Nat.mod_eq_of_lt (by omega), Nat.mod_eq_of_lt (by omega)]
    exact Nat.xor_lt_two_pow (by omega) (by omega)
  show 0 ≤ IntKind.wrap .i64 ((BitVec.ofInt 64 (a : Int) ^^^ BitVec.ofInt 64 (b : Int)).toNat : Int)
  generalize (BitVec.ofInt 64 (a : Int) ^^^ BitVec.ofInt 64 (b : Int)).toNat = n at e
  rw [IntWalk.i64_in _ (by omega)]
  omega
def DS (s : List Int) : Prop := s.length ≤ 2000 ∧ ∀ x ∈ s, 0 ≤ x ∧ x ≤ 255
theorem rd_byte {s : List Int} (h : DS s) (i : Int) : 0 ≤ rd s i ∧ rd s i ≤ 255 := by
  unfold rd
  by_cases hi : i.toNat < s.length
  · have := h.2 s[i.toNat] (List.getElem_mem hi)
    simpa [List.getD_eq_getElem?_getD, hi] using this
  · simp [List.getD_eq_getElem?_getD, hi]
set_option maxHeartbeats 8000000 in
theorem pick_k {s : List Int} (hs : DS s) {p n : Int} {k : Nat} (h0 : 0 ≤ p) (h1 : p ≤ 1000000) (hn : 1 ≤ n) (hn' : n ≤ 1000000) (hk : 1 ≤ k) : ∃ v, spec_l1Rd_pick.f k s p n = some (v, p + 1) ∧ 0 ≤ v ∧ v < n := by
  obtain ⟨k, rfl⟩ : ∃ m, k = m + 1 := ⟨k - 1, by omega⟩
  have hl := hs.1
  unfold spec_l1Rd_pick.f
  rw [if_neg (by omega), w64 (by omega) (by omega), spec_l1Rd_pick.j0]
  by_cases hz : s.length = 0
  · rw [if_pos (by simp [hz])]
    exact ⟨0, rfl, by omega, by omega⟩
  · rw [if_neg (by simpa using hz), w64 (x := p + 1 - 1) (by omega) (by omega), show p + 1 - 1 = p by omega]
    by_cases hp : p < (s.length : Int)
    · have hb := rd_byte hs p
      rw [if_pos hp, if_pos h0, if_neg (by omega), w64 (by omega) (by omega)]
      refine ⟨_, rfl, Int.tmod_nonneg _ hb.1, Int.tmod_lt_of_pos _ (by omega)⟩
    · have hd := Int.tdiv_eq_ediv_of_nonneg (b := (s.length : Int)) h0
      have hd0 : 0 ≤ p / (s.length : Int) := Int.ediv_nonneg h0 (by omega)
      have hd1 : p / (s.length : Int) ≤ p := Int.ediv_le_self _ h0
      have e1 := Int.tmod_nonneg (s.length : Int) h0
      have e2 := Int.tmod_lt_of_pos p (show 0 < (s.length : Int) by omega)
      have e3 := Int.tmod_nonneg (s.length : Int) (show 0 ≤ p * 7 + 3 by omega)
      have e4 := Int.tmod_lt_of_pos (p * 7 + 3) (show 0 < (s.length : Int) by omega)
      rw [hd, w64 (x := p * 7) (by omega) (by omega), w64 (x := p * 7 + 3) (by omega) (by omega), w64 (x := p * 29) (by omega) (by omega)]
      generalize p / (s.length : Int) = dv at hd0 hd1
      generalize Int.tmod p (s.length : Int) = i1 at e1 e2
      generalize Int.tmod (p * 7 + 3) (s.length : Int) = i2 at e3 e4
      have b1 := rd_byte hs i1
      have b2 := rd_byte hs i2
      generalize rd s i1 = c1 at b1
      generalize rd s i2 = c2 at b2
      rw [if_neg hp, if_neg (by omega), if_pos e1, if_pos e2, if_pos e3, if_pos e4, if_neg (by omega), w64 (x := dv) (by omega) (by omega), w64 (x := c1) (by omega) (by omega), w64 (x := c2) (by omega) (by omega), w64 (x := c1 * 131) (by omega) (by omega), w64 (x := c2 * 1117) (by omega) (by omega),
        w64 (x := dv * 53) (by omega) (by omega), w64 (x := c1 * 131 + c2 * 1117) (by omega) (by omega), w64 (x := c1 * 131 + c2 * 1117 + p * 29) (by omega) (by omega), w64 (x := c1 * 131 + c2 * 1117 + p * 29 + dv * 53) (by omega) (by omega)]
      have hh : 0 ≤ c1 * 131 + c2 * 1117 + p * 29 + dv * 53 ∧ c1 * 131 + c2 * 1117 + p * 29 + dv * 53 ≤ 1099511627776 := by omega
      generalize c1 * 131 + c2 * 1117 + p * 29 + dv * 53 = hv at hh
      rw [Int.tdiv_eq_ediv_of_nonneg hh.1, w64 (x := hv / 64) (by omega) (by omega)]
      exact ⟨_, rfl, Int.tmod_nonneg _ (xor_k hh.1 (by omega) (by omega) (by omega)), Int.tmod_lt_of_pos _ (by omega)⟩
theorem one_k {s L : List Int} (hs : DS s) {p : Int} {k : Nat} (h0 : 0 ≤ p) (h1 : p ≤ 1000000) (hn : 1 ≤ L.length) (hn' : L.length ≤ 100) (hk : 1 ≤ k) : ∃ v, spec_l1Rd_one.f k s p L = some (v, p + 1) := by
  obtain ⟨v, hv, v0, v1⟩ := pick_k hs (p := p) (n := (L.length : Int)) h0 h1 (by omega) (by omega) hk
  refine ⟨rd L v, ?_⟩
  unfold spec_l1Rd_one.f
  rw [hv, Option.bind_some, if_pos v0, if_pos v1]
def Ok1 (o : Option (Int × Int)) (q : Int) : Prop := ∃ v p', o = some (v, p') ∧ q ≤ p' ∧ p' ≤ q + 2
theorem one_b {s L : List Int} (hs : DS s) {p q : Int} {k : Nat} (h0 : 0 ≤ p) (h1 : p ≤ 1000000) (hq : q ≤ p) (hq' : p ≤ q + 1) (hn : 1 ≤ L.length ∧ L.length ≤ 100) (hk : 1 ≤ k) :
    Ok1 ((spec_l1Rd_one.f k s p L).bind fun (bt : Int × Int) => (some (bt.1, bt.2))) q := by
  obtain ⟨v, hv⟩ := one_k hs (L := L) h0 h1 hn.1 hn.2 hk
  exact ⟨v, p + 1, by rw [hv]; rfl, by omega, by omega⟩
theorem ok_ite {c : Prop} [Decidable c] {a b : Option (Int × Int)} {q : Int} (h1 : Ok1 a q) (h2 : Ok1 b q) : Ok1 (if c then a else b) q := by
  split <;> assumption
set_option maxHeartbeats 8000000 in
theorem rune_k {s : List Int} (hs : DS s) {p : Int} {k : Nat} (h0 : 0 ≤ p) (h1 : p ≤ 900000) (hk : 4 ≤ k) : Ok1 (spec_l13Rune.f k s p) p := by
  obtain ⟨k, rfl⟩ : ∃ m, k = m + 4 := ⟨k - 4, by omega⟩
  obtain ⟨n, hv, v0, v1⟩ := pick_k hs (p := p) (n := 16) (k := k + 4) h0 (by omega) (by omega) (by omega) (by omega)
  unfold spec_l13Rune.f
  rw [hv, Option.bind_some]
  simp only [spec_l13Rune.j0, spec_l13Rune.j1, spec_l13Rune.j2]
  have leaf : Ok1 (some (32, p + 1)) p := ⟨_, _, rfl, by omega, by omega⟩
  repeat' first
    | exact leaf
    | exact one_b hs (by omega) (by omega) (by omega) (by omega) (by decide) (by omega)
    | refine ok_ite ?_ ?_
theorem runes1_k {s : List Int} (hs : DS s) : ∀ (d k : Nat) (x : List Int) (p : Int), 80 - x.length = d → 0 ≤ p → p + d ≤ 900000 → x.length ≤ 200 → d + 4 < k →
    ∃ y p', spec_l13Runes.l1 k x s p = some (y, p') ∧ p ≤ p' ∧ p' ≤ p + d ∧ y.length ≤ 200
  | 0, k, x, p, hd, h0, h1, hx, hk => by
    obtain ⟨k, rfl⟩ : ∃ m, k = m + 1 := ⟨k - 1, by omega⟩
    rw [spec_l13Runes.l1, if_neg (by omega)]
    exact ⟨_, _, rfl, by omega, by omega, hx⟩
  | d + 1, k, x, p, hd, h0, h1, hx, hk => by
    obtain ⟨k, rfl⟩ : ∃ m, k = m + 1 := ⟨k - 1, by omega⟩
    obtain ⟨v, hv⟩ := one_k hs (L := [8235, 8238, 8295, 1488, 97]) (p := p) (k := k) h0 (by omega) (by decide) (by decide) (by omega)
    rw [spec_l13Runes.l1, if_pos (by omega), hv, Option.bind_some, if_pos (by omega)]
    obtain ⟨y, p', e, e1, e2, e3⟩ := runes1_k hs d k (x ++ [v]) (p + 1) (by simp; omega) (by omega) (by omega) (by simp; omega) (by omega)
    exact ⟨y, p', e, by omega, by omega, e3⟩
theorem runes0_k {s : List Int} (hs : DS s) : ∀ (d k : Nat) (x : List Int) (p : Int), 0 ≤ p → p + 2 * d ≤ 800000 → x.length + d ≤ 100 → d + 90 < k →
    ∃ y p', spec_l13Runes.l0 k x (d : Int) s p = some (y, p') ∧ p ≤ p' ∧ p' ≤ p + 2 * d + 90 ∧ y.length ≤ 200
  | 0, k, x, p, h0, h1, hx, hk => by
    obtain ⟨k, rfl⟩ : ∃ m, k = m + 1 := ⟨k - 1, by omega⟩
    obtain ⟨n, hv, v0, v1⟩ := pick_k hs (p := p) (n := 24) (k := k) h0 (by omega) (by omega) (by omega) (by omega)
    rw [spec_l13Runes.l0, if_neg (by omega), hv, Option.bind_some]
    by_cases hn : n = 0
    · rw [if_pos hn]
      obtain ⟨y, p', e, e1, e2, e3⟩ := runes1_k hs (80 - x.length) k x (p + 1) rfl (by omega) (by omega) (by omega) (by omega)
      exact ⟨y, p', e, by omega, by omega, e3⟩
    · rw [if_neg hn]
      exact ⟨_, _, rfl, by omega, by omega, by omega⟩
  | d + 1, k, x, p, h0, h1, hx, hk => by
    obtain ⟨k, rfl⟩ : ∃ m, k = m + 1 := ⟨k - 1, by omega⟩
    obtain ⟨v, q, hv, hq, hq'⟩ := rune_k hs (p := p) (k := k) h0 (by omega) (by omega)
    rw [spec_l13Runes.l0, if_pos (by omega), hv, Option.bind_some, if_pos (by omega), w64 (by omega) (by omega), show ((d + 1 : Nat) : Int) - 1 = (d : Int) by omega]
    obtain ⟨y, p', e, e1, e2, e3⟩ := runes0_k hs d k (x ++ [v]) q (by omega) (by omega) (by simp; omega) (by omega)
    exact ⟨y, p', e, by omega, by omega, e3⟩
theorem runes_k {s : List Int} (hs : DS s) {p : Int} {k : Nat} (h0 : 0 ≤ p) (h1 : p ≤ 700000) (hk : 200 ≤ k) : ∃ y p', spec_l13Runes.f k s p = some (y, p') ∧ p ≤ p' ∧ p' ≤ p + 200 ∧ y.length ≤ 200 := by
  obtain ⟨n, hv, v0, v1⟩ := pick_k hs (p := p) (n := 24) (k := k) h0 (by omega) (by omega) (by omega) (by omega)
  unfold spec_l13Runes.f
  rw [hv, Option.bind_some]
  obtain ⟨m, rfl⟩ : ∃ m : Nat, n = (m : Int) := ⟨n.toNat, by omega⟩
  obtain ⟨y, p', e, e1, e2, e3⟩ := runes0_k hs m k [] (p + 1) (by omega) (by omega) (by simp; omega) (by omega)
  exact ⟨y, p', e, by omega, by omega, e3⟩
theorem any0_k {s : List Int} : ∀ (d k : Nat) (x : List Int) (p : Int), 81 - x.length = d → x.length ≤ 300 → d < k → ∃ y, spec_l13Any.l0 k x s p = some (y, p) ∧ y.length ≤ 300
  | 0, k, x, p, hd, hx, hk => by
    obtain ⟨k, rfl⟩ : ∃ m, k = m + 1 := ⟨k - 1, by omega⟩
    rw [spec_l13Any.l0, if_neg (by omega)]
    exact ⟨_, rfl, hx⟩
  | d + 1, k, x, p, hd, hx, hk => by
    obtain ⟨k, rfl⟩ : ∃ m, k = m + 1 := ⟨k - 1, by omega⟩
    rw [spec_l13Any.l0, if_pos (by omega), if_pos (by omega)]
    exact any0_k d k (x ++ [97]) p (by simp; omega) (by simp; omega) (by omega)
theorem any_k {s : List Int} (hs : DS s) {p : Int} {k : Nat} (h0 : 0 ≤ p) (h1 : p ≤ 600000) (hk : 300 ≤ k) : ∃ y p', spec_l13Any.f k s p = some (y, p') ∧ p ≤ p' ∧ p' ≤ p + 300 ∧ y.length ≤ 300 := by
  obtain ⟨y, q, hr, q0, q1, hy⟩ := runes_k hs (p := p) (k := k) h0 (by omega) (by omega)
  obtain ⟨n, hv, v0, v1⟩ := pick_k hs (p := q) (n := 24) (k := k) (by omega) (by omega) (by omega) (by omega) (by omega)
  unfold spec_l13Any.f
  rw [hr, Option.bind_some, hv, Option.bind_some]
  by_cases hn : n = 0
  · obtain ⟨v, hv2⟩ := one_k hs (L := [-1, 55296, 57343, 1114112]) (p := q + 1) (k := k) (by omega) (by omega) (by decide) (by decide) (by omega)
    rw [if_pos hn, hv2, Option.bind_some, if_pos (by simp only; omega)]
    exact ⟨_, _, rfl, by omega, by omega, by simp; omega⟩
  · rw [if_neg hn]
    by_cases hn1 : n = 1
    · rw [if_pos hn1]
      obtain ⟨z, e, hz⟩ := any0_k (s := s) (81 - y.length) k y (q + 1) rfl (by omega) (by omega)
      exact ⟨z, q + 1, e, by omega, by omega, hz⟩
    · rw [if_neg hn1]
      exact ⟨_, _, rfl, by omega, by omega, by simp; omega⟩
theorem open_k {l : List Int} (hl : ∀ x ∈ l, (Lit.int .u8 x).wf = true) : ∃ s, spec_l1Open.f l = some (s, 0) ∧ DS s := by
  have hb : ∀ x ∈ l, 0 ≤ x ∧ x ≤ 255 := by
    intro x hx
    have := hl x hx
    simp [Lit.wf, IntKind.min, IntKind.max, IntKind.bits, IntKind.signed] at this
    omega
  unfold spec_l1Open.f
  by_cases h : (l.length : Int) > 2000
  · rw [if_pos h, if_pos (by omega)]
    exact ⟨_, rfl, by simp; omega, fun x hx => hb x (List.mem_of_mem_take hx)⟩
  · rw [if_neg h]
    exact ⟨_, rfl, by omega, hb⟩
end Go.Proofs.Ytoafenblaioopaa.Pure

/- The drawing of letters for words answers always. -/
namespace Go.Proofs.Ytoafenblaioopaa.Pure
open Go.RowKit Go.Proofs.Ytoafenblaioopaa.S Go.Proofs.YtoafenblaioopaaW.PrintWords Go.Proofs.YtoafenblaioopaaW.PrintLast
def W0 (s : List Int) (d : Nat) : Prop := ∀ (k : Nat) (x : List Int) (p : Int), 0 ≤ p → p + 10 * d ≤ 800000 → x.length + 5 * d ≤ 100 → 10 * d + 2 < k → ∃ y p', spec_l13Words.l0 k x (d : Int) s p = some (y, p') ∧ p ≤ p' ∧ p' ≤ p + 10 * d ∧ y.length ≤ 100
theorem words1_k {s : List Int} (hs : DS s) {d : Nat} (h : W0 s d) : ∀ (e k : Nat) (x : List Int) (p : Int), 0 ≤ p → p + e + 1 + 10 * d ≤ 800000 → x.length + e + 1 + 5 * d ≤ 100 → 10 * d + e + 4 < k →
    ∃ y p', spec_l13Words.l1 k x ((d + 1 : Nat) : Int) (e : Int) s p = some (y, p') ∧ p ≤ p' ∧ p' ≤ p + e + 1 + 10 * d ∧ y.length ≤ 100
  | 0, k, x, p, h0, h1, hx, hk => by
    obtain ⟨k, rfl⟩ : ∃ m, k = m + 1 := ⟨k - 1, by omega⟩
    obtain ⟨v, hv⟩ := one_k hs (L := [32, 32, 32, 32, 45, 10, 19968]) (p := p) (k := k) h0 (by omega) (by decide) (by decide) (by omega)
    rw [spec_l13Words.l1, if_neg (by omega), hv, Option.bind_some, if_pos (by omega), w64 (by omega) (by omega), show ((d + 1 : Nat) : Int) - 1 = (d : Int) by omega]
    obtain ⟨y, p', e, e1, e2, e3⟩ := h k (x ++ [v]) (p + 1) (by omega) (by omega) (by simp; omega) (by omega)
    exact ⟨y, p', e, by omega, by omega, e3⟩
  | e + 1, k, x, p, h0, h1, hx, hk => by
    obtain ⟨k, rfl⟩ : ∃ m, k = m + 1 := ⟨k - 1, by omega⟩
    obtain ⟨v, hv⟩ := one_k hs (L := [97, 109, 105, 1488, 1610, 55, 768]) (p := p) (k := k) h0 (by omega) (by decide) (by decide) (by omega)
    rw [spec_l13Words.l1, if_pos (by omega), hv, Option.bind_some, if_pos (by omega), w64 (by omega) (by omega), show ((e + 1 : Nat) : Int) - 1 = (e : Int) by omega]
    obtain ⟨y, p', e, e1, e2, e3⟩ := words1_k hs h e k (x ++ [v]) (p + 1) (by omega) (by omega) (by simp; omega) (by omega)
    exact ⟨y, p', e, by omega, by omega, e3⟩
theorem words0_k {s : List Int} (hs : DS s) : ∀ d, W0 s d
  | 0 => by
    intro k x p h0 h1 hx hk
    obtain ⟨k, rfl⟩ : ∃ m, k = m + 1 := ⟨k - 1, by omega⟩
    rw [spec_l13Words.l0, if_neg (by omega)]
    exact ⟨_, _, rfl, by omega, by omega, by omega⟩
  | d + 1 => by
    intro k x p h0 h1 hx hk
    obtain ⟨k, rfl⟩ : ∃ m, k = m + 1 := ⟨k - 1, by omega⟩
    obtain ⟨n, hv, v0, v1⟩ := pick_k hs (p := p) (n := 4) (k := k) h0 (by omega) (by omega) (by omega) (by omega)
    rw [spec_l13Words.l0, if_pos (by omega), hv, Option.bind_some, w64 (by omega) (by omega)]
    obtain ⟨m, hm⟩ : ∃ m : Nat, 1 + n = (m : Int) := ⟨(1 + n).toNat, by omega⟩
    rw [hm]
    obtain ⟨y, p', e, e1, e2, e3⟩ := words1_k hs (words0_k hs d) m k x (p + 1) (by omega) (by omega) (by omega) (by omega)
    exact ⟨y, p', e, by omega, by omega, e3⟩
theorem drawWords_k {l : List Int} (hl : ∀ x ∈ l, (Lit.int .u8 x).wf = true) {k : Nat} (hk : 400 ≤ k) : ∃ y, spec_DrawWordStarts.f k l = some y ∧ y.length ≤ 300 := by
  obtain ⟨s, hs, ds⟩ := open_k hl
  obtain ⟨n, hv, v0, v1⟩ := pick_k ds (p := 0) (n := 4) (k := k) (by omega) (by omega) (by omega) (by omega) (by omega)
  unfold spec_DrawWordStarts.f
  rw [hs, Option.bind_some, hv, Option.bind_some]
  by_cases hn : n = 0
  · obtain ⟨y, p', e, e1, e2, e3⟩ := any_k ds (p := 0 + 1) (k := k) (by omega) (by omega) (by omega)
    rw [if_pos hn, e, Option.bind_some]
    exact ⟨_, rfl, e3⟩
  · rw [if_neg hn]
    unfold spec_l13Words.f
    obtain ⟨n2, hv2, v20, v21⟩ := pick_k ds (p := 0 + 1) (n := 3) (k := k) (by omega) (by omega) (by omega) (by omega) (by omega)
    rw [hv2, Option.bind_some]
    by_cases hn2 : n2 = 0
    · obtain ⟨y, p', e, e1, e2, e3⟩ := runes_k ds (p := 0 + 1 + 1) (k := k) (by omega) (by omega) (by omega)
      rw [if_pos hn2, e, Option.bind_some, Option.bind_some]
      exact ⟨_, rfl, by simp only; omega⟩
    · obtain ⟨n3, hv3, v30, v31⟩ := pick_k ds (p := 0 + 1 + 1) (n := 9) (k := k) (by omega) (by omega) (by omega) (by omega) (by omega)
      rw [if_neg hn2, hv3, Option.bind_some, w64 (by omega) (by omega)]
      obtain ⟨m, hm⟩ : ∃ m : Nat, 1 + n3 = (m : Int) := ⟨(1 + n3).toNat, by omega⟩
      rw [hm]
      obtain ⟨y, p', e, e1, e2, e3⟩ := words0_k ds m k [] (0 + 1 + 1 + 1) (by omega) (by omega) (by simp; omega) (by omega)
      rw [e, Option.bind_some]
      exact ⟨_, rfl, by simp only; omega⟩
end Go.Proofs.Ytoafenblaioopaa.Pure

namespace Go.Proofs.Ytoafenblaioopaa.S
open Go.RowKit Go.Proofs.YtoafenblaioopaaW.PrintWords Go.Proofs.YtoafenblaioopaaW.PrintLast Go.Proofs.YtoafenblaioopaaW.PrintMore
attribute [local go_sem] max2_int min2_int max_two min_two max_three min_three max_four min_four   -- for this text's walks alone
set_option linter.unusedVariables false
set_option linter.unusedSimpArgs false

/-! ### laws_wcInts: function 35 -/
def laws_wcInts.l0 : Nat → List Int → List Int → Int → Option (Bool)
  | 0, _, _, _ => none
  | k + 1, x0, x1, x5 => if x5 < (x0.length : Int) then (if 0 ≤ x5 then (if x5 < (x1.length : Int) then (if (rd x0 x5) = (rd x1 x5) then (laws_wcInts.l0 k x0 x1 (wrap64 (x5 + 1))) else (some false)) else (none)) else (none)) else (some true)
def laws_wcInts.f (k : Nat) (l0 : List Int) (l1 : List Int) : Option (Bool) := if (l0.length : Int) = (l1.length : Int) then (laws_wcInts.l0 k l0 l1 0) else (some false)
theorem laws_wcInts.mono_l : ∀ k, (∀ y0 y1 y2, LeO (laws_wcInts.l0 k y0 y1 y2) (laws_wcInts.l0 (k + 1) y0 y1 y2))
  | 0 => fun _ _ _ r h => by simp [laws_wcInts.l0] at h
  | k + 1 => by
    have ih0 := laws_wcInts.mono_l k
    · intro y0 y1 y2
      unfold laws_wcInts.l0
      repeat' first
      | (with_reducible exact ih0 _ _ _)
      | (with_reducible exact LeO.refl _)
      | (with_reducible exact LeO.none _)
      | (with_reducible refine LeO.ite ?_ ?_)
      | (with_reducible refine LeO.bind ?_ (fun _ => ?_))
      | exact ih0 _ _ _
      | exact LeO.none _
      | refine LeO.ite ?_ ?_
      | refine LeO.bind ?_ (fun _ => ?_)
theorem laws_wcInts.mono : ∀ a0 a1 k, LeO (laws_wcInts.f k a0 a1) (laws_wcInts.f (k + 1) a0 a1) := by
  intro a0 a1 k
  have ih0 := laws_wcInts.mono_l k
  unfold laws_wcInts.f
  repeat' first
      | (with_reducible exact ih0 _ _ _)
      | (with_reducible exact LeO.refl _)
      | (with_reducible exact LeO.none _)
      | (with_reducible refine LeO.ite ?_ ?_)
      | (with_reducible refine LeO.bind ?_ (fun _ => ?_))
      | exact ih0 _ _ _
      | exact LeO.none _
      | refine LeO.ite ?_ ?_
      | refine LeO.bind ?_ (fun _ => ?_)
set_option maxHeartbeats 8000000 in
set_option maxRecDepth 100000 in
theorem laws_wcInts.calls (k : Nat) (A0 : Option Addr) (c0 : Nat) (l0 : List Int) (A1 : Option Addr) (c1 : Nat) (l1 : List Int) (r : Bool) (w : World) (hr0 : Kd.C (Kd.int .i64) w A0 l0.length l0) (hc0 : l0.length ≤ c0) (hr1 : Kd.C (Kd.int .i64) w A1 l1.length l1) (hc1 : l1.length ≤ c1) (h : laws_wcInts.f k l0 l1 = some r) :
    Calls Try.prog 35 #[.slice A0 l0.length c0, .slice A1 l1.length c1] w fun e w' => e = .returned (.bool r) ∧ Drawn0 w w' := by
  have HR0 := Aside0.mk hr0
  have HC0 := Aside0.mk hc0
  clear hr0 hc0
  have HR1 := Aside0.mk hr1
  have HC1 := Aside0.mk hc1
  clear hr1 hc1
  have H : (if (l0.length : Int) = (l1.length : Int) then (laws_wcInts.l0 k l0 l1 0) else (some false)) = some r := h
  clear h
  by_cases c3 : (l0.length : Int) = (l1.length : Int)
  · rw [if_pos c3] at H
    have c3b0 : ((l0.length : Int) == (l1.length : Int)) = true := beq_iff_eq.mpr c3
    have c3b1 : ((l0.length : Int) != (l1.length : Int)) = false := bne_eq_false_iff_eq.mpr c3
    have c3b2 : (l0.length == l1.length) = true := by first | simpa using c3 | (simp at c3 ⊢; omega)
    clear c3
    have H' := Aside0.mk H
    clear H
    go_enter Try.func35, Try.ntmps35
    go_wp2
    repeat (go_quiet (fail); try go_wp2)
    go_loopg [5] k (fun kq v5 w' => ∃ (x5_1 : Int), v5 = .int .i64 x5_1 ∧ Aside0 (laws_wcInts.l0 kq l0 l1 x5_1 = some r) ∧ Aside0 (kq ≤ k) ∧ Drawn0 w w')
    case atStart => exact ⟨(0), (by first | rfl | (simp; done) | (simp [*]; done)), H', ⟨Nat.le_refl _⟩, by repeat (first | exact Drawn0.refl _ | apply Drawn0.step)⟩
    case round =>
      clear H'
      try clear c1
      try clear p2
      try clear c3
      try clear c3b0
      try clear c3b1
      try clear c3b2
      obtain ⟨x5_1, rfl, HA, HK1, ⟨m1, rfl⟩⟩ := hrel
      cases gk with
      | zero => exact absurd HA.out (by simp [laws_wcInts.l0])
      | succ k1 =>
        have H := HA.out
        clear HA
        simp only [laws_wcInts.l0] at H
        by_cases c4 : x5_1 < (l0.length : Int)
        · rw [if_pos c4] at H
          have c4b0 : decide (x5_1 < (l0.length : Int)) = true := decide_eq_true c4
          clear c4
          by_cases c5 : 0 ≤ x5_1
          · rw [if_pos c5] at H
            have c5b0 : decide (0 ≤ x5_1) = true := decide_eq_true c5
            clear c5
            by_cases c6 : x5_1 < (l1.length : Int)
            · rw [if_pos c6] at H
              have c6b0 : decide (x5_1 < (l1.length : Int)) = true := decide_eq_true c6
              clear c6
              by_cases c7 : (rd l0 x5_1) = (rd l1 x5_1)
              · rw [if_pos c7] at H
                have c7b0 : ((rd l0 x5_1) == (rd l1 x5_1)) = true := beq_iff_eq.mpr c7
                have c7b1 : ((rd l0 x5_1) != (rd l1 x5_1)) = false := bne_eq_false_iff_eq.mpr c7
                clear c7
                have H' := Aside0.mk H
                clear H
                have p558 : 0 ≤ (x5_1 : Int) := of_decide_eq_true (by first | (with_reducible assumption) | assumption)
                have q558 : x5_1 < (l0.length : Int) := of_decide_eq_true (by first | (with_reducible assumption) | assumption)
                obtain ⟨ad558, e558, hx558_0⟩ := Kd.at_int HR0.out x5_1 p558 q558
                cases e558
                replace p558 := eq_true p558
                replace q558 := eq_true q558
                have p559 : 0 ≤ (x5_1 : Int) := of_decide_eq_true (by first | (with_reducible assumption) | assumption)
                have q559 : x5_1 < (l1.length : Int) := of_decide_eq_true (by first | (with_reducible assumption) | assumption)
                obtain ⟨ad559, e559, hx559_0⟩ := Kd.at_int HR1.out x5_1 p559 q559
                cases e559
                replace p559 := eq_true p559
                replace q559 := eq_true q559
                go_wp2
                repeat (go_quiet (fail); try go_wp2)
                go_roundg k1
                case measure => have := HK1.out; omega
                case rel => exact ⟨(wrap64 (x5_1 + 1)), (by first | rfl | (simp; done) | (simp [*]; done)), H', ⟨by have := HK1.out; omega⟩, by repeat (first | exact Drawn0.refl _ | apply Drawn0.step)⟩
              · rw [if_neg c7] at H
                have c7b0 : ((rd l0 x5_1) == (rd l1 x5_1)) = false := beq_eq_false_iff_ne.mpr c7
                have c7b1 : ((rd l0 x5_1) != (rd l1 x5_1)) = true := bne_iff_ne.mpr c7
                obtain rfl := Option.some.inj H
                have p558 : 0 ≤ (x5_1 : Int) := of_decide_eq_true (by first | (with_reducible assumption) | assumption)
                have q558 : x5_1 < (l0.length : Int) := of_decide_eq_true (by first | (with_reducible assumption) | assumption)
                obtain ⟨ad558, e558, hx558_0⟩ := Kd.at_int HR0.out x5_1 p558 q558
                cases e558
                replace p558 := eq_true p558
                replace q558 := eq_true q558
                have p559 : 0 ≤ (x5_1 : Int) := of_decide_eq_true (by first | (with_reducible assumption) | assumption)
                have q559 : x5_1 < (l1.length : Int) := of_decide_eq_true (by first | (with_reducible assumption) | assumption)
                obtain ⟨ad559, e559, hx559_0⟩ := Kd.at_int HR1.out x5_1 p559 q559
                cases e559
                replace p559 := eq_true p559
                replace q559 := eq_true q559
                go_wp2
                repeat (go_quiet (fail); try go_wp2)
                go_ret
                exact ⟨by first | rfl | (simp; done) | (simp [*]; done), by repeat (first | exact Drawn0.refl _ | apply Drawn0.step)⟩
            · rw [if_neg c6] at H
              exact absurd H (by simp)
          · rw [if_neg c5] at H
            exact absurd H (by simp)
        · rw [if_neg c4] at H
          have c4b0 : decide (x5_1 < (l0.length : Int)) = false := decide_eq_false c4
          clear c4
          obtain rfl := Option.some.inj H
          go_wp2
          repeat (go_quiet (fail); try go_wp2)
          go_ret
          exact ⟨by first | rfl | (simp; done) | (simp [*]; done), by repeat (first | exact Drawn0.refl _ | apply Drawn0.step)⟩
  · rw [if_neg c3] at H
    have c3b0 : ((l0.length : Int) == (l1.length : Int)) = false := beq_eq_false_iff_ne.mpr c3
    have c3b1 : ((l0.length : Int) != (l1.length : Int)) = true := bne_iff_ne.mpr c3
    have c3b2 : (l0.length == l1.length) = false := by first | simpa using c3 | (simp at c3 ⊢; omega)
    obtain rfl := Option.some.inj H
    go_enter Try.func35, Try.ntmps35
    go_wp2
    repeat (go_quiet (fail); try go_wp2)
    go_ret
    exact ⟨by first | rfl | (simp; done) | (simp [*]; done), by repeat (first | exact Drawn0.refl _ | apply Drawn0.step)⟩

end Go.Proofs.Ytoafenblaioopaa.S

/- The laws' helpers: equal rows; letters that make a text. -/
namespace Go.Proofs.Ytoafenblaioopaa.Pure
open Go.RowKit Go.Proofs.Ytoafenblaioopaa.S Go.Proofs.YtoafenblaioopaaW.PrintWords Go.Proofs.YtoafenblaioopaaW.PrintLast
theorem wcInts_l (a : List Int) (hn : a.length ≤ 1099511627776) : ∀ (d k i : Nat), a.length - i = d → i ≤ a.length → d < k → laws_wcInts.l0 k a a (i : Int) = some true
  | 0, k, i, hd, hi, hk => by
    obtain ⟨k, rfl⟩ : ∃ m, k = m + 1 := ⟨k - 1, by omega⟩
    rw [laws_wcInts.l0, if_neg (by omega)]
  | d + 1, k, i, hd, hi, hk => by
    obtain ⟨k, rfl⟩ : ∃ m, k = m + 1 := ⟨k - 1, by omega⟩
    have := wcInts_l a hn d k (i + 1) (by omega) (by omega) (by omega)
    rw [laws_wcInts.l0, if_pos (by omega), if_pos (by omega), if_pos (by omega), if_pos rfl, w64 (by omega) (by omega)]
    exact this
theorem wcInts_p {a : List Int} {k : Nat} (hn : a.length ≤ 1099511627776) (hk : a.length < k) : laws_wcInts.f k a a = some true := by
  unfold laws_wcInts.f
  rw [if_pos rfl]
  exact wcInts_l a hn a.length k 0 (by omega) (by omega) hk
theorem nums_size (l : List Int) : (strOfNums l).size = l.length := by
  simp [strOfNums, ByteArray.size]
theorem nil_list : (⟨#[]⟩ : ByteArray).toList = [] := by
  unfold ByteArray.toList
  rw [ByteArray.toList.loop]
  rfl
theorem put_p (a : Int) : ∃ b, spec_l1Put.f a = some b ∧ b.size ≤ 4 := by
  unfold spec_l1Put.f
  rw [size_f, Option.bind_some]
  by_cases h1 : sizeV a = 1
  · rw [if_pos h1]; exact ⟨_, rfl, by rw [nums_size]; simp⟩
  rw [if_neg h1]
  by_cases h2 : sizeV a = 2
  · rw [if_pos h2]; exact ⟨_, rfl, by rw [nums_size]; simp⟩
  rw [if_neg h2]
  by_cases h3 : sizeV a = 3
  · rw [if_pos h3]; exact ⟨_, rfl, by rw [nums_size]; simp⟩
  rw [if_neg h3]
  by_cases h4 : sizeV a = 4
  · rw [if_pos h4]; exact ⟨_, rfl, by rw [nums_size]; simp⟩
  rw [if_neg h4]
  exact ⟨_, rfl, by simp [ByteArray.size]⟩
theorem utf_l (l : List Int) (hn : l.length ≤ 1000000) : ∀ (d k i : Nat) (x : ByteArray), l.length - i = d → i ≤ l.length → i ≤ 80 → d < k → x.size ≤ 4 * i →
    ∃ r, spec_Utf8Put.l0 k l x (i : Int) = some r ∧ (r.toList.isEmpty = false → (∀ y ∈ l.drop i, isLetV y = true) ∧ l.length ≤ 80)
  | 0, k, i, x, hd, hi, hi', hk, hx => by
    obtain ⟨k, rfl⟩ : ∃ m, k = m + 1 := ⟨k - 1, by omega⟩
    have e : i = l.length := by omega
    rw [spec_Utf8Put.l0, if_neg (by omega)]
    exact ⟨_, rfl, fun _ => ⟨by rw [e, List.drop_length]; simp, by omega⟩⟩
  | d + 1, k, i, x, hd, hi, hi', hk, hx => by
    obtain ⟨k, rfl⟩ : ∃ m, k = m + 1 := ⟨k - 1, by omega⟩
    have hlt : i < l.length := by omega
    rw [spec_Utf8Put.l0, if_pos (by omega), if_pos (by omega), rd_get hlt, size_f, Option.bind_some]
    have hz := size_let l[i]
    by_cases h0 : sizeV l[i] = 0
    · rw [if_pos h0]
      exact ⟨_, rfl, fun h => absurd h (by rw [nil_list]; decide)⟩
    · rw [if_neg h0]
      by_cases h8 : (i : Int) ≥ 80
      · rw [if_pos h8]
        exact ⟨_, rfl, fun h => absurd h (by rw [nil_list]; decide)⟩
      · obtain ⟨b, hb, hbs⟩ := put_p l[i]
        rw [if_neg h8, hb, Option.bind_some, if_pos (by omega), w64 (by omega) (by omega)]
        obtain ⟨r, hr, hrr⟩ := utf_l l hn d k (i + 1) (x ++ b) (by omega) (by omega) (by omega) (by omega) (by rw [ByteArray.size_append]; omega)
        refine ⟨r, hr, fun h => ?_⟩
        obtain ⟨h1, h2⟩ := hrr h
        refine ⟨?_, h2⟩
        rw [List.drop_eq_getElem_cons hlt]
        intro y hy
        rcases List.mem_cons.1 hy with hy | hy
        · rw [hy]
          cases e : isLetV l[i]
          · exact absurd (hz.2 e) h0
          · rfl
        · exact h1 y hy
theorem wcOk_p {l : List Int} {k : Nat} (hn : l.length ≤ 1000000) (hk : l.length < k) : ∃ b, laws_wcOk.f k l = some b ∧ (b = true → okV l = true) := by
  unfold laws_wcOk.f
  by_cases h0 : (l.length : Int) = 0
  · rw [if_pos h0]
    refine ⟨true, rfl, fun _ => ?_⟩
    have : l = [] := List.eq_nil_of_length_eq_zero (by omega)
    subst this; rfl
  · rw [if_neg h0]
    unfold spec_Utf8Put.f
    obtain ⟨r, hr, hrr⟩ := utf_l l hn l.length k 0 ⟨#[]⟩ (by omega) (by omega) (by omega) (by omega) (by simp [ByteArray.size])
    rw [show ((0 : Nat) : Int) = 0 from rfl] at hr
    rw [hr, Option.bind_some]
    refine ⟨_, rfl, fun h => ?_⟩
    obtain ⟨h1, h2⟩ := hrr (by simpa using h)
    rw [List.drop_zero] at h1
    unfold okV
    simp only [Bool.and_eq_true, List.all_eq_true, decide_eq_true_eq]
    exact ⟨h2, h1⟩
end Go.Proofs.Ytoafenblaioopaa.Pure

/- WordCount counts as the reference does, and as the statement says of letters set behind, for every text that the reference draws. No condition beyond the statement's own. -/
namespace Go.Proofs.Ytoafenblaioopaa.Pure
open Go.RowKit Go.Proofs.Ytoafenblaioopaa.S Go.Proofs.YtoafenblaioopaaW.PrintWords Go.Proofs.YtoafenblaioopaaW.PrintLast
theorem FnWordCount : laws_FnWordCount.Pure := by
  intro l _ _ hl
  refine ⟨30001, ?_⟩
  unfold laws_FnWordCount.f
  by_cases h : (l.length : Int) > 1048576
  · rw [if_pos h]
  · obtain ⟨t, ht, htl⟩ := drawWords_k hl (k := 30001) (by omega)
    obtain ⟨b, hb, hbo⟩ := wcOk_p (l := t) (k := 30001) (by omega) (by omega)
    have e : ((wordCountV t : Int) == (wordCountV t : Int)) = true := by simp
    rw [if_neg h]
    unfold spec_DrawWordCount.f
    rw [ht, Option.bind_some, Option.bind_some, implWordCount_p (by omega), Option.bind_some, specWordCount_p (by omega) (by omega), Option.bind_some, if_pos rfl, hb, Option.bind_some]
    have jt : laws_FnWordCount.j0 30001 t (wordCountV t : Int) true = some true := by
      rw [laws_FnWordCount.j0, if_pos rfl, specWordCount_p (by omega) (by omega), Option.bind_some, e]
    cases b
    · rw [if_neg (by simp)]; exact jt
    · rw [if_pos rfl, w64 (by omega) (by omega)]
      by_cases hl3 : (t.length : Int) + 3 > 80
      · rw [decide_eq_true hl3]; exact jt
      · have hok := hbo rfl
        have ok1 : okV (t ++ [32, 97, 98]) = true := ok_app hok (by decide) (by simp; omega)
        have ok2 : okV (t ++ [32, 32]) = true := ok_app hok (by decide) (by simp; omega)
        have c1 := count_ab hok ok1
        have c2 := count_sp hok ok2
        have c3 : wordCountV t ≤ t.length := by
          unfold wordCountV; rw [if_pos hok]
          have := cntV_le t (begList t t.length)
          have := begList_len t t.length
          omega
        have c4 : (wordCountV t : Int) ≤ ((wordStartsV t).length : Int) := by
          unfold wordCountV wordStartsV; rw [if_pos hok, if_pos hok]
          have := cntV_le t (begList t t.length)
          simp [ints]; exact this
        rw [decide_eq_false hl3, laws_FnWordCount.j0, if_neg (by simp)]
        simp only [Option.bind_some, List.nil_append]
        rw [if_pos (by simp; omega), if_pos (by simp; omega), if_pos (by simp; omega), if_pos (by simp; omega), implWordCount_p (by omega), Option.bind_some, c1, w64 (by omega) (by omega), if_pos (by omega), implWordCount_p (by omega), Option.bind_some, c2, if_pos rfl,
          implWordStarts_p (by omega), Option.bind_some, decide_eq_true c4]
end Go.Proofs.Ytoafenblaioopaa.Pure
