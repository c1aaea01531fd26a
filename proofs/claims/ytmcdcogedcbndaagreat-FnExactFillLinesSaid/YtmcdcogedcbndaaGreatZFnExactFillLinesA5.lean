/- The program's FillLines answers as the reference's, for every list of letters, of spans, every width and every way; it writes into no argument, and its answer is memory of its own. No condition beyond the statement's own. (text 6 of 7 of this claim: functions of the program and of the reference as plain Lean functions, what a call of each comes to, and what follows.) -/
import Derived.Test.YtmcdcogedcbndaaGreatZFnExactFillLinesA4
import Derived.Test.YtmcdcogedcbndaaGreatZFnExactFillLinesA2
import Derived.Test.YtmcdcogedcbndaaGreatZFnExactFillLinesA0
import Derived.Test.YtmcdcogedcbndaaGreatZFnExactFillLinesA1
import Derived.Test.YtmcdcogedcbndaaGreatZFnExactFillLinesA3
/- The next end by both texts: the last place that fits, else the last end of a cluster that fits, else the first end of a cluster. No condition beyond those stated. -/
set_option maxHeartbeats 16000000
set_option maxRecDepth 100000
set_option linter.unusedVariables false
set_option linter.unusedSimpArgs false
namespace Go.Proofs.YtmcdcogedcbndaaGreat.Pure
open Go.RowKit Go.Proofs.YtmcdcogedcbndaaGreat.S Go.Proofs.YtmcdcogedcbndaaGreatW.PrintWords Go.Proofs.YtmcdcogedcbndaaGreatW.PrintLast
theorem find_up (r : Nat → Bool) (N t : Nat) (ht : t < N) (hr : r t = true) (hl : ∀ j, j < t → r j = false) : (List.range N).find? r = some t := by
 induction N with
 | zero => omega
 | succ N ih =>
  rw [List.range_succ, List.find?_append]
  by_cases h : t < N
  ·
   rw [ih h]
   rfl
  ·
   obtain rfl : t = N := by omega
   have : (List.range t).find? r = none := by
    rw [List.find?_eq_none]
    intro x hx
    rw [hl x (List.mem_range.mp hx)]
    decide
   rw [this]
   simp [hr]
theorem find_down (r : Nat → Bool) (N t : Nat) (ht : t < N) (hr : r t = true) (hl : ∀ j, t < j → j < N → r j = false) : (List.range N).reverse.find? r = some t := by
 induction N with
 | zero => omega
 | succ N ih =>
  rw [List.range_succ, List.reverse_append, List.reverse_singleton, List.singleton_append, List.find?_cons]
  by_cases h : t < N
  ·
   rw [hl N h (by omega)]
   exact ih h (fun j h1 h2 => hl j h1 (by omega))
  ·
   obtain rfl : t = N := by omega
   rw [hr]
def endsL (E : Nat → Bool) (n : Nat) : List Int := ((List.range (n + 1)).filter E).map Int.ofNat
theorem endsL_up (E : Nat → Bool) (n : Nat) (q : Int → Bool) (t : Nat) (ht : t ≤ n) (hE : E t = true) (hq : q (t : Int) = true) (hl : ∀ j, j < t → E j = true → q (j : Int) = false) : (endsL E n).find? q = some (t : Int) := by
 unfold endsL
 rw [List.find?_map, List.find?_filter, find_up _ (n + 1) t (by omega) (by simp only [Function.comp]; rw [hE]; simpa using hq) (fun j hj => ?_)]
 · rfl
 ·
  by_cases h : E j = true
  ·
   refine decide_eq_false (fun hc => ?_)
   have h2 := hc.2
   rw [show (q ∘ Int.ofNat) j = false from hl j hj h] at h2
   cases h2
  ·
   simp only [Bool.not_eq_true] at h
   simp [h]
theorem endsL_down (E : Nat → Bool) (n : Nat) (q : Int → Bool) (t : Nat) (ht : t ≤ n) (hE : E t = true) (hq : q (t : Int) = true) (hl : ∀ j, t < j → j ≤ n → E j = true → q (j : Int) = false) : (endsL E n).reverse.find? q = some (t : Int) := by
 unfold endsL
 rw [← List.map_reverse, ← List.filter_reverse, List.find?_map, List.find?_filter, find_down _ (n + 1) t (by omega) (by simp only [Function.comp]; rw [hE]; simpa using hq) (fun j hj hj2 => ?_)]
 · rfl
 ·
  by_cases h : E j = true
  ·
   refine decide_eq_false (fun hc => ?_)
   have h2 := hc.2
   rw [show (q ∘ Int.ofNat) j = false from hl j hj (by omega) h] at h2
   cases h2
  ·
   simp only [Bool.not_eq_true] at h
   simp [h]
theorem endsL_none (E : Nat → Bool) (n : Nat) (q : Int → Bool) (hl : ∀ j, j ≤ n → E j = true → q (j : Int) = false) : (endsL E n).reverse.find? q = none := by
 rw [List.find?_eq_none]
 intro x hx
 unfold endsL at hx
 rw [List.mem_reverse, List.mem_map] at hx
 obtain ⟨j, hj, rfl⟩ := hx
 obtain ⟨h1, h2⟩ := List.mem_filter.mp hj
 rw [show q (Int.ofNat j) = false from hl j (by have := List.mem_range.mp h1; omega) h2]
 decide
theorem nextN_snoc (bs : List Int) (F : Nat → Nat → Bool) (fr : Nat) : ∀ (g i : Nat) (b : Int), nextN bs F fr (g + 1) i b = if ¬ bs.getD (i + g - 1) 0 = 0 ∧ F fr (i + g) = true then ((i + g : Nat) : Int) else nextN bs F fr g i b
 | 0, i, b => rfl
 | g + 1, i, b => by
  rw [nextN, nextN_snoc bs F fr g (i + 1), show i + 1 + g = i + (g + 1) by omega]
  rfl
theorem next_down (bs : List Int) (F : Nat → Nat → Bool) (fr : Nat) (b : Int) : ∀ g, nextN bs F fr g (fr + 1) b = (match downN bs F fr g with | some t => (t : Int) | none => b)
 | 0 => rfl
 | g + 1 => by
  rw [nextN_snoc, downN, show fr + 1 + g - 1 = fr + g by omega, show fr + 1 + g = fr + g + 1 by omega]
  split
  · rfl
  · exact next_down bs F fr b g
theorem down_pos (bs : List Int) (F : Nat → Nat → Bool) (fr : Nat) : ∀ (g t : Nat), downN bs F fr g = some t → fr < t ∧ t ≤ fr + g
 | 0, t, h => by cases h
 | g + 1, t, h => by
  rw [downN] at h
  split at h
  ·
   obtain rfl := Option.some.inj h
   omega
  ·
   have := down_pos bs F fr g t h
   omega
theorem down_none (bs : List Int) (F : Nat → Nat → Bool) (fr : Nat) : ∀ g, downN bs F fr g = none → ∀ j, j < g → ¬ bs.getD (fr + j) 0 = 0 → F fr (fr + j + 1) = false
 | 0, _, j, hj, _ => absurd hj (Nat.not_lt_zero _)
 | g + 1, h, j, hj, hb => by
  rw [downN] at h
  split at h
  · cases h
  ·
   rename_i hn
   by_cases e : j = g
   ·
    subst e
    cases hF : F fr (fr + j + 1)
    · rfl
    · exact absurd ⟨hb, hF⟩ hn
   · exact down_none bs F fr g h j (by omega) hb
theorem forced_is (F : Nat → Nat → Bool) (J E : Nat → Bool) (n fr : Nat) (hfr : fr < n) (hE : ∀ i, fr < i → i ≤ n → (E i = true ↔ ¬ (i < n ∧ J i = true))) (hF : ∀ i j, fr < i → i ≤ j → j ≤ n → F fr j = true → F fr i = true) :
  ∀ (g i tq : Nat), i + g = n + 1 → fr < i → ((tq = fr ∧ ∀ e, fr < e → e < i → E e = false) ∨ (fr < tq ∧ tq < i ∧ E tq = true ∧ (∀ e, tq < e → e < i → E e = false) ∧ (F fr tq = true ∨ ∀ e, fr < e → e < tq → E e = false))) →
   ∃ t, forcedN F J n fr g i tq = t ∧ fr < t ∧ t ≤ n ∧ E t = true ∧ (F fr t = true ∨ ∀ e, fr < e → e < t → E e = false) ∧ ∀ e, t < e → e ≤ n → E e = true → F fr e = false
 | 0, i, tq, hi, hfi, h => by
  have hEn : E n = true := (hE n hfr (Nat.le_refl _)).mpr (fun h => by omega)
  rcases h with ⟨_, h⟩ | ⟨h1, h2, h3, h4, h5⟩
  ·
   have := h n hfr (by omega)
   rw [hEn] at this
   cases this
  ·
   refine ⟨tq, rfl, h1, by omega, h3, h5, fun e he hen hEe => ?_⟩
   have := h4 e he (by omega)
   rw [hEe] at this
   cases this
 | g + 1, i, tq, hi, hfi, h => by
  rw [forcedN]
  by_cases hJ : i < n ∧ J i = true
  ·
   rw [if_pos hJ]
   have hEi : E i = false := by
    cases hEi : E i
    · rfl
    · exact absurd hJ ((hE i hfi (by omega)).mp hEi)
   refine forced_is F J E n fr hfr hE hF g (i + 1) tq (by omega) (by omega) ?_
   rcases h with ⟨h1, h⟩ | ⟨h1, h2, h3, h4, h5⟩
   ·
    refine .inl ⟨h1, fun e he hei => ?_⟩
    by_cases q : e = i
    · rw [q]; exact hEi
    · exact h e he (by omega)
   ·
    refine .inr ⟨h1, by omega, h3, fun e he hei => ?_, h5⟩
    by_cases q : e = i
    · rw [q]; exact hEi
    · exact h4 e he (by omega)
  ·
   rw [if_neg hJ]
   have hEi : E i = true := (hE i hfi (by omega)).mpr hJ
   by_cases hq : fr < tq ∧ F fr i = false
   ·
    rw [if_pos hq]
    rcases h with ⟨h1, h⟩ | ⟨h1, h2, h3, h4, h5⟩
    · omega
    ·
     refine ⟨tq, rfl, h1, by omega, h3, h5, fun e he hen hEe => ?_⟩
     have hei : i ≤ e := by
      apply Decidable.byContradiction
      intro hc
      have := h4 e he (by omega)
      rw [hEe] at this
      cases this
     cases hFe : F fr e
     · rfl
     ·
      have := hF i e hfi hei hen hFe
      rw [hq.2] at this
      cases this
   ·
    rw [if_neg hq]
    refine forced_is F J E n fr hfr hE hF g (i + 1) i (by omega) (by omega) (.inr ⟨hfi, by omega, hEi, fun e he hei => by omega, ?_⟩)
    rcases h with ⟨h1, h⟩ | ⟨h1, h2, h3, h4, h5⟩
    · exact .inr (fun e he hei => h e he hei)
    ·
     refine .inl ?_
     cases hFi : F fr i
     · exact absurd ⟨h1, hFi⟩ hq
     · rfl
theorem next_is (bs : List Int) (F : Nat → Nat → Bool) (J E : Nat → Bool) (n fr : Nat) (hfr : fr < n) (hE : ∀ i, fr < i → i ≤ n → (E i = true ↔ ¬ (i < n ∧ J i = true))) (hF : ∀ i j, fr < i → i ≤ j → j ≤ n → F fr j = true → F fr i = true) (hm : fr < mustV bs n fr) (hmn : mustV bs n fr ≤ n) (hmb : ¬ bs.getD (mustV bs n fr - 1) 0 = 0) (hmE : E (mustV bs n fr) = true) :
  nextI bs F (endsL E n) fr (mustV bs n fr) = some (nextV bs F J n fr) ∧ (fr : Int) < nextV bs F J n fr ∧ nextV bs F J n fr ≤ (n : Int) := by
 obtain ⟨m, hme⟩ : ∃ m, mustV bs n fr = m := ⟨_, rfl⟩
 rw [hme] at hm hmn hmb hmE ⊢
 unfold nextI nextV
 rw [hme, next_down]
 cases hd : downN bs F fr (m - fr) with
 | some t =>
  have := down_pos bs F fr _ t hd
  dsimp only
  rw [if_pos (show (0 : Int) < (t : Int) by omega)]
  exact ⟨rfl, by omega, by omega⟩
 | none =>
  dsimp only
  rw [if_neg (show ¬ (0 : Int) < -1 by decide)]
  have hFm : F fr m = false := by
   have := down_none bs F fr _ hd (m - 1 - fr) (by omega) (by rw [show fr + (m - 1 - fr) = m - 1 by omega]; exact hmb)
   rwa [show fr + (m - 1 - fr) + 1 = m by omega] at this
  obtain ⟨t, ht, h1, h2, h3, h4, h5⟩ := forced_is F J E n fr hfr hE hF (n - fr) (fr + 1) fr (by omega) (by omega) (.inl ⟨rfl, fun e he hei => by omega⟩)
  rw [ht]
  by_cases hFt : F fr t = true
  ·
   have htm : t < m := by
    apply Decidable.byContradiction
    intro hc
    have := hF m t hm (by omega) h2 hFt
    rw [hFm] at this
    cases this
   rw [if_pos (show (t : Int) < (m : Int) by omega)]
   have hb : backN F fr m (endsL E n) = some (t : Int) := by
    refine endsL_down E n _ t h2 h3 ?_ (fun j hj hjn hEj => ?_)
    ·
     rw [decide_eq_true (show (fr : Int) < (t : Int) by omega), decide_eq_true (show (t : Int) ≤ (m : Int) by omega), Int.toNat_natCast, hFt]
     rfl
    · rw [Int.toNat_natCast, h5 j hj hjn hEj, Bool.and_false]
   rw [hb]
   exact ⟨rfl, by omega, by omega⟩
  ·
   have hFt2 : F fr t = false := by simpa using hFt
   have hfi : ∀ e, fr < e → e < t → E e = false := h4.resolve_left hFt
   have htm : t ≤ m := by
    apply Decidable.byContradiction
    intro hc
    have := hfi m hm (by omega)
    rw [hmE] at this
    cases this
   have hb : backN F fr m (endsL E n) = none := by
    refine endsL_none E n _ (fun j hjn hEj => ?_)
    by_cases hj : fr < j
    ·
     have hFj : F fr j = false := by
      by_cases hjt : j < t
      ·
       have := hfi j hj hjt
       rw [hEj] at this
       cases this
      ·
       by_cases hjt2 : j = t
       · rw [hjt2]; exact hFt2
       · exact h5 j (by omega) hjn hEj
     rw [Int.toNat_natCast, hFj, Bool.and_false]
    · rw [decide_eq_false (show ¬ (fr : Int) < (j : Int) by omega), Bool.false_and, Bool.false_and]
   rw [hb]
   have hf : (endsL E n).find? (fun t => decide ((fr : Int) < t)) = some (t : Int) := by
    refine endsL_up E n _ t h2 h3 (decide_eq_true (by omega)) (fun j hj hEj => ?_)
    refine decide_eq_false (fun hc => ?_)
    have := hfi j (by omega) hj
    rw [hEj] at this
    cases this
   dsimp only
   rw [hf]
   by_cases hlt : (t : Int) < (m : Int)
   ·
    rw [if_pos hlt]
    exact ⟨rfl, by omega, by omega⟩
   ·
    rw [if_neg hlt]
    obtain rfl : t = m := by omega
    exact ⟨rfl, by omega, by omega⟩
theorem must_is (bs : List Int) (n : Nat) : ∀ (g i : Nat), (∃ p, i ≤ p ∧ p < i + g ∧ bs.getD p 0 = 2) → i < mustN bs n g i ∧ mustN bs n g i ≤ i + g ∧ bs.getD (mustN bs n g i - 1) 0 = 2
 | 0, i, ⟨p, h1, h2, _⟩ => by omega
 | g + 1, i, ⟨p, h1, h2, h3⟩ => by
  rw [mustN]
  by_cases h : bs.getD i 0 = 2
  ·
   rw [if_pos h, Nat.add_sub_cancel]
   exact ⟨by omega, by omega, h⟩
  ·
   rw [if_neg h]
   have := must_is bs n g (i + 1) ⟨p, by (by_cases q : p = i; (subst q; exact absurd h3 h); omega), by omega, h3⟩
   exact ⟨by omega, by omega, this.2.2⟩
end Go.Proofs.YtmcdcogedcbndaaGreat.Pure
/- What a search by halves in an ascending row of reaches finds: the first reach that holds the number. -/
namespace Go.Proofs.YtmcdcogedcbndaaGreat.Pure
open Go.RowKit Go.Proofs.YtmcdcogedcbndaaGreat.S Go.Proofs.YtmcdcogedcbndaaGreatW.PrintWords Go.Proofs.YtmcdcogedcbndaaGreatW.PrintLast
theorem cmpR_neg {x : S120} {r : Int} (h : x.f0 ≤ x.f1) : cmpR x r < 0 ↔ x.f1 < r := by
 unfold cmpR; split
 · omega
 ·
  split
  · omega
  · split <;> omega
theorem cmpR_zero {x : S120} {r : Int} (h : x.f0 ≤ x.f1) : cmpR x r = 0 ↔ x.f0 ≤ r ∧ r ≤ x.f1 := by
 unfold cmpR; split
 · omega
 ·
  split
  · omega
  · split <;> omega
def inR (r : Int) (x : S120) : Bool := decide (x.f0 ≤ r) && decide (r ≤ x.f1)
theorem inR_iff {r : Int} {x : S120} : inR r x = true ↔ x.f0 ≤ r ∧ r ≤ x.f1 := by simp [inR]
theorem inR_not {r : Int} {x : S120} (h : ¬ (x.f0 ≤ r ∧ r ≤ x.f1)) : inR r x = false := by
 cases e : inR r x
 · rfl
 · exact absurd (inR_iff.1 e) h
def ascR : List S120 → Bool
 | [] => true
 | x :: l => decide (x.f0 ≤ x.f1) && l.all (fun y => decide (x.f1 < y.f0)) && ascR l
theorem ascR_le : ∀ {l : List S120}, ascR l = true → ∀ t, t < l.length → (l.getD t z120).f0 ≤ (l.getD t z120).f1
 | x :: l, h, 0, _ => by simp [ascR] at h; simpa using h.1.1
 | x :: l, h, t + 1, ht => by simp [ascR] at h; simpa using ascR_le (l := l) h.2 t (by simpa using ht)
theorem ascR_lt : ∀ {l : List S120}, ascR l = true → ∀ s t, s < t → t < l.length → (l.getD s z120).f1 < (l.getD t z120).f0
 | x :: l, h, 0, t + 1, _, ht => by
  simp [ascR] at h
  have ht' : t < l.length := by simpa using ht
  simpa [List.getD_eq_getElem?_getD, ht'] using h.1.2 (l[t]) (List.getElem_mem ht')
 | x :: l, h, s + 1, t + 1, hst, ht => by simp [ascR] at h; simpa using ascR_lt (l := l) h.2 s t (by omega) (by simpa using ht)
theorem bsR_bounds {l : List S120} {r : Int} (ha : ascR l = true) : ∀ (k lo hi : Nat), hi - lo ≤ k → lo ≤ hi → hi ≤ l.length →
  (∀ t, t < lo → (l.getD t z120).f1 < r) → (∀ t, hi ≤ t → t < l.length → r ≤ (l.getD t z120).f1) →
  bsR l r k lo hi ≤ l.length ∧ (∀ t, t < bsR l r k lo hi → (l.getD t z120).f1 < r) ∧ (∀ t, bsR l r k lo hi ≤ t → t < l.length → r ≤ (l.getD t z120).f1)
 | 0, lo, hi, hk, hlh, hn, h1, h2 => by
  obtain rfl : lo = hi := by omega
  exact ⟨hn, h1, h2⟩
 | k + 1, lo, hi, hk, hlh, hn, h1, h2 => by
  rw [bsR]
  by_cases hlt : lo < hi
  ·
   rw [if_pos hlt]
   have hm : (lo + hi) / 2 < l.length := by omega
   have hle := ascR_le ha _ hm
   by_cases hc : cmpR (l.getD ((lo + hi) / 2) z120) r < 0
   ·
    rw [if_pos hc]
    refine bsR_bounds ha k _ hi (by omega) (by omega) hn (fun t ht => ?_) h2
    have hc' := (cmpR_neg hle).1 hc
    by_cases e : t = (lo + hi) / 2
    · rw [e]; exact hc'
    ·
     have := ascR_lt ha t ((lo + hi) / 2) (by omega) hm
     omega
   ·
    rw [if_neg hc]
    refine bsR_bounds ha k lo _ (by omega) (by omega) (by omega) h1 (fun t ht htn => ?_)
    have hc' : r ≤ (l.getD ((lo + hi) / 2) z120).f1 := by
     have := (cmpR_neg (r := r) hle).2
     omega
    by_cases e : t = (lo + hi) / 2
    · rw [e]; exact hc'
    ·
     have a := ascR_lt ha ((lo + hi) / 2) t (by omega) htn
     have b := ascR_le ha t htn
     omega
  ·
   rw [if_neg hlt]
   obtain rfl : lo = hi := by omega
   exact ⟨hn, h1, h2⟩
theorem find?_at {l : List S120} {p : S120 → Bool} {i : Nat} (hi : i < l.length) (hp : p (l.getD i z120) = true) (hb : ∀ t, t < i → p (l.getD t z120) = false) : l.find? p = some (l.getD i z120) := by
 induction l generalizing i with
 | nil => simp at hi
 | cons x l ih =>
  cases i with
  | zero => simp at hp ⊢; simp [hp]
  | succ i =>
   have h0 : p x = false := by simpa using hb 0 (by omega)
   rw [List.find?_cons, h0]
   simpa using ih (i := i) (by simpa using hi) (by simpa using hp) (fun t ht => by simpa using hb (t + 1) (by omega))
theorem find?_none' {l : List S120} {p : S120 → Bool} (hb : ∀ t, t < l.length → p (l.getD t z120) = false) : l.find? p = none := by
 rw [List.find?_eq_none]
 intro x hx
 obtain ⟨t, ht, rfl⟩ := List.getElem_of_mem hx
 have := hb t ht
 simpa [List.getD_eq_getElem?_getD, ht] using this
theorem findV_eq {l : List S120} (ha : ascR l = true) (r o : Int) : findV l r o = match l.find? (inR r) with | some x => x.f2 | none => o := by
 obtain ⟨hn, h1, h2⟩ := bsR_bounds (r := r) ha l.length 0 l.length (by omega) (by omega) (Nat.le_refl _) (fun t ht => absurd ht (Nat.not_lt_zero _)) (fun t h h' => by omega)
 unfold findV
 generalize bsR l r l.length 0 l.length = i at hn h1 h2
 by_cases hc : i < l.length ∧ cmpR (l.getD i z120) r = 0
 ·
  rw [if_pos hc]
  have hz := (cmpR_zero (ascR_le ha i hc.1)).1 hc.2
  rw [find?_at hc.1 (inR_iff.2 hz) (fun t ht => inR_not (by have := h1 t ht; omega))]
 ·
  rw [if_neg hc]
  rw [find?_none' (fun t ht => ?_)]
  by_cases hlt : t < i
  · have := h1 t hlt; exact inR_not (by omega)
  ·
   have hi : i < l.length := by omega
   have hz : ¬ ((l.getD i z120).f0 ≤ r ∧ r ≤ (l.getD i z120).f1) := fun hh => hc ⟨hi, (cmpR_zero (ascR_le ha i hi)).2 hh⟩
   have hr := h2 i (Nat.le_refl _) hi
   by_cases e : t = i
   · rw [e]; exact inR_not hz
   ·
    have := ascR_lt ha i t (by omega) ht
    exact inR_not (by omega)
end Go.Proofs.YtmcdcogedcbndaaGreat.Pure
/- The direction of a letter, by both texts. -/
namespace Go.Proofs.YtmcdcogedcbndaaGreat.Pure
open Go.RowKit Go.Proofs.YtmcdcogedcbndaaGreat.S Go.Proofs.YtmcdcogedcbndaaGreatW.PrintWords Go.Proofs.YtmcdcogedcbndaaGreatW.PrintLast
theorem l1In_b (a b c : Int) : spec_l1In.f a b c = some (decide (b ≤ a) && decide (a ≤ c)) := by
 unfold spec_l1In.f
 by_cases h : b ≤ a <;> simp [h]
def moveV (a : Int) : Int := if a = 8234 then 14 else if a = 8235 then 15 else if a = 8236 then 16 else if a = 8237 then 17 else if a = 8238 then 18 else if a = 8294 then 19 else if a = 8295 then 20 else if a = 8296 then 21 else if a = 8297 then 22 else 13
def bidiV (a : Int) : Int := if 97 ≤ a ∧ a ≤ 122 then 1 else if 65 ≤ a ∧ a ≤ 90 then 1 else if 19968 ≤ a ∧ a ≤ 40959 then 1 else if 1488 ≤ a ∧ a ≤ 1514 then 2 else if 1569 ≤ a ∧ a ≤ 1610 then 3 else if 48 ≤ a ∧ a ≤ 57 then 4 else if 1632 ≤ a ∧ a ≤ 1641 then 7
 else if a = 43 then 5 else if a = 45 then 5 else if 35 ≤ a ∧ a ≤ 37 then 6 else if a = 44 then 8 else if a = 46 then 8 else if a = 47 then 8 else if a = 58 then 8 else if 768 ≤ a ∧ a ≤ 879 then 9
 else if a = 8203 then 10 else if a = 8205 then 10 else if a = 173 then 10 else if a = 9 then 11 else if a = 32 then 12 else moveV a
theorem moves_p (k : Nat) (a : Int) : spec_l1Moves.f (k + 10) a = some (moveV a) := by
 by_cases h1 : a = 8234
 · subst h1; simp [spec_l1Moves.f, spec_l1Moves.l0, rd, wrap64, moveV]
 by_cases h2 : a = 8235
 · subst h2; simp [spec_l1Moves.f, spec_l1Moves.l0, rd, wrap64, moveV]
 by_cases h3 : a = 8236
 · subst h3; simp [spec_l1Moves.f, spec_l1Moves.l0, rd, wrap64, moveV]
 by_cases h4 : a = 8237
 · subst h4; simp [spec_l1Moves.f, spec_l1Moves.l0, rd, wrap64, moveV]
 by_cases h5 : a = 8238
 · subst h5; simp [spec_l1Moves.f, spec_l1Moves.l0, rd, wrap64, moveV]
 by_cases h6 : a = 8294
 · subst h6; simp [spec_l1Moves.f, spec_l1Moves.l0, rd, wrap64, moveV]
 by_cases h7 : a = 8295
 · subst h7; simp [spec_l1Moves.f, spec_l1Moves.l0, rd, wrap64, moveV]
 by_cases h8 : a = 8296
 · subst h8; simp [spec_l1Moves.f, spec_l1Moves.l0, rd, wrap64, moveV]
 by_cases h9 : a = 8297
 · subst h9; simp [spec_l1Moves.f, spec_l1Moves.l0, rd, wrap64, moveV]
 have e : moveV a = 13 := by simp [moveV, h1, h2, h3, h4, h5, h6, h7, h8, h9]
 simp [spec_l1Moves.f, spec_l1Moves.l0, rd, wrap64, e, Ne.symm h1, Ne.symm h2, Ne.symm h3, Ne.symm h4, Ne.symm h5, Ne.symm h6, Ne.symm h7, Ne.symm h8, Ne.symm h9]
theorem signs_p (k : Nat) (a : Int) : spec_l1Signs.f (k + 13) a = some (if a = 43 then 5 else if a = 45 then 5 else if 35 ≤ a ∧ a ≤ 37 then 6 else if a = 44 then 8 else if a = 46 then 8 else if a = 47 then 8 else if a = 58 then 8 else if 768 ≤ a ∧ a ≤ 879 then 9
 else if a = 8203 then 10 else if a = 8205 then 10 else if a = 173 then 10 else if a = 9 then 11 else if a = 32 then 12 else moveV a) := by
 simp only [spec_l1Signs.f, spec_l1Signs.j0, spec_l1Signs.j1, spec_l1Signs.j2, l1In_b, Option.bind_some, moves_p]
 grind (splits := 40)
theorem spec_bidi_p (k : Nat) (a : Int) : spec_RuneBidi.f (k + 14) a = some (bidiV a) := by
 simp only [spec_RuneBidi.f, spec_RuneBidi.j0, l1In_b, Option.bind_some, signs_p, bidiV]
 grind (splits := 40)
theorem spec_bidi_k {k : Nat} (h : 14 ≤ k) (a : Int) : spec_RuneBidi.f k a = some (bidiV a) := by
 obtain ⟨k, rfl⟩ : ∃ m, k = m + 14 := ⟨k - 14, by omega⟩
 exact spec_bidi_p k a
theorem find_if {α : Type} (p : α → Bool) (x : α) (l : List α) : (x :: l).find? p = if p x = true then some x else l.find? p := by
 cases h : p x <;> simp [h]
theorem bidi_chain (a : Int) : (if 9 ≤ a ∧ a ≤ 9 then (11 : Int) else if 32 ≤ a ∧ a ≤ 32 then (12 : Int) else if 35 ≤ a ∧ a ≤ 37 then (6 : Int) else if 43 ≤ a ∧ a ≤ 43 then (5 : Int) else if 44 ≤ a ∧ a ≤ 44 then (8 : Int) else if 45 ≤ a ∧ a ≤ 45 then (5 : Int) else if 46 ≤ a ∧ a ≤ 47 then (8 : Int) else if 48 ≤ a ∧ a ≤ 57 then (4 : Int) else if 58 ≤ a ∧ a ≤ 58 then (8 : Int) else if 65 ≤ a ∧ a ≤ 90 then (1 : Int) else if 97 ≤ a ∧ a ≤ 122 then (1 : Int) else if 173 ≤ a ∧ a ≤ 173 then (10 : Int) else if 768 ≤ a ∧ a ≤ 879 then (9 : Int) else if 1488 ≤ a ∧ a ≤ 1514 then (2 : Int) else if 1569 ≤ a ∧ a ≤ 1610 then (3 : Int) else if 1632 ≤ a ∧ a ≤ 1641 then (7 : Int) else if 8203 ≤ a ∧ a ≤ 8203 then (10 : Int) else if 8205 ≤ a ∧ a ≤ 8205 then (10 : Int) else if 8234 ≤ a ∧ a ≤ 8234 then (14 : Int) else if 8235 ≤ a ∧ a ≤ 8235 then (15 : Int) else if 8236 ≤ a ∧ a ≤ 8236 then (16 : Int) else if 8237 ≤ a ∧ a ≤ 8237 then (17 : Int) else if 8238 ≤ a ∧ a ≤ 8238 then (18 : Int) else if 8294 ≤ a ∧ a ≤ 8294 then (19 : Int) else if 8295 ≤ a ∧ a ≤ 8295 then (20 : Int) else if 8296 ≤ a ∧ a ≤ 8296 then (21 : Int) else if 8297 ≤ a ∧ a ≤ 8297 then (22 : Int) else if 19968 ≤ a ∧ a ≤ 40959 then (1 : Int) else 13) = bidiV a := by
 unfold bidiV moveV
 by_cases h0 : a < 9
 · (repeat (first | rw [if_pos (by omega)] | rw [if_neg (by omega)])) <;> try rfl
 by_cases h1 : a < 10
 · (repeat (first | rw [if_pos (by omega)] | rw [if_neg (by omega)])) <;> try rfl
 clear h0
 by_cases h2 : a < 32
 · (repeat (first | rw [if_pos (by omega)] | rw [if_neg (by omega)])) <;> try rfl
 clear h1
 by_cases h3 : a < 33
 · (repeat (first | rw [if_pos (by omega)] | rw [if_neg (by omega)])) <;> try rfl
 clear h2
 by_cases h4 : a < 35
 · (repeat (first | rw [if_pos (by omega)] | rw [if_neg (by omega)])) <;> try rfl
 clear h3
 by_cases h5 : a < 38
 · (repeat (first | rw [if_pos (by omega)] | rw [if_neg (by omega)])) <;> try rfl
 clear h4
 by_cases h6 : a < 43
 · (repeat (first | rw [if_pos (by omega)] | rw [if_neg (by omega)])) <;> try rfl
 clear h5
 by_cases h7 : a < 44
 · (repeat (first | rw [if_pos (by omega)] | rw [if_neg (by omega)])) <;> try rfl
 clear h6
 by_cases h8 : a < 45
 · (repeat (first | rw [if_pos (by omega)] | rw [if_neg (by omega)])) <;> try rfl
 clear h7
 by_cases h9 : a < 46
 · (repeat (first | rw [if_pos (by omega)] | rw [if_neg (by omega)])) <;> try rfl
 clear h8
 by_cases h90 : a < 47
 · (repeat (first | rw [if_pos (by omega)] | rw [if_neg (by omega)])) <;> try rfl
 clear h9
 by_cases h10 : a < 48
 · (repeat (first | rw [if_pos (by omega)] | rw [if_neg (by omega)])) <;> try rfl
 clear h90
 by_cases h11 : a < 58
 · (repeat (first | rw [if_pos (by omega)] | rw [if_neg (by omega)])) <;> try rfl
 clear h10
 by_cases h12 : a < 59
 · (repeat (first | rw [if_pos (by omega)] | rw [if_neg (by omega)])) <;> try rfl
 clear h11
 by_cases h13 : a < 65
 · (repeat (first | rw [if_pos (by omega)] | rw [if_neg (by omega)])) <;> try rfl
 clear h12
 by_cases h14 : a < 91
 · (repeat (first | rw [if_pos (by omega)] | rw [if_neg (by omega)])) <;> try rfl
 clear h13
 by_cases h15 : a < 97
 · (repeat (first | rw [if_pos (by omega)] | rw [if_neg (by omega)])) <;> try rfl
 clear h14
 by_cases h16 : a < 123
 · (repeat (first | rw [if_pos (by omega)] | rw [if_neg (by omega)])) <;> try rfl
 clear h15
 by_cases h17 : a < 173
 · (repeat (first | rw [if_pos (by omega)] | rw [if_neg (by omega)])) <;> try rfl
 clear h16
 by_cases h18 : a < 174
 · (repeat (first | rw [if_pos (by omega)] | rw [if_neg (by omega)])) <;> try rfl
 clear h17
 by_cases h19 : a < 768
 · (repeat (first | rw [if_pos (by omega)] | rw [if_neg (by omega)])) <;> try rfl
 clear h18
 by_cases h20 : a < 880
 · (repeat (first | rw [if_pos (by omega)] | rw [if_neg (by omega)])) <;> try rfl
 clear h19
 by_cases h21 : a < 1488
 · (repeat (first | rw [if_pos (by omega)] | rw [if_neg (by omega)])) <;> try rfl
 clear h20
 by_cases h22 : a < 1515
 · (repeat (first | rw [if_pos (by omega)] | rw [if_neg (by omega)])) <;> try rfl
 clear h21
 by_cases h23 : a < 1569
 · (repeat (first | rw [if_pos (by omega)] | rw [if_neg (by omega)])) <;> try rfl
 clear h22
 by_cases h24 : a < 1611
 · (repeat (first | rw [if_pos (by omega)] | rw [if_neg (by omega)])) <;> try rfl
 clear h23
 by_cases h25 : a < 1632
 · (repeat (first | rw [if_pos (by omega)] | rw [if_neg (by omega)])) <;> try rfl
 clear h24
 by_cases h26 : a < 1642
 · (repeat (first | rw [if_pos (by omega)] | rw [if_neg (by omega)])) <;> try rfl
 clear h25
 by_cases h27 : a < 8203
 · (repeat (first | rw [if_pos (by omega)] | rw [if_neg (by omega)])) <;> try rfl
 clear h26
 by_cases h28 : a < 8204
 · (repeat (first | rw [if_pos (by omega)] | rw [if_neg (by omega)])) <;> try rfl
 clear h27
 by_cases h29 : a < 8205
 · (repeat (first | rw [if_pos (by omega)] | rw [if_neg (by omega)])) <;> try rfl
 clear h28
 by_cases h30 : a < 8206
 · (repeat (first | rw [if_pos (by omega)] | rw [if_neg (by omega)])) <;> try rfl
 clear h29
 by_cases h31 : a < 8234
 · (repeat (first | rw [if_pos (by omega)] | rw [if_neg (by omega)])) <;> try rfl
 clear h30
 by_cases h32 : a < 8235
 · (repeat (first | rw [if_pos (by omega)] | rw [if_neg (by omega)])) <;> try rfl
 clear h31
 by_cases h33 : a < 8236
 · (repeat (first | rw [if_pos (by omega)] | rw [if_neg (by omega)])) <;> try rfl
 clear h32
 by_cases h34 : a < 8237
 · (repeat (first | rw [if_pos (by omega)] | rw [if_neg (by omega)])) <;> try rfl
 clear h33
 by_cases h35 : a < 8238
 · (repeat (first | rw [if_pos (by omega)] | rw [if_neg (by omega)])) <;> try rfl
 clear h34
 by_cases h36 : a < 8239
 · (repeat (first | rw [if_pos (by omega)] | rw [if_neg (by omega)])) <;> try rfl
 clear h35
 by_cases h37 : a < 8294
 · (repeat (first | rw [if_pos (by omega)] | rw [if_neg (by omega)])) <;> try rfl
 clear h36
 by_cases h38 : a < 8295
 · (repeat (first | rw [if_pos (by omega)] | rw [if_neg (by omega)])) <;> try rfl
 clear h37
 by_cases h39 : a < 8296
 · (repeat (first | rw [if_pos (by omega)] | rw [if_neg (by omega)])) <;> try rfl
 clear h38
 by_cases h40 : a < 8297
 · (repeat (first | rw [if_pos (by omega)] | rw [if_neg (by omega)])) <;> try rfl
 clear h39
 by_cases h41 : a < 8298
 · (repeat (first | rw [if_pos (by omega)] | rw [if_neg (by omega)])) <;> try rfl
 clear h40
 by_cases h42 : a < 19968
 · (repeat (first | rw [if_pos (by omega)] | rw [if_neg (by omega)])) <;> try rfl
 clear h41
 by_cases h43 : a < 40960
 · (repeat (first | rw [if_pos (by omega)] | rw [if_neg (by omega)])) <;> try rfl
 clear h42
 (repeat (first | rw [if_pos (by omega)] | rw [if_neg (by omega)])) <;> try rfl
theorem impl_bidi_p (a : Int) : impl_RuneBidi.f a = some (bidiV a) := by
 unfold impl_RuneBidi.f impl_bidiReaches.f impl_find.f
 rw [Option.bind_some, if_pos (by decide), findV_eq (by decide), ← bidi_chain]
 simp only [Option.bind_some, find_if, List.find?_nil, inR_iff]
 congr 1
 by_cases h : 9 ≤ a ∧ a ≤ 9
 · simp only [if_pos h]
 simp only [if_neg h]; clear h
 by_cases h : 32 ≤ a ∧ a ≤ 32
 · simp only [if_pos h]
 simp only [if_neg h]; clear h
 by_cases h : 35 ≤ a ∧ a ≤ 37
 · simp only [if_pos h]
 simp only [if_neg h]; clear h
 by_cases h : 43 ≤ a ∧ a ≤ 43
 · simp only [if_pos h]
 simp only [if_neg h]; clear h
 by_cases h : 44 ≤ a ∧ a ≤ 44
 · simp only [if_pos h]
 simp only [if_neg h]; clear h
 by_cases h : 45 ≤ a ∧ a ≤ 45
 · simp only [if_pos h]
 simp only [if_neg h]; clear h
 by_cases h : 46 ≤ a ∧ a ≤ 47
 · simp only [if_pos h]
 simp only [if_neg h]; clear h
 by_cases h : 48 ≤ a ∧ a ≤ 57
 · simp only [if_pos h]
 simp only [if_neg h]; clear h
 by_cases h : 58 ≤ a ∧ a ≤ 58
 · simp only [if_pos h]
 simp only [if_neg h]; clear h
 by_cases h : 65 ≤ a ∧ a ≤ 90
 · simp only [if_pos h]
 simp only [if_neg h]; clear h
 by_cases h : 97 ≤ a ∧ a ≤ 122
 · simp only [if_pos h]
 simp only [if_neg h]; clear h
 by_cases h : 173 ≤ a ∧ a ≤ 173
 · simp only [if_pos h]
 simp only [if_neg h]; clear h
 by_cases h : 768 ≤ a ∧ a ≤ 879
 · simp only [if_pos h]
 simp only [if_neg h]; clear h
 by_cases h : 1488 ≤ a ∧ a ≤ 1514
 · simp only [if_pos h]
 simp only [if_neg h]; clear h
 by_cases h : 1569 ≤ a ∧ a ≤ 1610
 · simp only [if_pos h]
 simp only [if_neg h]; clear h
 by_cases h : 1632 ≤ a ∧ a ≤ 1641
 · simp only [if_pos h]
 simp only [if_neg h]; clear h
 by_cases h : 8203 ≤ a ∧ a ≤ 8203
 · simp only [if_pos h]
 simp only [if_neg h]; clear h
 by_cases h : 8205 ≤ a ∧ a ≤ 8205
 · simp only [if_pos h]
 simp only [if_neg h]; clear h
 by_cases h : 8234 ≤ a ∧ a ≤ 8234
 · simp only [if_pos h]
 simp only [if_neg h]; clear h
 by_cases h : 8235 ≤ a ∧ a ≤ 8235
 · simp only [if_pos h]
 simp only [if_neg h]; clear h
 by_cases h : 8236 ≤ a ∧ a ≤ 8236
 · simp only [if_pos h]
 simp only [if_neg h]; clear h
 by_cases h : 8237 ≤ a ∧ a ≤ 8237
 · simp only [if_pos h]
 simp only [if_neg h]; clear h
 by_cases h : 8238 ≤ a ∧ a ≤ 8238
 · simp only [if_pos h]
 simp only [if_neg h]; clear h
 by_cases h : 8294 ≤ a ∧ a ≤ 8294
 · simp only [if_pos h]
 simp only [if_neg h]; clear h
 by_cases h : 8295 ≤ a ∧ a ≤ 8295
 · simp only [if_pos h]
 simp only [if_neg h]; clear h
 by_cases h : 8296 ≤ a ∧ a ≤ 8296
 · simp only [if_pos h]
 simp only [if_neg h]; clear h
 by_cases h : 8297 ≤ a ∧ a ≤ 8297
 · simp only [if_pos h]
 simp only [if_neg h]; clear h
 by_cases h : 19968 ≤ a ∧ a ≤ 40959
 · simp only [if_pos h]
 simp only [if_neg h]
end Go.Proofs.YtmcdcogedcbndaaGreat.Pure
namespace Go.Proofs.YtmcdcogedcbndaaGreat.S
open Go.RowKit Go.Proofs.YtmcdcogedcbndaaGreatW.PrintWords Go.Proofs.YtmcdcogedcbndaaGreatW.PrintLast
set_option linter.unusedVariables false
set_option linter.unusedSimpArgs false
def impl_endsOk.l0 : Nat → Int → Int → List Int → Int → Int → Option (Bool)
 | 0, _, _, _, _, _ => none
 | k + 1, x1, x5, x8, x9, x10 => if x10 < x9 then (if 0 ≤ x10 then (if x10 < (x8.length : Int) then (if (rd x8 x10) ≤ x5 then (some false) else (impl_endsOk.l0 k x1 (rd x8 x10) x8 x9 (wrap64 (x10 + 1)))) else (none)) else (none)) else (some (x5 == x1))
def impl_endsOk.f (k : Nat) (l0 : List Int) (a1 : Int) : Option (Bool) := impl_endsOk.l0 k a1 0 l0 (l0.length : Int) 0
theorem impl_endsOk.mono_l : ∀ k, (∀ y0 y1 y2 y3 y4, LeO (impl_endsOk.l0 k y0 y1 y2 y3 y4) (impl_endsOk.l0 (k + 1) y0 y1 y2 y3 y4))
 | 0 => fun _ _ _ _ _ r h => by simp [impl_endsOk.l0] at h
 | k + 1 => by
  have ih0 := impl_endsOk.mono_l k
  ·
   intro y0 y1 y2 y3 y4; unfold impl_endsOk.l0
   repeat' first
   | (with_reducible exact ih0 _ _ _ _ _)
   | (with_reducible exact LeO.refl _)
   | (with_reducible exact LeO.none _)
   | (with_reducible refine LeO.ite ?_ ?_)
   | (with_reducible refine LeO.bind ?_ (fun _ => ?_))
   | exact ih0 _ _ _ _ _
   | exact LeO.none _
   | refine LeO.ite ?_ ?_
   | refine LeO.bind ?_ (fun _ => ?_)
theorem impl_endsOk.mono : ∀ a0 a1 k, LeO (impl_endsOk.f k a0 a1) (impl_endsOk.f (k + 1) a0 a1) := by
 intro a0 a1 k; have ih0 := impl_endsOk.mono_l k; unfold impl_endsOk.f
 repeat' first
   | (with_reducible exact ih0 _ _ _ _ _)
   | (with_reducible exact LeO.refl _)
   | (with_reducible exact LeO.none _)
   | (with_reducible refine LeO.ite ?_ ?_)
   | (with_reducible refine LeO.bind ?_ (fun _ => ?_))
   | exact ih0 _ _ _ _ _
   | exact LeO.none _
   | refine LeO.ite ?_ ?_
   | refine LeO.bind ?_ (fun _ => ?_)
theorem impl_endsOk.calls (k : Nat) (A0 : Option Addr) (c0 : Nat) (l0 : List Int) (a1 : Int) (r : Bool) (w : World) (hr0 : Kd.C (Kd.int .i64) w A0 l0.length l0) (hc0 : l0.length ≤ c0) (h : impl_endsOk.f k l0 a1 = some r) :
  Calls Tryz.prog 50 #[.slice A0 l0.length c0, .int .i64 a1] w fun e w' => e = .returned (.bool r) ∧ Drawn0 w w' := by
 have HR0 := az hr0; have HC0 := az hc0; clear hr0 hc0; have H : (impl_endsOk.l0 k a1 0 l0 (l0.length : Int) 0) = some r := h; clear h; have H' := az H; clear H; go_enter Tryz.func50, Tryz.ntmps50; go_wp2; go_loopg [5, 10] k (fun kq v5 v10 w' => ∃ (x5_1 : Int) (x10_1 : Int), v5 = .int .i64 x5_1 ∧ v10 = .int .i64 x10_1 ∧ Aside0 (impl_endsOk.l0 kq a1 x5_1 l0 (l0.length : Int) x10_1 = some r) ∧ Aside0 (kq ≤ k) ∧ Drawn0 w w')
 case atStart => exact ⟨(0), (0), zB, zB, H', ⟨Nat.le_refl _⟩, zE⟩
 case round =>
  clear H'; (try clear p2); obtain ⟨x5_1, x10_1, rfl, rfl, HA, HK1, ⟨m1, rfl⟩⟩ := hrel
  cases gk with
  | zero => exact absurd HA.out (by simp [impl_endsOk.l0])
  | succ k1 =>
   have H := HA.out; clear HA; simp only [impl_endsOk.l0] at H; by_cases c3 : x10_1 < (l0.length : Int)
   ·
    rw [if_pos c3] at H; have c3b0 : decide (x10_1 < (l0.length : Int)) = true := decide_eq_true c3; clear c3; by_cases c4 : 0 ≤ x10_1
    ·
     rw [if_pos c4] at H; have c4b0 : decide (0 ≤ x10_1) = true := decide_eq_true c4; clear c4; by_cases c5 : x10_1 < (l0.length : Int)
     ·
      rw [if_pos c5] at H; have c5b0 : decide (x10_1 < (l0.length : Int)) = true := decide_eq_true c5; clear c5; by_cases c6 : (rd l0 x10_1) ≤ x5_1
      ·
       rw [if_pos c6] at H; have c6b0 : decide ((rd l0 x10_1) ≤ x5_1) = true := decide_eq_true c6; clear c6; obtain rfl := Option.some.inj H; have p689 : 0 ≤ (x10_1 : Int) := of_decide_eq_true (by assumption); have q689 : x10_1 < (l0.length : Int) := of_decide_eq_true (by assumption); obtain ⟨ad689, e689, hx689_0⟩ := Kd.at_int HR0.out x10_1 p689 q689
       cases e689
       replace p689 := eq_true p689; replace q689 := eq_true q689; go_wp2; go_ret; exact ⟨zB, zE⟩
      ·
       rw [if_neg c6] at H; have c6b0 : decide ((rd l0 x10_1) ≤ x5_1) = false := decide_eq_false c6; clear c6; have H' := az H; clear H; have p689 : 0 ≤ (x10_1 : Int) := of_decide_eq_true (by assumption); have q689 : x10_1 < (l0.length : Int) := of_decide_eq_true (by assumption); obtain ⟨ad689, e689, hx689_0⟩ := Kd.at_int HR0.out x10_1 p689 q689
       cases e689
       replace p689 := eq_true p689; replace q689 := eq_true q689; go_wp2; go_roundg k1
       case measure => have := HK1.out; omega
       case rel => exact ⟨(rd l0 x10_1), (wrap64 (x10_1 + 1)), zB, zB, H', ⟨zG HK1.out⟩, zE⟩
     ·
      rw [if_neg c5] at H; exact absurd H (by simp)
    ·
     rw [if_neg c4] at H; exact absurd H (by simp)
   ·
    rw [if_neg c3] at H; have c3b0 : decide (x10_1 < (l0.length : Int)) = false := decide_eq_false c3; clear c3; obtain rfl := Option.some.inj H; go_wp2; go_ret; exact ⟨zB, zE⟩
def spec_l7Ends.l0 : Nat → List Int → Int → Int → Option (Bool)
 | 0, _, _, _ => none
 | k + 1, x0, x1, x5 => if x5 < (x0.length : Int) then (if x5 > 0 then (if 0 ≤ (wrap64 (x5 - 1)) then (if (wrap64 (x5 - 1)) < (x0.length : Int) then (if 0 ≤ x5 then (if (rd x0 (wrap64 (x5 - 1))) ≥ (rd x0 x5) then (some false) else ((spec_l1In.f (rd x0 x5) 1 x1).bind fun t896 => (if t896 = true then (spec_l7Ends.l0 k x0 x1 (wrap64 (x5 + 1))) else (some false)))) else (none)) else (none)) else (none)) else (if 0 ≤ x5 then ((spec_l1In.f (rd x0 x5) 1 x1).bind fun t898 => (if t898 = true then (spec_l7Ends.l0 k x0 x1 (wrap64 (x5 + 1))) else (some false))) else (none))) else (if x1 = 0 then (some ((x0.length : Int) == 0)) else (if (x0.length : Int) > 0 then (if 0 ≤ (wrap64 ((x0.length : Int) - 1)) then (if (wrap64 ((x0.length : Int) - 1)) < (x0.length : Int) then (some ((rd x0 (wrap64 ((x0.length : Int) - 1))) == x1)) else (none)) else (none)) else (some false)))
def spec_l7Ends.f (k : Nat) (l0 : List Int) (a1 : Int) : Option (Bool) := spec_l7Ends.l0 k l0 a1 0
theorem spec_l7Ends.mono_l : ∀ k, (∀ y0 y1 y2, LeO (spec_l7Ends.l0 k y0 y1 y2) (spec_l7Ends.l0 (k + 1) y0 y1 y2))
 | 0 => fun _ _ _ r h => by simp [spec_l7Ends.l0] at h
 | k + 1 => by
  have ih0 := spec_l7Ends.mono_l k
  ·
   intro y0 y1 y2; unfold spec_l7Ends.l0
   repeat' first
   | (with_reducible exact ih0 _ _ _)
   | (with_reducible exact LeO.refl _)
   | (with_reducible exact LeO.none _)
   | (with_reducible refine LeO.ite ?_ ?_)
   | (with_reducible refine LeO.bind ?_ (fun _ => ?_))
   | exact ih0 _ _ _
   | exact LeO.none _
   | refine LeO.ite ?_ ?_
   | refine LeO.bind ?_ (fun _ => ?_)
theorem spec_l7Ends.mono : ∀ a0 a1 k, LeO (spec_l7Ends.f k a0 a1) (spec_l7Ends.f (k + 1) a0 a1) := by
 intro a0 a1 k; have ih0 := spec_l7Ends.mono_l k; unfold spec_l7Ends.f
 repeat' first
   | (with_reducible exact ih0 _ _ _)
   | (with_reducible exact LeO.refl _)
   | (with_reducible exact LeO.none _)
   | (with_reducible refine LeO.ite ?_ ?_)
   | (with_reducible refine LeO.bind ?_ (fun _ => ?_))
   | exact ih0 _ _ _
   | exact LeO.none _
   | refine LeO.ite ?_ ?_
   | refine LeO.bind ?_ (fun _ => ?_)
theorem spec_l7Ends.calls (k : Nat) (A0 : Option Addr) (c0 : Nat) (l0 : List Int) (a1 : Int) (r : Bool) (w : World) (hr0 : Kd.C (Kd.int .i64) w A0 l0.length l0) (hc0 : l0.length ≤ c0) (h : spec_l7Ends.f k l0 a1 = some r) :
  Calls Tryz.prog 62 #[.slice A0 l0.length c0, .int .i64 a1] w fun e w' => e = .returned (.bool r) ∧ Drawn0 w w' := by
 have HR0 := az hr0; have HC0 := az hc0; clear hr0 hc0; have H : (spec_l7Ends.l0 k l0 a1 0) = some r := h; clear h; have H' := az H; clear H; go_enter Tryz.func62, Tryz.ntmps62; go_wp2; repeat (go_quiet (fail); try go_wp2)
 go_loopg [5] k (fun kq v5 w' => ∃ (x5_1 : Int), v5 = .int .i64 x5_1 ∧ Aside0 (spec_l7Ends.l0 kq l0 a1 x5_1 = some r) ∧ Aside0 (kq ≤ k) ∧ Drawn0 w w')
 case atStart => exact ⟨(0), zB, H', ⟨Nat.le_refl _⟩, zE⟩
 case round =>
  clear H'; (try clear p2); obtain ⟨x5_1, rfl, HA, HK1, ⟨m1, rfl⟩⟩ := hrel
  cases gk with
  | zero => exact absurd HA.out (by simp [spec_l7Ends.l0])
  | succ k1 =>
   have H := HA.out; clear HA; simp only [spec_l7Ends.l0] at H; by_cases c3 : x5_1 < (l0.length : Int)
   ·
    rw [if_pos c3] at H; have c3b0 : decide (x5_1 < (l0.length : Int)) = true := decide_eq_true c3; clear c3; by_cases c4 : x5_1 > 0
    ·
     rw [if_pos c4] at H; have c4b0 : decide (0 < x5_1) = true := decide_eq_true c4; clear c4; obtain ⟨ji5, hji5⟩ : ∃ j_ : Int, (wrap64 (x5_1 - 1)) = j_ := ⟨_, rfl⟩; replace H : (if 0 ≤ (ji5) then (if (ji5) < (l0.length : Int) then (if 0 ≤ x5_1 then (if (rd l0 (ji5)) ≥ (rd l0 x5_1) then (some false) else ((spec_l1In.f (rd l0 x5_1) 1 a1).bind fun t896 => (if t896 = true then (spec_l7Ends.l0 k1 l0 a1 (wrap64 (x5_1 + 1))) else (some false)))) else (none)) else (none)) else (none)) = some r := by first | (rw [hji5] at H; exact H) | (simp only [hji5] at H ⊢; exact H)
     have hji5w : (IntKind.i64.wrap (x5_1 - 1)) = ji5 := (i64_w _).trans hji5; by_cases c6 : 0 ≤ (ji5)
     ·
      rw [if_pos c6] at H; have c6b0 : decide (0 ≤ (ji5)) = true := decide_eq_true c6; clear c6; by_cases c7 : (ji5) < (l0.length : Int)
      ·
       rw [if_pos c7] at H; have c7b0 : decide ((ji5) < (l0.length : Int)) = true := decide_eq_true c7; clear c7; by_cases c8 : 0 ≤ x5_1
       ·
        rw [if_pos c8] at H; have c8b0 : decide (0 ≤ x5_1) = true := decide_eq_true c8; clear c8; by_cases c9 : (rd l0 (ji5)) ≥ (rd l0 x5_1)
        ·
         rw [if_pos c9] at H; have c9b0 : decide ((rd l0 x5_1) ≤ (rd l0 (ji5))) = true := decide_eq_true c9; clear c9; obtain rfl := Option.some.inj H; have p893 : 0 ≤ ((ji5) : Int) := of_decide_eq_true (by assumption); have q893 : (ji5) < (l0.length : Int) := of_decide_eq_true (by assumption); obtain ⟨ad893, e893, hx893_0⟩ := Kd.at_int HR0.out (ji5) p893 q893
         cases e893
         replace p893 := eq_true p893; replace q893 := eq_true q893; have p894 : 0 ≤ (x5_1 : Int) := of_decide_eq_true (by assumption); have q894 : x5_1 < (l0.length : Int) := of_decide_eq_true (by assumption); obtain ⟨ad894, e894, hx894_0⟩ := Kd.at_int HR0.out x5_1 p894 q894; obtain rfl : ad893 = ad894 := (by injection e894); replace p894 := eq_true p894; replace q894 := eq_true q894; go_wp2; repeat (go_quiet (fail); try go_wp2)
         go_ret; exact ⟨by first | rfl | (simp; done) | (simp only [← hji5] <;> (first | rfl | simp)) | (simp [*]; done), zE⟩
        ·
         rw [if_neg c9] at H; have c9b0 : decide ((rd l0 x5_1) ≤ (rd l0 (ji5))) = false := decide_eq_false c9; clear c9; replace H := Option.bind_eq_some_iff.mp H; obtain ⟨t896, A100, H⟩ := H; replace H : (if t896 = true then (spec_l7Ends.l0 k1 l0 a1 (wrap64 (x5_1 + 1))) else (some false)) = some r := H; have A10 := az A100; clear A100; by_cases c11 : t896 = true
         ·
          subst c11; have H1 : (spec_l7Ends.l0 k1 l0 a1 (wrap64 (x5_1 + 1))) = some r := by rw [if_pos rfl] at H; exact H
          clear H; have H := H1; clear H1; have H' := az H; clear H; have p893 : 0 ≤ ((ji5) : Int) := of_decide_eq_true (by assumption); have q893 : (ji5) < (l0.length : Int) := of_decide_eq_true (by assumption); obtain ⟨ad893, e893, hx893_0⟩ := Kd.at_int HR0.out (ji5) p893 q893
          cases e893
          replace p893 := eq_true p893; replace q893 := eq_true q893; have p894 : 0 ≤ (x5_1 : Int) := of_decide_eq_true (by assumption); have q894 : x5_1 < (l0.length : Int) := of_decide_eq_true (by assumption); obtain ⟨ad894, e894, hx894_0⟩ := Kd.at_int HR0.out x5_1 p894 q894; obtain rfl : ad893 = ad894 := (by injection e894); replace p894 := eq_true p894; replace q894 := eq_true q894; have p895 : 0 ≤ (x5_1 : Int) := of_decide_eq_true (by assumption); have q895 : x5_1 < (l0.length : Int) := of_decide_eq_true (by assumption); obtain ⟨ad895, e895, hx895_0⟩ := Kd.at_int HR0.out x5_1 p895 q895; obtain rfl : ad893 = ad895 := (by injection e895); replace p895 := eq_true p895; replace q895 := eq_true q895; go_wp2_with (first | (go_at_call 36; (with_reducible refine (spec_l1In.calls (rd l0 x5_1) 1 a1 true _ A10.out).mono ?_); rintro e w' ⟨rfl, ⟨nd, rfl⟩⟩; (try first | exact ⟨rfl, _, World.drewN_drewN _ _ _⟩ | exact ⟨rfl, _, Eq.trans (World.drewN_drewN _ _ _) (congrArg (World.drewN _) (Nat.add_assoc _ _ _))⟩))); repeat (go_quiet (first | (go_at_call 36; (with_reducible refine (spec_l1In.calls (rd l0 x5_1) 1 a1 true _ A10.out).mono ?_); rintro e w' ⟨rfl, ⟨nd, rfl⟩⟩; (try first | exact ⟨rfl, _, World.drewN_drewN _ _ _⟩ | exact ⟨rfl, _, Eq.trans (World.drewN_drewN _ _ _) (congrArg (World.drewN _) (Nat.add_assoc _ _ _))⟩))); try go_wp2_with (first | (go_at_call 36; (with_reducible refine (spec_l1In.calls (rd l0 x5_1) 1 a1 true _ A10.out).mono ?_); rintro e w' ⟨rfl, ⟨nd, rfl⟩⟩; (try first | exact ⟨rfl, _, World.drewN_drewN _ _ _⟩ | exact ⟨rfl, _, Eq.trans (World.drewN_drewN _ _ _) (congrArg (World.drewN _) (Nat.add_assoc _ _ _))⟩))))
          go_roundg k1
          case measure => have := HK1.out; omega
          case rel => exact ⟨(wrap64 (x5_1 + 1)), zB, H', ⟨zG HK1.out⟩, zE⟩
         ·
          replace c11 := Bool.eq_false_iff.mpr c11; subst c11; have H1 : (some false) = some r := by rw [if_neg (show ¬ (false = true) by decide)] at H; exact H
          clear H; have H := H1; clear H1; obtain rfl := Option.some.inj H; have p893 : 0 ≤ ((ji5) : Int) := of_decide_eq_true (by assumption); have q893 : (ji5) < (l0.length : Int) := of_decide_eq_true (by assumption); obtain ⟨ad893, e893, hx893_0⟩ := Kd.at_int HR0.out (ji5) p893 q893
          cases e893
          replace p893 := eq_true p893; replace q893 := eq_true q893; have p894 : 0 ≤ (x5_1 : Int) := of_decide_eq_true (by assumption); have q894 : x5_1 < (l0.length : Int) := of_decide_eq_true (by assumption); obtain ⟨ad894, e894, hx894_0⟩ := Kd.at_int HR0.out x5_1 p894 q894; obtain rfl : ad893 = ad894 := (by injection e894); replace p894 := eq_true p894; replace q894 := eq_true q894; have p895 : 0 ≤ (x5_1 : Int) := of_decide_eq_true (by assumption); have q895 : x5_1 < (l0.length : Int) := of_decide_eq_true (by assumption); obtain ⟨ad895, e895, hx895_0⟩ := Kd.at_int HR0.out x5_1 p895 q895; obtain rfl : ad893 = ad895 := (by injection e895); replace p895 := eq_true p895; replace q895 := eq_true q895; go_wp2_with (first | (go_at_call 36; (with_reducible refine (spec_l1In.calls (rd l0 x5_1) 1 a1 false _ A10.out).mono ?_); rintro e w' ⟨rfl, ⟨nd, rfl⟩⟩; (try first | exact ⟨rfl, _, World.drewN_drewN _ _ _⟩ | exact ⟨rfl, _, Eq.trans (World.drewN_drewN _ _ _) (congrArg (World.drewN _) (Nat.add_assoc _ _ _))⟩))); repeat (go_quiet (first | (go_at_call 36; (with_reducible refine (spec_l1In.calls (rd l0 x5_1) 1 a1 false _ A10.out).mono ?_); rintro e w' ⟨rfl, ⟨nd, rfl⟩⟩; (try first | exact ⟨rfl, _, World.drewN_drewN _ _ _⟩ | exact ⟨rfl, _, Eq.trans (World.drewN_drewN _ _ _) (congrArg (World.drewN _) (Nat.add_assoc _ _ _))⟩))); try go_wp2_with (first | (go_at_call 36; (with_reducible refine (spec_l1In.calls (rd l0 x5_1) 1 a1 false _ A10.out).mono ?_); rintro e w' ⟨rfl, ⟨nd, rfl⟩⟩; (try first | exact ⟨rfl, _, World.drewN_drewN _ _ _⟩ | exact ⟨rfl, _, Eq.trans (World.drewN_drewN _ _ _) (congrArg (World.drewN _) (Nat.add_assoc _ _ _))⟩))))
          go_ret; exact ⟨by first | rfl | (simp; done) | (simp only [← hji5] <;> (first | rfl | simp)) | (simp [*]; done), zE⟩
       ·
        rw [if_neg c8] at H; exact absurd H (by simp)
      ·
       rw [if_neg c7] at H; exact absurd H (by simp)
     ·
      rw [if_neg c6] at H; exact absurd H (by simp)
    ·
     rw [if_neg c4] at H; have c4b0 : decide (0 < x5_1) = false := decide_eq_false c4; clear c4; by_cases c12 : 0 ≤ x5_1
     ·
      rw [if_pos c12] at H; have c12b0 : decide (0 ≤ x5_1) = true := decide_eq_true c12; clear c12; replace H := Option.bind_eq_some_iff.mp H; obtain ⟨t898, A130, H⟩ := H; replace H : (if t898 = true then (spec_l7Ends.l0 k1 l0 a1 (wrap64 (x5_1 + 1))) else (some false)) = some r := H; have A13 := az A130; clear A130; by_cases c14 : t898 = true
      ·
       subst c14; have H1 : (spec_l7Ends.l0 k1 l0 a1 (wrap64 (x5_1 + 1))) = some r := by rw [if_pos rfl] at H; exact H
       clear H; have H := H1; clear H1; have H' := az H; clear H; have p897 : 0 ≤ (x5_1 : Int) := of_decide_eq_true (by assumption); have q897 : x5_1 < (l0.length : Int) := of_decide_eq_true (by assumption); obtain ⟨ad897, e897, hx897_0⟩ := Kd.at_int HR0.out x5_1 p897 q897
       cases e897
       replace p897 := eq_true p897; replace q897 := eq_true q897; go_wp2_with (first | (go_at_call 36; (with_reducible refine (spec_l1In.calls (rd l0 x5_1) 1 a1 true _ A13.out).mono ?_); rintro e w' ⟨rfl, ⟨nd, rfl⟩⟩; (try first | exact ⟨rfl, _, World.drewN_drewN _ _ _⟩ | exact ⟨rfl, _, Eq.trans (World.drewN_drewN _ _ _) (congrArg (World.drewN _) (Nat.add_assoc _ _ _))⟩))); repeat (go_quiet (first | (go_at_call 36; (with_reducible refine (spec_l1In.calls (rd l0 x5_1) 1 a1 true _ A13.out).mono ?_); rintro e w' ⟨rfl, ⟨nd, rfl⟩⟩; (try first | exact ⟨rfl, _, World.drewN_drewN _ _ _⟩ | exact ⟨rfl, _, Eq.trans (World.drewN_drewN _ _ _) (congrArg (World.drewN _) (Nat.add_assoc _ _ _))⟩))); try go_wp2_with (first | (go_at_call 36; (with_reducible refine (spec_l1In.calls (rd l0 x5_1) 1 a1 true _ A13.out).mono ?_); rintro e w' ⟨rfl, ⟨nd, rfl⟩⟩; (try first | exact ⟨rfl, _, World.drewN_drewN _ _ _⟩ | exact ⟨rfl, _, Eq.trans (World.drewN_drewN _ _ _) (congrArg (World.drewN _) (Nat.add_assoc _ _ _))⟩))))
       go_roundg k1
       case measure => have := HK1.out; omega
       case rel => exact ⟨(wrap64 (x5_1 + 1)), zB, H', ⟨zG HK1.out⟩, zE⟩
      ·
       replace c14 := Bool.eq_false_iff.mpr c14; subst c14; have H1 : (some false) = some r := by rw [if_neg (show ¬ (false = true) by decide)] at H; exact H
       clear H; have H := H1; clear H1; obtain rfl := Option.some.inj H; have p897 : 0 ≤ (x5_1 : Int) := of_decide_eq_true (by assumption); have q897 : x5_1 < (l0.length : Int) := of_decide_eq_true (by assumption); obtain ⟨ad897, e897, hx897_0⟩ := Kd.at_int HR0.out x5_1 p897 q897
       cases e897
       replace p897 := eq_true p897; replace q897 := eq_true q897; go_wp2_with (first | (go_at_call 36; (with_reducible refine (spec_l1In.calls (rd l0 x5_1) 1 a1 false _ A13.out).mono ?_); rintro e w' ⟨rfl, ⟨nd, rfl⟩⟩; (try first | exact ⟨rfl, _, World.drewN_drewN _ _ _⟩ | exact ⟨rfl, _, Eq.trans (World.drewN_drewN _ _ _) (congrArg (World.drewN _) (Nat.add_assoc _ _ _))⟩))); repeat (go_quiet (first | (go_at_call 36; (with_reducible refine (spec_l1In.calls (rd l0 x5_1) 1 a1 false _ A13.out).mono ?_); rintro e w' ⟨rfl, ⟨nd, rfl⟩⟩; (try first | exact ⟨rfl, _, World.drewN_drewN _ _ _⟩ | exact ⟨rfl, _, Eq.trans (World.drewN_drewN _ _ _) (congrArg (World.drewN _) (Nat.add_assoc _ _ _))⟩))); try go_wp2_with (first | (go_at_call 36; (with_reducible refine (spec_l1In.calls (rd l0 x5_1) 1 a1 false _ A13.out).mono ?_); rintro e w' ⟨rfl, ⟨nd, rfl⟩⟩; (try first | exact ⟨rfl, _, World.drewN_drewN _ _ _⟩ | exact ⟨rfl, _, Eq.trans (World.drewN_drewN _ _ _) (congrArg (World.drewN _) (Nat.add_assoc _ _ _))⟩))))
       go_ret; exact ⟨zB, zE⟩
     ·
      rw [if_neg c12] at H; exact absurd H (by simp)
   ·
    rw [if_neg c3] at H; have c3b0 : decide (x5_1 < (l0.length : Int)) = false := decide_eq_false c3; clear c3; by_cases c15 : a1 = 0
    ·
     rw [if_pos c15] at H; have c15b0 : (a1 == 0) = true := beq_iff_eq.mpr c15; have c15b1 : (a1 != 0) = false := bne_eq_false_iff_eq.mpr c15; clear c15; obtain rfl := Option.some.inj H; go_wp2; repeat (go_quiet (fail); try go_wp2)
     go_ret; exact ⟨zB, zE⟩
    ·
     rw [if_neg c15] at H; have c15b0 : (a1 == 0) = false := beq_eq_false_iff_ne.mpr c15; have c15b1 : (a1 != 0) = true := bne_iff_ne.mpr c15; by_cases c16 : (l0.length : Int) > 0
     ·
      rw [if_pos c16] at H; have c16b0 : decide (0 < (l0.length : Int)) = true := decide_eq_true c16; have c16b1 : decide (0 < l0.length) = true := decide_eq_true (by omega); clear c16; obtain ⟨ji17, hji17⟩ : ∃ j_ : Int, (wrap64 ((l0.length : Int) - 1)) = j_ := ⟨_, rfl⟩; replace H : (if 0 ≤ (ji17) then (if (ji17) < (l0.length : Int) then (some ((rd l0 (ji17)) == a1)) else (none)) else (none)) = some r := by first | (rw [hji17] at H; exact H) | (simp only [hji17] at H ⊢; exact H)
      have hji17w : (IntKind.i64.wrap ((l0.length : Int) - 1)) = ji17 := (i64_w _).trans hji17; by_cases c18 : 0 ≤ (ji17)
      ·
       rw [if_pos c18] at H; have c18b0 : decide (0 ≤ (ji17)) = true := decide_eq_true c18; clear c18; by_cases c19 : (ji17) < (l0.length : Int)
       ·
        rw [if_pos c19] at H; have c19b0 : decide ((ji17) < (l0.length : Int)) = true := decide_eq_true c19; clear c19; obtain rfl := Option.some.inj H; have p899 : 0 ≤ ((ji17) : Int) := of_decide_eq_true (by assumption); have q899 : (ji17) < (l0.length : Int) := of_decide_eq_true (by assumption); obtain ⟨ad899, e899, hx899_0⟩ := Kd.at_int HR0.out (ji17) p899 q899
        cases e899
        replace p899 := eq_true p899; replace q899 := eq_true q899; go_wp2; repeat (go_quiet (fail); try go_wp2)
        go_ret; exact ⟨by first | rfl | (simp; done) | (simp only [← hji17] <;> (first | rfl | simp)) | (simp [*]; done), zE⟩
       ·
        rw [if_neg c19] at H; exact absurd H (by simp)
      ·
       rw [if_neg c18] at H; exact absurd H (by simp)
     ·
      rw [if_neg c16] at H; have c16b0 : decide (0 < (l0.length : Int)) = false := decide_eq_false c16; have c16b1 : decide (0 < l0.length) = false := decide_eq_false (by omega); clear c16; obtain rfl := Option.some.inj H; go_wp2; repeat (go_quiet (fail); try go_wp2)
      go_ret; exact ⟨zB, zE⟩
end Go.Proofs.YtmcdcogedcbndaaGreat.S
/- What the laws' own helpers answer: a copy, equality. -/
namespace Go.Proofs.YtmcdcogedcbndaaGreat.Pure
open Go.RowKit Go.Proofs.YtmcdcogedcbndaaGreat.S Go.Proofs.YtmcdcogedcbndaaGreatW.PrintWords Go.Proofs.YtmcdcogedcbndaaGreatW.PrintLast
theorem w64 {x : Int} (h0 : -9223372036854775808 ≤ x) (h1 : x ≤ 9223372036854775807) : wrap64 x = x := by
 unfold wrap64; omega
theorem rd_nat (l : List Int) (i : Nat) : rd l (i : Int) = l.getD i 0 := by simp [rd]
theorem rd_get {l : List Int} {i : Nat} (h : i < l.length) : rd l (i : Int) = l[i] := by simp [rd, List.getD_eq_getElem?_getD, h]
theorem copy_l (l : List Int) (hn : l.length ≤ 1099511627776) : ∀ (d k i : Nat), l.length - i = d → i ≤ l.length → d < k →
  laws_toIntS.l0 k l (l.take i ++ List.replicate (l.length - i) 0) (i : Int) = some l
 | 0, k, i, hd, hi, hk => by
  obtain ⟨k, rfl⟩ : ∃ m, k = m + 1 := ⟨k - 1, by omega⟩
  have e : i = l.length := by omega
  subst e
  rw [laws_toIntS.l0, if_neg (by omega)]
  simp
 | d + 1, k, i, hd, hi, hk => by
  obtain ⟨k, rfl⟩ : ∃ m, k = m + 1 := ⟨k - 1, by omega⟩
  have hlt : i < l.length := by omega
  rw [laws_toIntS.l0, if_pos (by omega), if_pos (by omega), if_pos (by simp; omega), w64 (by omega) (by omega)]
  have e : (l.take i ++ List.replicate (l.length - i) 0).set (i : Int).toNat (rd l i) = l.take (i + 1) ++ List.replicate (l.length - (i + 1)) 0 := by
   rw [Int.toNat_natCast, rd_get hlt, List.set_append_right _ _ (by simp; omega)]
   have h1 : i - (l.take i).length = 0 := by simp; omega
   rw [h1, show l.length - i = (l.length - (i + 1)) + 1 by omega, List.replicate_succ, List.set_cons_zero, List.take_succ_eq_append_getElem hlt, List.append_assoc]
   rfl
  rw [e]
  exact copy_l l hn d k (i + 1) (by omega) (by omega) (by omega)
theorem copy_p {l : List Int} {k : Nat} (hn : l.length ≤ 1099511627776) (hk : l.length < k) : laws_toIntS.f k l = some l := by
 unfold laws_toIntS.f
 rw [if_pos (by omega), if_pos (by omega)]
 simpa using copy_l l hn l.length k 0 (by omega) (by omega) hk
theorem eq_l (a b : List Int) (hab : a.length = b.length) (hn : a.length ≤ 1099511627776) : ∀ (d k i : Nat), a.length - i = d → i ≤ a.length → d < k →
  laws_eqIntS.l0 k a b (i : Int) = some (decide (a.drop i = b.drop i))
 | 0, k, i, hd, hi, hk => by
  obtain ⟨k, rfl⟩ : ∃ m, k = m + 1 := ⟨k - 1, by omega⟩
  have e : i = a.length := by omega
  subst e
  rw [laws_eqIntS.l0, if_neg (by omega), List.drop_length, hab, List.drop_length]
  simp
 | d + 1, k, i, hd, hi, hk => by
  obtain ⟨k, rfl⟩ : ∃ m, k = m + 1 := ⟨k - 1, by omega⟩
  have hlt : i < a.length := by omega
  have hlb : i < b.length := by omega
  rw [laws_eqIntS.l0, if_pos (by omega), if_pos (by omega), if_pos (by omega), w64 (by omega) (by omega), rd_get hlt, rd_get hlb, List.drop_eq_getElem_cons hlt, List.drop_eq_getElem_cons hlb]
  have := eq_l a b hab hn d k (i + 1) (by omega) (by omega) (by omega)
  rw [show ((i : Int) + 1) = ((i + 1 : Nat) : Int) by omega, this]
  by_cases h : a[i] = b[i]
  ·
   rw [if_pos h, h]
   simp only [List.cons.injEq, true_and]
  ·
   rw [if_neg h]
   simp only [List.cons.injEq, h, false_and, decide_false]
theorem eq_p {a b : List Int} {k : Nat} (hn : a.length ≤ 1099511627776) (hk : a.length < k) : laws_eqIntS.f k a b = some (decide (a = b)) := by
 unfold laws_eqIntS.f
 by_cases hab : a.length = b.length
 ·
  rw [if_pos (by omega)]
  simpa using eq_l a b hab hn a.length k 0 (by omega) (by omega) hk
 ·
  rw [if_neg (by omega)]
  simp only [Option.some.injEq]
  exact (decide_eq_false (fun h => hab (by rw [h]))).symm
end Go.Proofs.YtmcdcogedcbndaaGreat.Pure
/- Spans that are ok, and ends of lines, by both texts. -/
namespace Go.Proofs.YtmcdcogedcbndaaGreat.Pure
open Go.RowKit Go.Proofs.YtmcdcogedcbndaaGreat.S Go.Proofs.YtmcdcogedcbndaaGreatW.PrintWords Go.Proofs.YtmcdcogedcbndaaGreatW.PrintLast
abbrev Sp := S50
theorem l1In_f (a b c : Int) : spec_l1In.f a b c = some (decide (b ≤ a ∧ a ≤ c)) := by
 unfold spec_l1In.f
 by_cases h : a ≥ b
 · simp [h]
 · simp [h]
def spanOkV (s : Sp) (n : Int) : Bool := decide (0 ≤ s.f0 ∧ s.f0 < n ∧ s.f0 < s.f1 ∧ s.f1 ≤ n ∧ 1 ≤ s.f2 ∧ s.f2 ≤ 40 ∧ 0 ≤ s.f3 ∧ s.f3 ≤ 9)
theorem spanOk_i (s : Sp) (n : Int) : impl_spanOk.f s.f0 s.f1 s.f2 s.f3 n = some (spanOkV s n) := by
 unfold impl_spanOk.f spanOkV
 by_cases h0 : s.f0 ≥ 0
 ·
  by_cases h1 : s.f0 < n
  ·
   by_cases h2 : s.f1 > s.f0
   ·
    by_cases h3 : s.f1 ≤ n
    ·
     by_cases h4 : s.f2 ≥ 1
     ·
      by_cases h5 : s.f2 ≤ 40
      ·
       by_cases h6 : s.f3 ≥ 0
       ·
        rw [if_pos h0, if_pos h1, if_pos h2, if_pos h3, if_pos h4, if_pos h5, if_pos h6]
        congr 1
        rw [decide_eq_decide]
        omega
       · rw [if_pos h0, if_pos h1, if_pos h2, if_pos h3, if_pos h4, if_pos h5, if_neg h6, decide_eq_false (by omega)]
      · rw [if_pos h0, if_pos h1, if_pos h2, if_pos h3, if_pos h4, if_neg h5, decide_eq_false (by omega)]
     · rw [if_pos h0, if_pos h1, if_pos h2, if_pos h3, if_neg h4, decide_eq_false (by omega)]
    · rw [if_pos h0, if_pos h1, if_pos h2, if_neg h3, decide_eq_false (by omega)]
   · rw [if_pos h0, if_pos h1, if_neg h2, decide_eq_false (by omega)]
  · rw [if_pos h0, if_neg h1, decide_eq_false (by omega)]
 · rw [if_neg h0, decide_eq_false (by omega)]
theorem spanOk_s (s : Sp) {n : Int} (hn : 0 ≤ n) (hn1 : n ≤ 1000000) : spec_l6Ok.f s.f0 s.f1 s.f2 s.f3 n = some (spanOkV s n) := by
 unfold spec_l6Ok.f spanOkV
 simp only [l1In_f, Option.bind_some]
 rw [w64 (x := n - 1) (by omega) (by omega)]
 by_cases h0 : 0 ≤ s.f0 ∧ s.f0 ≤ n - 1
 ·
  rw [decide_eq_true h0, if_pos rfl, w64 (by omega) (by omega)]
  by_cases h1 : s.f0 + 1 ≤ s.f1 ∧ s.f1 ≤ n
  ·
   rw [decide_eq_true h1, if_pos rfl]
   by_cases h2 : 1 ≤ s.f2 ∧ s.f2 ≤ 40
   ·
    rw [decide_eq_true h2, if_pos rfl]
    congr 1
    rw [decide_eq_decide]
    omega
   · rw [decide_eq_false h2, if_neg (by decide), decide_eq_false (by omega)]
  · rw [decide_eq_false h1, if_neg (by decide), decide_eq_false (by omega)]
 · rw [decide_eq_false h0, if_neg (by decide), decide_eq_false (by omega)]
def spAt (l : List Sp) (i : Nat) : Sp := l.getD i z50
theorem rdSp (l : List Sp) (i : Nat) : rd_T50 l (i : Int) = spAt l i := by simp [rd_T50, spAt]
def okAt (l : List Sp) (n : Int) (i : Nat) : Bool := spanOkV (spAt l i) n && (decide (i = 0) || decide ((spAt l (i - 1)).f1 ≤ (spAt l i).f0))
def allFrom (f : Nat → Bool) : Nat → Nat → Bool
 | _, 0 => true
 | i, d + 1 => f i && allFrom f (i + 1) d
theorem allFrom_iff (f : Nat → Bool) : ∀ (d i : Nat), allFrom f i d = true ↔ ∀ j, i ≤ j → j < i + d → f j = true
 | 0, i => ⟨fun _ j h1 h2 => by omega, fun _ => rfl⟩
 | d + 1, i => by
  rw [allFrom, Bool.and_eq_true, allFrom_iff f d (i + 1)]
  constructor
  ·
   rintro ⟨h0, h⟩ j h1 h2
   by_cases e : j = i
   · rw [e]; exact h0
   · exact h j (by omega) (by omega)
  · exact fun h => ⟨h i (by omega) (by omega), fun j h1 h2 => h j (by omega) (by omega)⟩
def spansV (l : List Sp) (n : Int) : Bool := allFrom (okAt l n) 0 l.length && (decide (l.length ≤ 12) && decide (0 ≤ n ∧ n ≤ 80))
theorem spansI_l (l : List Sp) (n : Int) (hl : l.length ≤ 1099511627776) : ∀ (d k i : Nat), l.length - i = d → i ≤ l.length → d < k → impl_SpansOk.l0 k l n l (l.length : Int) (i : Int) = some (allFrom (okAt l n) i d && (decide (l.length ≤ 12) && decide (0 ≤ n ∧ n ≤ 80)))
 | 0, k, i, hd, hi, hk => by
  obtain ⟨k, rfl⟩ : ∃ m, k = m + 1 := ⟨k - 1, by omega⟩
  rw [impl_SpansOk.l0, if_neg (by omega), allFrom, Bool.true_and]
  by_cases h0 : n ≥ 0
  ·
   by_cases h1 : n ≤ 80
   ·
    rw [if_pos h0, if_pos h1, decide_eq_true (show 0 ≤ n ∧ n ≤ 80 by omega), Bool.and_true]
    congr 1
    rw [decide_eq_decide]
    omega
   · rw [if_pos h0, if_neg h1, decide_eq_false (show ¬ (0 ≤ n ∧ n ≤ 80) by omega), Bool.and_false]
  · rw [if_neg h0, decide_eq_false (show ¬ (0 ≤ n ∧ n ≤ 80) by omega), Bool.and_false]
 | d + 1, k, i, hd, hi, hk => by
  obtain ⟨k, rfl⟩ : ∃ m, k = m + 1 := ⟨k - 1, by omega⟩
  have ih := spansI_l l n hl d k (i + 1) (by omega) (by omega) (by omega)
  rw [impl_SpansOk.l0, if_pos (by omega), if_pos (by omega), if_pos (by omega), rdSp, spanOk_i, Option.bind_some, allFrom, okAt]
  have w1 : wrap64 ((i : Int) + 1) = ((i + 1 : Nat) : Int) := by rw [w64 (by omega) (by omega)]; omega
  cases hs : spanOkV (spAt l i) n
  · rw [if_neg (by decide), Bool.false_and, Bool.false_and, Bool.false_and]
  ·
   rw [if_pos rfl, Bool.true_and]
   by_cases h0 : (i : Int) > 0
   ·
    have w2 : wrap64 ((i : Int) - 1) = ((i - 1 : Nat) : Int) := by rw [w64 (by omega) (by omega)]; omega
    rw [if_pos h0, w2, if_pos (by omega), if_pos (by omega), rdSp, decide_eq_false (show ¬ i = 0 by omega), Bool.false_or]
    by_cases h1 : (spAt l (i - 1)).f1 > (spAt l i).f0
    · rw [if_pos h1, decide_eq_false (by omega), Bool.false_and, Bool.false_and]
    · rw [if_neg h1, decide_eq_true (by omega), Bool.true_and, w1, ih]
   · rw [if_neg h0, decide_eq_true (show i = 0 by omega), Bool.true_or, Bool.true_and, w1, ih]
theorem spansI_p {l : List Sp} {n : Int} {k : Nat} (hl : l.length ≤ 1099511627776) (hk : l.length < k) : impl_SpansOk.f k l n = some (spansV l n) := by
 have h := spansI_l l n hl l.length k 0 (by omega) (by omega) hk
 rw [show ((0 : Nat) : Int) = 0 from rfl] at h
 exact h
theorem spansS_l (l : List Sp) (n : Int) (hl : l.length ≤ 1099511627776) (hn : 0 ≤ n) (hn1 : n ≤ 1000000) : ∀ (d k i : Nat), l.length - i = d → i ≤ l.length → d < k → spec_SpansOk.l0 k l n (i : Int) = some (allFrom (okAt l n) i d && (decide (l.length ≤ 12) && decide (0 ≤ n ∧ n ≤ 80)))
 | 0, k, i, hd, hi, hk => by
  obtain ⟨k, rfl⟩ : ∃ m, k = m + 1 := ⟨k - 1, by omega⟩
  rw [spec_SpansOk.l0, if_neg (by omega), allFrom, Bool.true_and]
  by_cases h0 : (l.length : Int) ≤ 12
  · rw [if_pos h0, l1In_f, Option.bind_some, decide_eq_true (show l.length ≤ 12 by omega), Bool.true_and]
  · rw [if_neg h0, decide_eq_false (show ¬ l.length ≤ 12 by omega), Bool.false_and]
 | d + 1, k, i, hd, hi, hk => by
  obtain ⟨k, rfl⟩ : ∃ m, k = m + 1 := ⟨k - 1, by omega⟩
  have ih := spansS_l l n hl hn hn1 d k (i + 1) (by omega) (by omega) (by omega)
  rw [spec_SpansOk.l0, if_pos (by omega), if_pos (by omega), rdSp, spanOk_s _ hn hn1, Option.bind_some, allFrom, okAt]
  have w1 : wrap64 ((i : Int) + 1) = ((i + 1 : Nat) : Int) := by rw [w64 (by omega) (by omega)]; omega
  cases hs : spanOkV (spAt l i) n
  · rw [if_neg (by decide), Bool.false_and, Bool.false_and, Bool.false_and]
  ·
   rw [if_pos rfl, Bool.true_and]
   by_cases h0 : (i : Int) > 0
   ·
    have w2 : wrap64 ((i : Int) - 1) = ((i - 1 : Nat) : Int) := by rw [w64 (by omega) (by omega)]; omega
    rw [if_pos h0, w2, if_pos (by omega), if_pos (by omega), rdSp, decide_eq_false (show ¬ i = 0 by omega), Bool.false_or]
    by_cases h1 : (spAt l (i - 1)).f1 > (spAt l i).f0
    · rw [if_pos h1, decide_eq_false (by omega), Bool.false_and, Bool.false_and]
    · rw [if_neg h1, decide_eq_true (by omega), Bool.true_and, w1, ih]
   · rw [if_neg h0, decide_eq_true (show i = 0 by omega), Bool.true_or, Bool.true_and, w1, ih]
theorem spansS_p {l : List Sp} {n : Int} {k : Nat} (hl : l.length ≤ 1099511627776) (hn : 0 ≤ n) (hn1 : n ≤ 1000000) (hk : l.length < k) : spec_SpansOk.f k l n = some (spansV l n) := by
 have h := spansS_l l n hl hn hn1 l.length k 0 (by omega) (by omega) hk
 rw [show ((0 : Nat) : Int) = 0 from rfl] at h
 exact h
end Go.Proofs.YtmcdcogedcbndaaGreat.Pure
/- How wide letters are, and as what they count where lines may end, by both texts. -/
namespace Go.Proofs.YtmcdcogedcbndaaGreat.Pure
open Go.RowKit Go.Proofs.YtmcdcogedcbndaaGreat.S Go.Proofs.YtmcdcogedcbndaaGreatW.PrintWords Go.Proofs.YtmcdcogedcbndaaGreatW.PrintLast
theorem has_l (x : Int) (l : List Int) (hn : l.length ≤ 1000) : ∀ (d k i : Nat), l.length - i = d → i ≤ l.length → d < k → spec_l1Has.l0 k l x (i : Int) = some ((l.drop i).contains x)
 | 0, k, i, hd, hi, hk => by
  obtain ⟨k, rfl⟩ : ∃ m, k = m + 1 := ⟨k - 1, by omega⟩
  rw [spec_l1Has.l0, if_neg (by omega), List.drop_eq_nil_of_le (by omega)]
  rfl
 | d + 1, k, i, hd, hi, hk => by
  obtain ⟨k, rfl⟩ : ∃ m, k = m + 1 := ⟨k - 1, by omega⟩
  have ih := has_l x l hn d k (i + 1) (by omega) (by omega) (by omega)
  have hlt : i < l.length := by omega
  rw [spec_l1Has.l0, if_pos (by omega), if_pos (by omega), List.drop_eq_getElem_cons hlt, rd_get hlt, w64 (by omega) (by omega), show ((i : Int) + 1) = ((i + 1 : Nat) : Int) by omega, ih, List.contains_cons]
  by_cases h : l[i] = x
  · rw [if_pos h, beq_iff_eq.mpr h.symm, Bool.true_or]
  · rw [if_neg h, beq_eq_false_iff_ne.mpr (fun e => h e.symm), Bool.false_or]
theorem has_p {l : List Int} {x : Int} {k : Nat} (hn : l.length ≤ 1000) (hk : l.length < k) : spec_l1Has.f k l x = some (l.contains x) := by
 have h := has_l x l hn l.length k 0 (by omega) (by omega) hk
 rw [List.drop_zero] at h
 exact h
def wideC (c a : Int) : Int := if c = 9 ∨ c = 10 ∨ 14 ≤ c ∨ a = 10 ∨ a = 13 then 0 else if a = 105 ∨ a = 106 ∨ a = 108 ∨ a = 102 ∨ a = 116 then 6 else if a = 109 ∨ a = 119 then 16 else if 19968 ≤ a ∧ a ≤ 40959 then 20 else if c = 2 ∨ c = 3 then 12 else if c = 11 then 40 else if c = 12 ∨ c = 8 then 6 else 10
def wideV (a : Int) : Int := wideC (bidiV a) a
theorem wideV_le (a : Int) : 0 ≤ wideV a ∧ wideV a ≤ 40 := by unfold wideV wideC; grind
theorem wide_i {k : Nat} (hk : 10 ≤ k) (a : Int) : impl_RuneWide.f k a = some (wideV a) := by
 obtain ⟨k, rfl⟩ : ∃ m, k = m + 10 := ⟨k - 10, by omega⟩
 unfold impl_RuneWide.f wideV
 rw [impl_bidi_p, Option.bind_some]
 generalize bidiV a = c
 simp only [impl_RuneWide.j0, impl_RuneWide.j1, impl_RuneWide.j2, impl_RuneWide.j3, impl_RuneWide.j4, wideC]
 grind (splits := 40)
theorem wide_s {k : Nat} (hk : 30 ≤ k) (a : Int) : spec_RuneWide.f k a = some (wideV a) := by
 obtain ⟨k, rfl⟩ : ∃ m, k = m + 30 := ⟨k - 30, by omega⟩
 unfold spec_RuneWide.f wideV
 rw [spec_bidi_k (by omega), Option.bind_some]
 generalize bidiV a = c
 have hh : ∀ k' : Nat, 20 ≤ k' → spec_l1Has.f k' [105, 106, 108, 102, 116] a = some (decide (a = 105 ∨ a = 106 ∨ a = 108 ∨ a = 102 ∨ a = 116)) := fun k' hk' => by
  rw [has_p (by decide) (by show 5 < k'; omega)]
  congr 1
  rw [Bool.eq_iff_iff]
  simp
 simp only [spec_RuneWide.j0, spec_RuneWide.j1, spec_RuneWide.j2, l1In_f, Option.bind_some, wideC, hh (k + 29) (by omega)]
 grind (splits := 40)
def signC (a : Int) : Int := if a = 40 ∨ a = 91 ∨ a = 123 then 8 else if a = 41 ∨ a = 93 ∨ a = 125 then 9 else if a = 33 ∨ a = 63 then 10 else if a = 34 then 11 else if a = 45 then 12 else if a = 44 ∨ a = 46 ∨ a = 58 ∨ a = 59 ∨ a = 47 then 13 else if a = 9 ∨ a = 173 then 14 else 1
theorem signs_s {k : Nat} (hk : 10 ≤ k) (a : Int) : spec_l5Signs.f k a = some (signC a) := by
 obtain ⟨k, rfl⟩ : ∃ m, k = m + 10 := ⟨k - 10, by omega⟩
 simp only [spec_l5Signs.f, spec_l5Signs.j0, spec_l5Signs.j1, spec_l5Signs.j2, spec_l5Signs.j3, signC]
 grind (splits := 60)
def tailC (a : Int) : Int := if a = 10 then 4 else if a = 32 then 3 else if a = 160 then 5 else if a = 8203 then 6 else if a = 8205 then 7 else if (48 ≤ a ∧ a ≤ 57) ∨ (1632 ≤ a ∧ a ≤ 1641) then 2 else if 19968 ≤ a ∧ a ≤ 40959 then 15 else signC a
def lineV (a : Int) : Int := if bidiV a = 9 ∨ 14 ≤ bidiV a then 7 else tailC a
theorem line_s {k : Nat} (hk : 40 ≤ k) (a : Int) : spec_RuneLine.f k a = some (lineV a) := by
 obtain ⟨k, rfl⟩ : ∃ m, k = m + 40 := ⟨k - 40, by omega⟩
 unfold spec_RuneLine.f lineV tailC
 rw [spec_bidi_k (by omega)]
 by_cases h0 : a = 10
 · subst h0; rfl
 by_cases h1 : a = 32
 · subst h1; rfl
 by_cases h2 : a = 160
 · subst h2; rfl
 by_cases h3 : a = 8203
 · subst h3; rfl
 rw [if_neg h0, if_neg h1, if_neg h2, if_neg h3, if_neg h0, if_neg h1, if_neg h2, if_neg h3, Option.bind_some, Option.bind_some]
 generalize bidiV a = c
 simp only [spec_RuneLine.j0, spec_RuneLine.j1, l1In_f, Option.bind_some, signs_s (k := k + 38) (by omega)]
 grind (splits := 40)
theorem tail_chain (a : Int) : (if 9 ≤ a ∧ a ≤ 9 then (14 : Int) else if 10 ≤ a ∧ a ≤ 10 then (4 : Int) else if 32 ≤ a ∧ a ≤ 32 then (3 : Int) else if 33 ≤ a ∧ a ≤ 33 then (10 : Int) else if 34 ≤ a ∧ a ≤ 34 then (11 : Int) else if 40 ≤ a ∧ a ≤ 40 then (8 : Int) else if 41 ≤ a ∧ a ≤ 41 then (9 : Int) else if 44 ≤ a ∧ a ≤ 44 then (13 : Int) else if 45 ≤ a ∧ a ≤ 45 then (12 : Int) else if 46 ≤ a ∧ a ≤ 47 then (13 : Int) else if 48 ≤ a ∧ a ≤ 57 then (2 : Int) else if 58 ≤ a ∧ a ≤ 59 then (13 : Int) else if 63 ≤ a ∧ a ≤ 63 then (10 : Int) else if 91 ≤ a ∧ a ≤ 91 then (8 : Int) else if 93 ≤ a ∧ a ≤ 93 then (9 : Int) else if 123 ≤ a ∧ a ≤ 123 then (8 : Int) else if 125 ≤ a ∧ a ≤ 125 then (9 : Int) else if 160 ≤ a ∧ a ≤ 160 then (5 : Int) else if 173 ≤ a ∧ a ≤ 173 then (14 : Int) else if 1632 ≤ a ∧ a ≤ 1641 then (2 : Int) else if 8203 ≤ a ∧ a ≤ 8203 then (6 : Int) else if 8205 ≤ a ∧ a ≤ 8205 then (7 : Int) else if 19968 ≤ a ∧ a ≤ 40959 then (15 : Int) else 1) = tailC a := by
 unfold tailC signC
 by_cases h9 : a < 9
 · (repeat (first | rw [if_pos (by omega)] | rw [if_neg (by omega)])) <;> try rfl
 by_cases h10 : a < 10
 · (repeat (first | rw [if_pos (by omega)] | rw [if_neg (by omega)])) <;> try rfl
 clear h9
 by_cases h11 : a < 11
 · (repeat (first | rw [if_pos (by omega)] | rw [if_neg (by omega)])) <;> try rfl
 clear h10
 by_cases h32 : a < 32
 · (repeat (first | rw [if_pos (by omega)] | rw [if_neg (by omega)])) <;> try rfl
 clear h11
 by_cases h33 : a < 33
 · (repeat (first | rw [if_pos (by omega)] | rw [if_neg (by omega)])) <;> try rfl
 clear h32
 by_cases h34 : a < 34
 · (repeat (first | rw [if_pos (by omega)] | rw [if_neg (by omega)])) <;> try rfl
 clear h33
 by_cases h35 : a < 35
 · (repeat (first | rw [if_pos (by omega)] | rw [if_neg (by omega)])) <;> try rfl
 clear h34
 by_cases h40 : a < 40
 · (repeat (first | rw [if_pos (by omega)] | rw [if_neg (by omega)])) <;> try rfl
 clear h35
 by_cases h41 : a < 41
 · (repeat (first | rw [if_pos (by omega)] | rw [if_neg (by omega)])) <;> try rfl
 clear h40
 by_cases h42 : a < 42
 · (repeat (first | rw [if_pos (by omega)] | rw [if_neg (by omega)])) <;> try rfl
 clear h41
 by_cases h44 : a < 44
 · (repeat (first | rw [if_pos (by omega)] | rw [if_neg (by omega)])) <;> try rfl
 clear h42
 by_cases h45 : a < 45
 · (repeat (first | rw [if_pos (by omega)] | rw [if_neg (by omega)])) <;> try rfl
 clear h44
 by_cases h46 : a < 46
 · (repeat (first | rw [if_pos (by omega)] | rw [if_neg (by omega)])) <;> try rfl
 clear h45
 by_cases h48 : a < 48
 · (repeat (first | rw [if_pos (by omega)] | rw [if_neg (by omega)])) <;> try rfl
 clear h46
 by_cases h58 : a < 58
 · (repeat (first | rw [if_pos (by omega)] | rw [if_neg (by omega)])) <;> try rfl
 clear h48
 by_cases h60 : a < 60
 · (repeat (first | rw [if_pos (by omega)] | rw [if_neg (by omega)])) <;> try rfl
 clear h58
 by_cases h63 : a < 63
 · (repeat (first | rw [if_pos (by omega)] | rw [if_neg (by omega)])) <;> try rfl
 clear h60
 by_cases h64 : a < 64
 · (repeat (first | rw [if_pos (by omega)] | rw [if_neg (by omega)])) <;> try rfl
 clear h63
 by_cases h91 : a < 91
 · (repeat (first | rw [if_pos (by omega)] | rw [if_neg (by omega)])) <;> try rfl
 clear h64
 by_cases h92 : a < 92
 · (repeat (first | rw [if_pos (by omega)] | rw [if_neg (by omega)])) <;> try rfl
 clear h91
 by_cases h93 : a < 93
 · (repeat (first | rw [if_pos (by omega)] | rw [if_neg (by omega)])) <;> try rfl
 clear h92
 by_cases h94 : a < 94
 · (repeat (first | rw [if_pos (by omega)] | rw [if_neg (by omega)])) <;> try rfl
 clear h93
 by_cases h123 : a < 123
 · (repeat (first | rw [if_pos (by omega)] | rw [if_neg (by omega)])) <;> try rfl
 clear h94
 by_cases h124 : a < 124
 · (repeat (first | rw [if_pos (by omega)] | rw [if_neg (by omega)])) <;> try rfl
 clear h123
 by_cases h125 : a < 125
 · (repeat (first | rw [if_pos (by omega)] | rw [if_neg (by omega)])) <;> try rfl
 clear h124
 by_cases h126 : a < 126
 · (repeat (first | rw [if_pos (by omega)] | rw [if_neg (by omega)])) <;> try rfl
 clear h125
 by_cases h160 : a < 160
 · (repeat (first | rw [if_pos (by omega)] | rw [if_neg (by omega)])) <;> try rfl
 clear h126
 by_cases h161 : a < 161
 · (repeat (first | rw [if_pos (by omega)] | rw [if_neg (by omega)])) <;> try rfl
 clear h160
 by_cases h173 : a < 173
 · (repeat (first | rw [if_pos (by omega)] | rw [if_neg (by omega)])) <;> try rfl
 clear h161
 by_cases h174 : a < 174
 · (repeat (first | rw [if_pos (by omega)] | rw [if_neg (by omega)])) <;> try rfl
 clear h173
 by_cases h1632 : a < 1632
 · (repeat (first | rw [if_pos (by omega)] | rw [if_neg (by omega)])) <;> try rfl
 clear h174
 by_cases h1642 : a < 1642
 · (repeat (first | rw [if_pos (by omega)] | rw [if_neg (by omega)])) <;> try rfl
 clear h1632
 by_cases h8203 : a < 8203
 · (repeat (first | rw [if_pos (by omega)] | rw [if_neg (by omega)])) <;> try rfl
 clear h1642
 by_cases h8204 : a < 8204
 · (repeat (first | rw [if_pos (by omega)] | rw [if_neg (by omega)])) <;> try rfl
 clear h8203
 by_cases h8205 : a < 8205
 · (repeat (first | rw [if_pos (by omega)] | rw [if_neg (by omega)])) <;> try rfl
 clear h8204
 by_cases h8206 : a < 8206
 · (repeat (first | rw [if_pos (by omega)] | rw [if_neg (by omega)])) <;> try rfl
 clear h8205
 by_cases h19968 : a < 19968
 · (repeat (first | rw [if_pos (by omega)] | rw [if_neg (by omega)])) <;> try rfl
 clear h8206
 by_cases h40960 : a < 40960
 · (repeat (first | rw [if_pos (by omega)] | rw [if_neg (by omega)])) <;> try rfl
 clear h19968
 (repeat (first | rw [if_pos (by omega)] | rw [if_neg (by omega)])) <;> try rfl
theorem reach_i (a : Int) : (impl_lineReaches.f).bind (fun t => impl_find.f t a 1) = some (tailC a) := by
 unfold impl_lineReaches.f impl_find.f
 rw [Option.bind_some, if_pos (by decide), findV_eq (by decide), ← tail_chain]
 simp only [find_if, List.find?_nil, inR_iff]
 congr 1
 by_cases h : 9 ≤ a ∧ a ≤ 9
 · simp only [if_pos h]
 simp only [if_neg h]; clear h
 by_cases h : 10 ≤ a ∧ a ≤ 10
 · simp only [if_pos h]
 simp only [if_neg h]; clear h
 by_cases h : 32 ≤ a ∧ a ≤ 32
 · simp only [if_pos h]
 simp only [if_neg h]; clear h
 by_cases h : 33 ≤ a ∧ a ≤ 33
 · simp only [if_pos h]
 simp only [if_neg h]; clear h
 by_cases h : 34 ≤ a ∧ a ≤ 34
 · simp only [if_pos h]
 simp only [if_neg h]; clear h
 by_cases h : 40 ≤ a ∧ a ≤ 40
 · simp only [if_pos h]
 simp only [if_neg h]; clear h
 by_cases h : 41 ≤ a ∧ a ≤ 41
 · simp only [if_pos h]
 simp only [if_neg h]; clear h
 by_cases h : 44 ≤ a ∧ a ≤ 44
 · simp only [if_pos h]
 simp only [if_neg h]; clear h
 by_cases h : 45 ≤ a ∧ a ≤ 45
 · simp only [if_pos h]
 simp only [if_neg h]; clear h
 by_cases h : 46 ≤ a ∧ a ≤ 47
 · simp only [if_pos h]
 simp only [if_neg h]; clear h
 by_cases h : 48 ≤ a ∧ a ≤ 57
 · simp only [if_pos h]
 simp only [if_neg h]; clear h
 by_cases h : 58 ≤ a ∧ a ≤ 59
 · simp only [if_pos h]
 simp only [if_neg h]; clear h
 by_cases h : 63 ≤ a ∧ a ≤ 63
 · simp only [if_pos h]
 simp only [if_neg h]; clear h
 by_cases h : 91 ≤ a ∧ a ≤ 91
 · simp only [if_pos h]
 simp only [if_neg h]; clear h
 by_cases h : 93 ≤ a ∧ a ≤ 93
 · simp only [if_pos h]
 simp only [if_neg h]; clear h
 by_cases h : 123 ≤ a ∧ a ≤ 123
 · simp only [if_pos h]
 simp only [if_neg h]; clear h
 by_cases h : 125 ≤ a ∧ a ≤ 125
 · simp only [if_pos h]
 simp only [if_neg h]; clear h
 by_cases h : 160 ≤ a ∧ a ≤ 160
 · simp only [if_pos h]
 simp only [if_neg h]; clear h
 by_cases h : 173 ≤ a ∧ a ≤ 173
 · simp only [if_pos h]
 simp only [if_neg h]; clear h
 by_cases h : 1632 ≤ a ∧ a ≤ 1641
 · simp only [if_pos h]
 simp only [if_neg h]; clear h
 by_cases h : 8203 ≤ a ∧ a ≤ 8203
 · simp only [if_pos h]
 simp only [if_neg h]; clear h
 by_cases h : 8205 ≤ a ∧ a ≤ 8205
 · simp only [if_pos h]
 simp only [if_neg h]; clear h
 by_cases h : 19968 ≤ a ∧ a ≤ 40959
 · simp only [if_pos h]
 simp only [if_neg h]
theorem line_i {k : Nat} (hk : 10 ≤ k) (a : Int) : impl_RuneLine.f k a = some (lineV a) := by
 obtain ⟨k, rfl⟩ : ∃ m, k = m + 10 := ⟨k - 10, by omega⟩
 unfold impl_RuneLine.f lineV
 rw [impl_bidi_p, Option.bind_some]
 have hr := reach_i a
 by_cases h0 : bidiV a = 9
 · rw [if_pos h0, if_pos (.inl h0), impl_RuneLine.j0, if_pos rfl]
 ·
  rw [if_neg h0, impl_RuneLine.j0]
  by_cases h1 : bidiV a ≥ 14
  · rw [decide_eq_true h1, if_pos rfl, if_pos (.inr h1)]
  ·
   rw [decide_eq_false h1, if_neg (by decide), if_neg (by omega), ← hr]
   congr 1
   funext t
   cases impl_find.f t a 1 <;> rfl
end Go.Proofs.YtmcdcogedcbndaaGreat.Pure
/- Which letters join the one ahead, by both texts. -/
namespace Go.Proofs.YtmcdcogedcbndaaGreat.Pure
open Go.RowKit Go.Proofs.YtmcdcogedcbndaaGreat.S Go.Proofs.YtmcdcogedcbndaaGreatW.PrintWords Go.Proofs.YtmcdcogedcbndaaGreatW.PrintLast
def flagB (a : Int) : Bool := decide (127462 ≤ a ∧ a ≤ 127487)
def flN (rs : List Int) : Nat → Nat
 | 0 => 0
 | i + 1 => if flagB (rs.getD i 0) = true then flN rs i + 1 else 0
def jV (rs : List Int) (i : Nat) : Bool :=
 if rs.getD i 0 = 10 ∨ rs.getD (i - 1) 0 = 10 then decide (rs.getD (i - 1) 0 = 13 ∧ rs.getD i 0 = 10)
 else if bidiV (rs.getD i 0) = 9 ∨ rs.getD i 0 = 8205 then true else flagB (rs.getD i 0) && decide (flN rs i % 2 = 1)
theorem dec13 {p r : Int} (h : p = 13) : (r == 10) = decide (p = 13 ∧ r = 10) := by
 subst h
 by_cases e : r = 10
 · subst e; rfl
 · rw [beq_eq_false_iff_ne.mpr e, decide_eq_false (fun h => e h.2)]
theorem flag_s (a : Int) : spec_l2Flag.f a = some (flagB a) := by
 unfold spec_l2Flag.f flagB
 rw [l1In_f, Option.bind_some]
theorem flag_i (a : Int) : impl_isRegional.f a = some (flagB a) := by
 unfold impl_isRegional.f flagB
 by_cases h : a ≥ 127462
 ·
  rw [if_pos h]
  congr 1
  rw [decide_eq_decide]
  omega
 · rw [if_neg h, decide_eq_false (by omega)]
theorem joinS_l (rs : List Int) (r : Int) (hn : rs.length ≤ 1000) : ∀ (m k n : Nat), m ≤ rs.length → m < k → n + m ≤ 1000 → spec_l2Joins.l0 k rs r (n : Int) ((m : Int) - 1) = some (flagB r && decide ((n + flN rs m) % 2 = 1))
 | 0, k, n, hm, hk, hn1 => by
  obtain ⟨k, rfl⟩ : ∃ m, k = m + 1 := ⟨k - 1, by omega⟩
  rw [spec_l2Joins.l0, if_neg (by omega), flag_s, Option.bind_some, flN, Nat.add_zero]
  cases flagB r
  · rfl
  ·
   rw [if_pos rfl, Bool.true_and]
   congr 1
   rw [show Int.tmod (n : Int) 2 = ((n % 2 : Nat) : Int) by rw [Int.tmod_eq_emod_of_nonneg (by omega)]; rfl]
   rw [Bool.eq_iff_iff]
   simp
   omega
 | m + 1, k, n, hm, hk, hn1 => by
  obtain ⟨k, rfl⟩ : ∃ m, k = m + 1 := ⟨k - 1, by omega⟩
  rw [spec_l2Joins.l0, show ((m + 1 : Nat) : Int) - 1 = (m : Int) by omega, if_pos (by omega), if_pos (by omega), if_pos (by omega), flag_s, Option.bind_some, rd_nat, flN]
  by_cases h : flagB (rs.getD m 0) = true
  ·
   rw [if_pos h, if_pos h, w64 (by omega) (by omega), w64 (by omega) (by omega)]
   have := joinS_l rs r hn m k (n + 1) (by omega) (by omega) (by omega)
   rw [show ((n + 1 : Nat) : Int) = (n : Int) + 1 by omega] at this
   rw [this, show n + 1 + flN rs m = n + (flN rs m + 1) by omega]
  ·
   rw [if_neg h, if_neg h, Nat.add_zero, flag_s, Option.bind_some]
   cases flagB r
   · rfl
   ·
    rw [if_pos rfl, Bool.true_and]
    congr 1
    rw [show Int.tmod (n : Int) 2 = ((n % 2 : Nat) : Int) by rw [Int.tmod_eq_emod_of_nonneg (by omega)]; rfl]
    rw [Bool.eq_iff_iff]
    simp
    omega
theorem join_s {rs : List Int} {i k : Nat} (hn : rs.length ≤ 1000) (h0 : 0 < i) (hi : i < rs.length) (hk : rs.length + 40 ≤ k) : spec_l2Joins.f k rs (i : Int) = some (jV rs i) := by
 obtain ⟨k, rfl⟩ : ∃ m, k = m + 2 := ⟨k - 2, by omega⟩
 have w1 : wrap64 ((i : Int) - 1) = ((i - 1 : Nat) : Int) := by rw [w64 (by omega) (by omega)]; omega
 unfold spec_l2Joins.f jV
 rw [if_pos (by omega), if_pos (by omega), rd_nat, w1, rd_nat]
 have J0 : ∀ b : Bool, spec_l2Joins.j0 (k + 2) rs (i : Int) (rs.getD i 0) b = if b = true then some (decide (rs.getD (i - 1) 0 = 13 ∧ rs.getD i 0 = 10)) else some (if bidiV (rs.getD i 0) = 9 ∨ rs.getD i 0 = 8205 then true else flagB (rs.getD i 0) && decide (flN rs i % 2 = 1)) := by
  intro b
  have L := joinS_l rs (rs.getD i 0) hn i k 0 (by omega) (by omega) (by omega)
  rw [Nat.zero_add] at L
  cases b
  ·
   rw [spec_l2Joins.j0, if_neg (by decide), if_neg (by decide), spec_bidi_k (by omega), Option.bind_some]
   by_cases h9 : bidiV (rs.getD i 0) = 9
   · rw [if_pos h9, if_pos (.inl h9), spec_l2Joins.j1, if_pos rfl]
   ·
    rw [if_neg h9, spec_l2Joins.j1]
    by_cases h8 : rs.getD i 0 = 8205
    · rw [beq_iff_eq.mpr h8, if_pos rfl, if_pos (.inr h8)]
    ·
     rw [beq_eq_false_iff_ne.mpr h8, if_neg (by decide), if_neg (by rintro (h | h); exact h9 h; exact h8 h), w64 (x := (i : Int) - 1) (by omega) (by omega)]
     exact L
  ·
   rw [spec_l2Joins.j0, if_pos rfl, if_pos rfl, w1, if_pos (by omega), if_pos (by omega), rd_nat]
   by_cases h13 : rs.getD (i - 1) 0 = 13
   · rw [if_pos h13, dec13 h13]
   · rw [if_neg h13, decide_eq_false (fun h => h13 h.1)]
 by_cases h10 : rs.getD i 0 = 10
 · rw [if_pos h10, J0, if_pos rfl, if_pos (.inl h10)]
 ·
  rw [if_neg h10, if_pos (by omega), if_pos (by omega), J0]
  by_cases hp : rs.getD (i - 1) 0 = 10
  · rw [beq_iff_eq.mpr hp, if_pos rfl, if_pos (.inr hp)]
  · rw [beq_eq_false_iff_ne.mpr hp, if_neg (show ¬ (rs.getD i 0 = 10 ∨ rs.getD (i - 1) 0 = 10) by rintro (h | h); exact h10 h; exact hp h), if_neg (show ¬ (false = true) by decide)]
def stV (rs : List Int) (i : Nat) : Int := if i = 0 then 0 else if rs.getD (i - 1) 0 = 13 then 1 else if rs.getD (i - 1) 0 = 10 then 2 else if flagB (rs.getD (i - 1) 0) = true then (if flN rs i % 2 = 1 then 3 else 4) else 5
theorem st_next {rs : List Int} {i k : Nat} (hk : 2 ≤ k) : impl_joining_next.f k (stV rs i) (rs.getD i 0) = some (stV rs (i + 1)) := by
 obtain ⟨k, rfl⟩ : ∃ m, k = m + 2 := ⟨k - 2, by omega⟩
 unfold impl_joining_next.f
 have e : stV rs (i + 1) = if rs.getD i 0 = 13 then 1 else if rs.getD i 0 = 10 then 2 else if flagB (rs.getD i 0) = true then (if flN rs (i + 1) % 2 = 1 then 3 else 4) else 5 := by
  unfold stV
  rw [if_neg (by omega), Nat.add_sub_cancel]
 rw [e]
 by_cases h13 : rs.getD i 0 = 13
 · rw [if_pos h13, if_pos h13]
 rw [if_neg h13, if_neg h13]
 by_cases h10 : rs.getD i 0 = 10
 · rw [if_pos h10, if_pos h10]
 rw [if_neg h10, if_neg h10, flag_i, Option.bind_some, flN]
 by_cases hf : flagB (rs.getD i 0) = true
 ·
  rw [if_pos hf, if_pos hf, if_pos hf, impl_joining_next.j0]
  by_cases h3 : stV rs i = 3
  ·
   rw [beq_iff_eq.mpr h3, if_pos rfl]
   have : flN rs i % 2 = 1 := by
    unfold stV at h3
    grind
   rw [if_neg (by omega)]
  ·
   rw [beq_eq_false_iff_ne.mpr h3, if_neg (by decide), flag_i, Option.bind_some, if_pos hf]
   have : flN rs i % 2 = 0 := by
    unfold stV at h3
    by_cases h0 : i = 0
    · subst h0; rfl
    ·
     obtain ⟨j, rfl⟩ : ∃ j, i = j + 1 := ⟨i - 1, by omega⟩
     rw [if_neg h0, Nat.add_sub_cancel] at h3
     by_cases hg : flagB (rs.getD j 0) = true
     ·
      have n13 : rs.getD j 0 ≠ 13 := by intro h; rw [h] at hg; exact absurd hg (by decide)
      have n10 : rs.getD j 0 ≠ 10 := by intro h; rw [h] at hg; exact absurd hg (by decide)
      rw [if_neg n13, if_neg n10, if_pos hg] at h3
      by_cases ho : flN rs (j + 1) % 2 = 1
      · rw [if_pos ho] at h3; exact absurd rfl h3
      · omega
     · rw [flN, if_neg hg]
   rw [if_pos (by omega)]
 · rw [if_neg hf, if_neg hf, impl_joining_next.j0, if_neg (by decide), flag_i, Option.bind_some, if_neg hf]
theorem st_joins {rs : List Int} {i k : Nat} (hk : 2 ≤ k) : impl_joining_joins.f k (stV rs i) (rs.getD i 0) = some (if i = 0 then false else jV rs i) := by
 obtain ⟨k, rfl⟩ : ∃ m, k = m + 2 := ⟨k - 2, by omega⟩
 unfold impl_joining_joins.f
 by_cases h0 : i = 0
 ·
  subst h0
  rfl
 rw [if_neg h0]
 have hs0 : stV rs i ≠ 0 := by unfold stV; grind
 have hs2 : stV rs i = 2 ↔ rs.getD (i - 1) 0 = 10 := by unfold stV; grind
 have hs1 : stV rs i = 1 ↔ rs.getD (i - 1) 0 = 13 := by unfold stV; grind
 have hs3 : stV rs i = 3 ↔ flN rs i % 2 = 1 := by
  obtain ⟨j, rfl⟩ : ∃ j, i = j + 1 := ⟨i - 1, by omega⟩
  unfold stV
  rw [if_neg h0, Nat.add_sub_cancel]
  by_cases hg : flagB (rs.getD j 0) = true
  ·
   have n13 : rs.getD j 0 ≠ 13 := by intro h; rw [h] at hg; exact absurd hg (by decide)
   have n10 : rs.getD j 0 ≠ 10 := by intro h; rw [h] at hg; exact absurd hg (by decide)
   rw [if_neg n13, if_neg n10, if_pos hg]
   grind
  ·
   rw [if_neg hg, flN, if_neg hg]
   grind
 generalize stV rs i = s at hs0 hs1 hs2 hs3
 unfold jV
 rw [if_neg hs0]
 have J : ∀ b : Bool, impl_joining_joins.j0 (k + 2) s (rs.getD i 0) b = if b = true then some (decide (rs.getD (i - 1) 0 = 13 ∧ rs.getD i 0 = 10)) else some (if bidiV (rs.getD i 0) = 9 ∨ rs.getD i 0 = 8205 then true else flagB (rs.getD i 0) && decide (flN rs i % 2 = 1)) := by
  intro b
  cases b
  ·
   rw [impl_joining_joins.j0]
   simp only [Bool.false_eq_true, if_false]
   rw [impl_bidi_p, Option.bind_some]
   by_cases h9 : bidiV (rs.getD i 0) = 9
   · rw [if_pos h9, if_pos (.inl h9)]
   ·
    rw [if_neg h9]
    by_cases h8 : rs.getD i 0 = 8205
    · rw [if_pos h8, if_pos (.inr h8)]
    ·
     rw [if_neg h8, if_neg (by rintro (h | h); exact h9 h; exact h8 h), flag_i, Option.bind_some]
     cases flagB (rs.getD i 0)
     · rfl
     ·
      rw [if_pos rfl, Bool.true_and]
      congr 1
      rw [Bool.eq_iff_iff, beq_iff_eq, decide_eq_true_eq]
      exact hs3
  ·
   rw [impl_joining_joins.j0, if_pos rfl, if_pos rfl]
   by_cases h1 : s = 1
   · rw [if_pos h1, dec13 (hs1.mp h1)]
   · rw [if_neg h1, decide_eq_false (fun h => h1 (hs1.mpr h.1))]
 by_cases h2 : s = 2
 · rw [if_pos h2, J, if_pos rfl, if_pos (.inr (hs2.mp h2))]
 ·
  rw [if_neg h2, J]
  by_cases h10 : rs.getD i 0 = 10
  · rw [beq_iff_eq.mpr h10, if_pos rfl, if_pos (.inl h10)]
  · rw [beq_eq_false_iff_ne.mpr h10, if_neg (show ¬ (rs.getD i 0 = 10 ∨ rs.getD (i - 1) 0 = 10) by rintro (h | h); exact h10 h; exact h2 (hs2.mpr h)), if_neg (show ¬ (false = true) by decide)]
def jAt (rs : List Int) (i : Nat) : Bool := if i = 0 then false else jV rs i
def jsV (rs : List Int) : List Bool := (List.range rs.length).map (jAt rs)
theorem jsV_len (rs : List Int) : (jsV rs).length = rs.length := by simp [jsV]
theorem jsV_get {rs : List Int} {i : Nat} (h : i < rs.length) : (jsV rs).getD i false = jAt rs i := by simp [jsV, List.getD_eq_getElem?_getD, h]
theorem joined_l (rs : List Int) (hn : rs.length ≤ 1000) : ∀ (d k i : Nat), rs.length - i = d → i ≤ rs.length → d + 10 < k → impl_joined.l0 k ((List.range i).map (jAt rs)) (stV rs i) rs (rs.length : Int) (i : Int) = some (jsV rs)
 | 0, k, i, hd, hi, hk => by
  obtain ⟨k, rfl⟩ : ∃ m, k = m + 1 := ⟨k - 1, by omega⟩
  obtain rfl : i = rs.length := by omega
  rw [impl_joined.l0, if_neg (by omega)]
  rfl
 | d + 1, k, i, hd, hi, hk => by
  obtain ⟨k, rfl⟩ : ∃ m, k = m + 1 := ⟨k - 1, by omega⟩
  rw [impl_joined.l0, if_pos (by omega), if_pos (by omega), if_pos (by omega), rd_nat, st_joins (by omega), Option.bind_some, if_pos (by simp; omega), st_next (by omega), Option.bind_some, w64 (by omega) (by omega)]
  have := joined_l rs hn d k (i + 1) (by omega) (by omega) (by omega)
  rw [List.range_succ, List.map_append, List.map_cons, List.map_nil] at this
  exact this
theorem joined_p {rs : List Int} {k : Nat} (hn : rs.length ≤ 1000) (hk : rs.length + 10 < k) : impl_joined.f k rs = some (jsV rs) := by
 have h := joined_l rs hn rs.length k 0 (by omega) (by omega) hk
 exact h
end Go.Proofs.YtmcdcogedcbndaaGreat.Pure
/- Where lines may end, by both texts. -/
namespace Go.Proofs.YtmcdcogedcbndaaGreat.Pure
open Go.RowKit Go.Proofs.YtmcdcogedcbndaaGreat.S Go.Proofs.YtmcdcogedcbndaaGreatW.PrintWords Go.Proofs.YtmcdcogedcbndaaGreatW.PrintLast
def spc (c : Int) : Prop := c = 3 ∨ c = 4 ∨ c = 6
instance (c : Int) : Decidable (spc c) := by unfold spc; infer_instance
theorem inL_346 (c : Int) : inL [3, 4, 6] c = decide (spc c) := by
 unfold inL
 rw [Bool.eq_iff_iff, decide_eq_true_eq]
 unfold spc
 simp
theorem after_i {k : Nat} (hk : 4 ≤ k) (c : Int) : impl_afterSpace.f k c = some (decide (spc c)) := by
 unfold impl_afterSpace.f
 rw [one_f k c [3, 4, 6] (by decide) (by show 3 < k; omega), Option.bind_some, ← inL_346]
 rfl
def cntV (rs : List Int) : Nat → Int
 | 0 => if lineV (rs.getD 0 0) = 7 then 1 else lineV (rs.getD 0 0)
 | i + 1 => if lineV (rs.getD (i + 1) 0) = 7 then (if spc (cntV rs i) then 1 else cntV rs i) else lineV (rs.getD (i + 1) 0)
def csV (rs : List Int) : List Int := (List.range rs.length).map (cntV rs)
theorem csV_len (rs : List Int) : (csV rs).length = rs.length := by simp [csV]
theorem csV_get {rs : List Int} {i : Nat} (h : i < rs.length) : (csV rs).getD i 0 = cntV rs i := by simp [csV, List.getD_eq_getElem?_getD, h]
theorem pre_get (f : Nat → Int) {i n : Nat} (h : i < n) : ((List.range n).map f).getD i 0 = f i := by simp [List.getD_eq_getElem?_getD, h]
theorem countsI_l (rs : List Int) (hn : rs.length ≤ 1000) : ∀ (d k i : Nat), rs.length - i = d → i ≤ rs.length → d + 50 < k → impl_countsOf.l0 k ((List.range i).map (cntV rs)) rs (rs.length : Int) (i : Int) = some (csV rs)
 | 0, k, i, hd, hi, hk => by
  obtain ⟨k, rfl⟩ : ∃ m, k = m + 1 := ⟨k - 1, by omega⟩
  obtain rfl : i = rs.length := by omega
  rw [impl_countsOf.l0, if_neg (by omega)]
  rfl
 | d + 1, k, i, hd, hi, hk => by
  obtain ⟨k, rfl⟩ : ∃ m, k = m + 1 := ⟨k - 1, by omega⟩
  have ih := countsI_l rs hn d k (i + 1) (by omega) (by omega) (by omega)
  rw [List.range_succ, List.map_append, List.map_cons, List.map_nil] at ih
  have hl : ((List.range i).map (cntV rs)).length < 17592186044416 := by simp; omega
  have w2 : wrap64 ((i : Int) + 1) = ((i + 1 : Nat) : Int) := by rw [w64 (by omega) (by omega)]; omega
  rw [impl_countsOf.l0, if_pos (by omega), if_pos (by omega), if_pos (by omega), rd_nat, line_i (by omega), Option.bind_some, w2]
  by_cases h7 : lineV (rs.getD i 0) = 7
  ·
   rw [if_pos h7]
   by_cases h0 : i = 0
   ·
    subst h0
    rw [if_neg (by omega), if_pos hl]
    rw [cntV, if_pos h7] at ih
    exact ih
   ·
    obtain ⟨j, rfl⟩ : ∃ j, i = j + 1 := ⟨i - 1, by omega⟩
    have w1 : wrap64 (((j + 1 : Nat) : Int) - 1) = (j : Int) := by rw [w64 (by omega) (by omega)]; omega
    rw [if_pos (by omega), w1, if_pos (by omega), if_pos (by simp; omega), rd_nat, pre_get _ (by omega), after_i (by omega), Option.bind_some]
    rw [cntV, if_pos h7] at ih
    by_cases hs : spc (cntV rs j)
    ·
     rw [decide_eq_true hs, if_pos rfl, if_pos hl]
     rw [if_pos hs] at ih
     exact ih
    ·
     rw [decide_eq_false hs, if_neg (by decide), if_pos hl]
     rw [if_neg hs] at ih
     exact ih
  ·
   rw [if_neg h7, if_pos hl]
   have e : cntV rs i = lineV (rs.getD i 0) := by
    cases i with
    | zero => rw [cntV, if_neg h7]
    | succ j => rw [cntV, if_neg h7]
   rw [e] at ih
   exact ih
theorem countsI_p {rs : List Int} {k : Nat} (hn : rs.length ≤ 1000) (hk : rs.length + 50 < k) : impl_countsOf.f k rs = some (csV rs) := countsI_l rs hn rs.length k 0 (by omega) (by omega) hk
theorem countsS_l (rs : List Int) (hn : rs.length ≤ 1000) : ∀ (d k i : Nat), rs.length - i = d → i ≤ rs.length → d + 50 < k → spec_l5Counts.l0 k rs ((List.range i).map (cntV rs)) (i : Int) = some (csV rs)
 | 0, k, i, hd, hi, hk => by
  obtain ⟨k, rfl⟩ : ∃ m, k = m + 1 := ⟨k - 1, by omega⟩
  obtain rfl : i = rs.length := by omega
  rw [spec_l5Counts.l0, if_neg (by omega)]
  rfl
 | d + 1, k, i, hd, hi, hk => by
  obtain ⟨k, rfl⟩ : ∃ m, k = m + 1 := ⟨k - 1, by omega⟩
  have ih := countsS_l rs hn d k (i + 1) (by omega) (by omega) (by omega)
  rw [List.range_succ, List.map_append, List.map_cons, List.map_nil] at ih
  have hl : ((List.range i).map (cntV rs)).length < 17592186044416 := by simp; omega
  have w2 : wrap64 ((i : Int) + 1) = ((i + 1 : Nat) : Int) := by rw [w64 (by omega) (by omega)]; omega
  rw [spec_l5Counts.l0, if_pos (by omega), if_pos (by omega), rd_nat, line_s (by omega), Option.bind_some, w2]
  by_cases h7 : lineV (rs.getD i 0) = 7
  ·
   rw [if_pos h7]
   by_cases h0 : i = 0
   ·
    subst h0
    rw [if_neg (by omega), if_pos hl]
    rw [cntV, if_pos h7] at ih
    exact ih
   ·
    obtain ⟨j, rfl⟩ : ∃ j, i = j + 1 := ⟨i - 1, by omega⟩
    have w1 : wrap64 (((j + 1 : Nat) : Int) - 1) = (j : Int) := by rw [w64 (by omega) (by omega)]; omega
    rw [if_pos (by omega), w1, if_pos (by omega), if_pos (by simp; omega), rd_nat, pre_get _ (by omega)]
    rw [cntV, if_pos h7] at ih
    by_cases h3 : cntV rs j = 3
    · rw [if_pos h3, if_pos hl]; rw [if_pos (show spc (cntV rs j) from .inl h3)] at ih; exact ih
    rw [if_neg h3]
    by_cases h4 : cntV rs j = 4
    · rw [if_pos h4, if_pos hl]; rw [if_pos (show spc (cntV rs j) from .inr (.inl h4))] at ih; exact ih
    rw [if_neg h4]
    by_cases h6 : cntV rs j = 6
    · rw [if_pos h6, if_pos hl]; rw [if_pos (show spc (cntV rs j) from .inr (.inr h6))] at ih; exact ih
    rw [if_neg h6, if_pos hl]
    rw [if_neg (show ¬ spc (cntV rs j) by rintro (h | h | h); exact h3 h; exact h4 h; exact h6 h)] at ih
    exact ih
  ·
   rw [if_neg h7, if_pos hl]
   have e : cntV rs i = lineV (rs.getD i 0) := by
    cases i with
    | zero => rw [cntV, if_neg h7]
    | succ j => rw [cntV, if_neg h7]
   rw [e] at ih
   exact ih
theorem countsS_p {rs : List Int} {k : Nat} (hn : rs.length ≤ 1000) (hk : rs.length + 50 < k) : spec_l5Counts.f k rs = some (csV rs) := countsS_l rs hn rs.length k 0 (by omega) (by omega) hk
theorem place_s {k : Nat} (hk : 10 ≤ k) (a b s : Int) : spec_l5Place.f k a b s = some (placeV a b s) := by
 obtain ⟨k, rfl⟩ : ∃ m, k = m + 10 := ⟨k - 10, by omega⟩
 simp only [spec_l5Place.f, spec_l5Place.j0, spec_l5Place.j1, spec_l5Place.j2, spec_l5Inner.f, spec_l5Inner.j0, spec_l5Inner.j1, spec_l5Inner.j2, spec_l5Never.f, spec_l5Word.f, placeV, placeR, isV, ansV, wordB, inL, List.contains_cons, List.contains_nil]
 grind (splits := 60)
def solV (cs : List Int) : Nat → Int
 | 0 => 0
 | i + 1 => if cs.getD i 0 = 3 then solV cs i else cs.getD i 0
theorem before_l (cs : List Int) (hn : cs.length ≤ 1000) : ∀ (m k : Nat), m ≤ cs.length → m < k → ∃ t : Int, spec_l5Before.l0 k cs ((m : Int) - 1) = some t ∧ ((t < 0 ∧ solV cs m = 0) ∨ (0 ≤ t ∧ t < cs.length ∧ rd cs t = solV cs m))
 | 0, k, hm, hk => by
  obtain ⟨k, rfl⟩ : ∃ m, k = m + 1 := ⟨k - 1, by omega⟩
  rw [spec_l5Before.l0, if_neg (by omega)]
  exact ⟨_, rfl, .inl ⟨by omega, rfl⟩⟩
 | m + 1, k, hm, hk => by
  obtain ⟨k, rfl⟩ : ∃ m, k = m + 1 := ⟨k - 1, by omega⟩
  rw [spec_l5Before.l0, show ((m + 1 : Nat) : Int) - 1 = (m : Int) by omega, if_pos (by omega), if_pos (by omega), if_pos (by omega), rd_nat, solV]
  by_cases h : cs.getD m 0 = 3
  ·
   rw [if_pos h, if_pos h, w64 (by omega) (by omega)]
   exact before_l cs hn m k (by omega) (by omega)
  ·
   rw [if_neg h, if_neg h]
   exact ⟨_, rfl, .inr ⟨by omega, by omega, rd_nat _ _⟩⟩
def brV (rs : List Int) (i : Nat) : Int :=
 if i + 1 = rs.length then 2 else if jV rs (i + 1) = true then 0 else if lineV (rs.getD (i + 1) 0) = 7 ∧ ¬ spc (cntV rs i) then 0 else placeV (cntV rs i) (cntV rs (i + 1)) (solV (csV rs) (i + 1))
def bsV (rs : List Int) : List Int := (List.range rs.length).map (brV rs)
theorem bsV_len (rs : List Int) : (bsV rs).length = rs.length := by simp [bsV]
theorem bsV_get {rs : List Int} {i : Nat} (h : i < rs.length) : (bsV rs).getD i 0 = brV rs i := by simp [bsV, List.getD_eq_getElem?_getD, h]
theorem breaksI_l (rs : List Int) (hn : rs.length ≤ 1000) (k : Nat) (hk : 1000 ≤ k) : ∀ (d i : Nat), rs.length - i = d → i ≤ rs.length → brL k rs (csV rs) (jsV rs) d i (solV (csV rs) i) ((List.range i).map (brV rs)) = some (bsV rs)
 | 0, i, hd, hi => by
  obtain rfl : i = rs.length := by omega
  rfl
 | d + 1, i, hd, hi => by
  have ih := breaksI_l rs hn k hk d (i + 1) (by omega) (by omega)
  rw [List.range_succ, List.map_append, List.map_cons, List.map_nil, solV] at ih
  rw [brL]
  have e : brX k rs (csV rs) (jsV rs) i (if (csV rs).getD i 0 = 3 then solV (csV rs) i else (csV rs).getD i 0) = some (brV rs i) := by
   unfold brX brV
   by_cases hl : i + 1 = rs.length
   · rw [if_pos hl, if_pos hl]
   ·
    rw [if_neg hl, if_neg hl, jsV_get (by omega), show jAt rs (i + 1) = jV rs (i + 1) from if_neg (by omega)]
    by_cases hj : jV rs (i + 1) = true
    · rw [if_pos hj, if_pos hj]
    ·
     rw [if_neg hj, if_neg hj, line_i (by omega), Option.bind_some, after_i (by omega), Option.bind_some, csV_get (by omega), csV_get (by omega), solV, csV_get (by omega)]
     congr 1
     by_cases h7 : lineV (rs.getD (i + 1) 0) = 7 ∧ ¬ spc (cntV rs i)
     · rw [if_pos h7, if_pos ⟨h7.1, decide_eq_false h7.2⟩]
     · rw [if_neg h7, if_neg (fun h => h7 ⟨h.1, of_decide_eq_false h.2⟩)]
  rw [e, Option.bind_some]
  exact ih
theorem breaksI_p {rs : List Int} {k : Nat} (hn : rs.length ≤ 80) (hk : 2000 ≤ k) : impl_breaks.f k rs = some (bsV rs) := by
 unfold impl_breaks.f
 rw [countsI_p (by omega) (by omega), Option.bind_some, joined_p (by omega) (by omega), Option.bind_some, if_pos ⟨csV_len rs, jsV_len rs, by omega⟩]
 exact breaksI_l rs (by omega) k (by omega) rs.length 0 (by omega) (by omega)
theorem breaksS_l (rs : List Int) (hn : rs.length ≤ 80) : ∀ (d k i : Nat), rs.length - i = d → i ≤ rs.length → 2 * d + 500 < k → spec_l5Breaks.l0 k rs (csV rs) ((List.range i).map (brV rs)) (i : Int) = some (bsV rs)
 | 0, k, i, hd, hi, hk => by
  obtain ⟨k, rfl⟩ : ∃ m, k = m + 1 := ⟨k - 1, by omega⟩
  obtain rfl : i = rs.length := by omega
  rw [spec_l5Breaks.l0, if_neg (by rw [csV_len]; omega)]
  rfl
 | d + 1, k, i, hd, hi, hk => by
  obtain ⟨k, rfl⟩ : ∃ m, k = m + 2 := ⟨k - 2, by omega⟩
  have ih1 := breaksS_l rs hn d (k + 1) (i + 1) (by omega) (by omega) (by omega)
  have ih := breaksS_l rs hn d k (i + 1) (by omega) (by omega) (by omega)
  rw [List.range_succ, List.map_append, List.map_cons, List.map_nil] at ih ih1
  have hl : ((List.range i).map (brV rs)).length < 17592186044416 := by simp; omega
  have w2 : wrap64 ((i : Int) + 1) = ((i + 1 : Nat) : Int) := by rw [w64 (by omega) (by omega)]; omega
  have hcl := csV_len rs
  rw [spec_l5Breaks.l0, if_pos (by omega), w2]
  by_cases hlast : i + 1 = rs.length
  ·
   rw [if_pos (by omega), if_pos hl]
   have e : brV rs i = 2 := by unfold brV; rw [if_pos hlast]
   rw [e] at ih1
   exact ih1
  ·
   rw [if_neg (by omega), join_s (by omega) (by omega) (by omega) (by omega), Option.bind_some]
   have J : ∀ b : Bool, (b = true → brV rs i = 0) → (b = false → brV rs i = placeV (cntV rs i) (cntV rs (i + 1)) (solV (csV rs) (i + 1))) → spec_l5Breaks.j1 (k + 1) rs (csV rs) ((List.range i).map (brV rs)) (i : Int) b = some (bsV rs) := by
    intro b hb1 hb0
    cases b
    ·
     have hb := hb0 rfl
     obtain ⟨t, ht, hc⟩ := before_l (csV rs) (by omega) (i + 1) k (by omega) (by omega)
     rw [show ((i + 1 : Nat) : Int) - 1 = (i : Int) by omega] at ht
     rw [spec_l5Breaks.j1, if_neg (by decide)]
     unfold spec_l5Before.f
     rw [ht, Option.bind_some, w2, rd_nat, rd_nat, csV_get (by omega), csV_get (by omega)]
     rcases hc with ⟨h1, h2⟩ | ⟨h1, h2, h3⟩
     ·
      rw [if_neg (by omega), if_pos (by omega), if_pos (by omega), if_pos (by omega), if_pos (by omega), place_s (by omega), Option.bind_some, if_pos hl]
      rw [h2] at hb
      rw [hb] at ih
      exact ih
     ·
      rw [if_pos (by omega), if_pos h1, if_pos h2, if_pos (by omega), if_pos (by omega), if_pos (by omega), if_pos (by omega), place_s (by omega), Option.bind_some, if_pos hl, h3]
      rw [hb] at ih
      exact ih
    ·
     have hb := hb1 rfl
     rw [spec_l5Breaks.j1, if_pos rfl, if_pos hl, w2]
     rw [hb] at ih
     exact ih
   by_cases hj : jV rs (i + 1) = true
   ·
    rw [if_pos hj]
    exact J true (fun _ => by unfold brV; rw [if_neg hlast, if_pos hj]) (fun h => by cases h)
   ·
    rw [if_neg hj, if_pos (by omega), if_pos (by omega), rd_nat, line_s (by omega), Option.bind_some]
    have B : brV rs i = if lineV (rs.getD (i + 1) 0) = 7 ∧ ¬ spc (cntV rs i) then 0 else placeV (cntV rs i) (cntV rs (i + 1)) (solV (csV rs) (i + 1)) := by unfold brV; rw [if_neg hlast, if_neg hj]
    by_cases h7 : lineV (rs.getD (i + 1) 0) = 7
    ·
     rw [if_pos h7, if_pos (by omega), rd_nat, csV_get (by omega)]
     by_cases h3 : cntV rs i = 3
     ·
      rw [if_pos h3]
      exact J false (fun h => by cases h) (fun _ => by rw [B, if_neg (fun h => h.2 (.inl h3))])
     rw [if_neg h3]
     by_cases h4 : cntV rs i = 4
     ·
      rw [if_pos h4]
      exact J false (fun h => by cases h) (fun _ => by rw [B, if_neg (fun h => h.2 (.inr (.inl h4)))])
     rw [if_neg h4]
     by_cases h6 : cntV rs i = 6
     ·
      rw [show (cntV rs i != 6) = false from bne_eq_false_iff_eq.mpr h6]
      exact J false (fun h => by cases h) (fun _ => by rw [B, if_neg (fun h => h.2 (.inr (.inr h6)))])
     ·
      rw [show (cntV rs i != 6) = true from bne_iff_ne.mpr h6]
      exact J true (fun _ => by rw [B, if_pos ⟨h7, by rintro (h | h | h); exact h3 h; exact h4 h; exact h6 h⟩]) (fun h => by cases h)
    ·
     rw [if_neg h7]
     exact J false (fun h => by cases h) (fun _ => by rw [B, if_neg (fun h => h7 h.1)])
theorem breaksS_p {rs : List Int} {k : Nat} (hn : rs.length ≤ 80) (hk : 2000 ≤ k) : spec_l5Breaks.f k rs = some (bsV rs) := by
 unfold spec_l5Breaks.f
 rw [countsS_p (by omega) (by omega), Option.bind_some]
 exact breaksS_l rs hn rs.length k 0 (by omega) (by omega) (by omega)
end Go.Proofs.YtmcdcogedcbndaaGreat.Pure
/- How wide letters of a text with spans are, by both texts. -/
namespace Go.Proofs.YtmcdcogedcbndaaGreat.Pure
open Go.RowKit Go.Proofs.YtmcdcogedcbndaaGreat.S Go.Proofs.YtmcdcogedcbndaaGreatW.PrintWords Go.Proofs.YtmcdcogedcbndaaGreatW.PrintLast
theorem rdOfB (l : List Bool) (i : Nat) : rdOf false l (i : Int) = l.getD i false := by simp [rdOf]
def clF (rs : List Int) : Nat → Nat → Int → Int
 | 0, _, m => m
 | g + 1, i, m => if jV rs i = true then clF rs g (i + 1) (if wideV (rs.getD i 0) > m then wideV (rs.getD i 0) else m) else m
def clV (rs : List Int) (i : Nat) : Int := clF rs (rs.length - (i + 1)) (i + 1) (wideV (rs.getD i 0))
theorem clF_le (rs : List Int) : ∀ (g i : Nat) (m : Int), 0 ≤ m → m ≤ 40 → 0 ≤ clF rs g i m ∧ clF rs g i m ≤ 40
 | 0, _, m, h0, h1 => ⟨h0, h1⟩
 | g + 1, i, m, h0, h1 => by
  have hw := wideV_le (rs.getD i 0)
  rw [clF]
  split
  · exact clF_le rs g (i + 1) _ (by split <;> omega) (by split <;> omega)
  · exact ⟨h0, h1⟩
theorem clV_le (rs : List Int) (i : Nat) : 0 ≤ clV rs i ∧ clV rs i ≤ 40 := clF_le rs _ _ _ (wideV_le _).1 (wideV_le _).2
theorem clusterI_l (rs : List Int) (hn : rs.length ≤ 1000) : ∀ (d k i : Nat) (m : Int), rs.length - i = d → 0 < i → i ≤ rs.length → d + 50 < k → impl_clusterWide.l0 k rs (jsV rs) m (i : Int) = some (clF rs d i m)
 | 0, k, i, m, hd, h0, hi, hk => by
  obtain ⟨k, rfl⟩ : ∃ m, k = m + 1 := ⟨k - 1, by omega⟩
  rw [impl_clusterWide.l0, if_neg (by omega), clF]
 | d + 1, k, i, m, hd, h0, hi, hk => by
  obtain ⟨k, rfl⟩ : ∃ m, k = m + 1 := ⟨k - 1, by omega⟩
  rw [impl_clusterWide.l0, if_pos (by omega), if_pos (by omega), if_pos (by rw [jsV_len]; omega), rdOfB, jsV_get (by omega), show jAt rs i = jV rs i from if_neg (by omega), clF]
  by_cases h : jV rs i = true
  ·
   rw [if_pos h, if_pos h, rd_nat, wide_i (by omega), Option.bind_some, w64 (by omega) (by omega), show ((i : Int) + 1) = ((i + 1 : Nat) : Int) by omega, clusterI_l rs hn d k (i + 1) _ (by omega) (by omega) (by omega) (by omega)]
   rfl
  · rw [if_neg h, if_neg h]
theorem clusterI_p {rs : List Int} {i k : Nat} (hn : rs.length ≤ 1000) (hi : i < rs.length) (hk : rs.length + 50 < k) : impl_clusterWide.f k rs (i : Int) = some (clV rs i) := by
 unfold impl_clusterWide.f clV
 rw [joined_p hn (by omega), Option.bind_some, if_pos (by omega), if_pos (by omega), rd_nat, wide_i (by omega), Option.bind_some, w64 (by omega) (by omega), show ((i : Int) + 1) = ((i + 1 : Nat) : Int) by omega]
 exact clusterI_l rs hn _ k (i + 1) _ rfl (by omega) (by omega) (by omega)
theorem clusterS_l (rs : List Int) (hn : rs.length ≤ 1000) : ∀ (d k i : Nat) (m : Int), rs.length - i = d → 0 < i → i ≤ rs.length → 2 * d + rs.length + 50 < k → spec_l2Wide.l0 k rs m (i : Int) = some (clF rs d i m)
 | 0, k, i, m, hd, h0, hi, hk => by
  obtain ⟨k, rfl⟩ : ∃ m, k = m + 2 := ⟨k - 2, by omega⟩
  rw [spec_l2Wide.l0, if_neg (by omega), clF, spec_l2Wide.j1, if_neg (by decide)]
 | d + 1, k, i, m, hd, h0, hi, hk => by
  obtain ⟨k, rfl⟩ : ∃ m, k = m + 2 := ⟨k - 2, by omega⟩
  rw [spec_l2Wide.l0, if_pos (by omega), join_s hn (by omega) (by omega) (by omega), Option.bind_some, clF, spec_l2Wide.j1]
  by_cases h : jV rs i = true
  ·
   rw [if_pos h, if_pos h, if_pos (by omega), if_pos (by omega), rd_nat, wide_s (by omega), Option.bind_some, w64 (by omega) (by omega), show ((i : Int) + 1) = ((i + 1 : Nat) : Int) by omega]
   by_cases hw : wideV (rs.getD i 0) > m
   · rw [if_pos hw, if_pos hw, Option.bind_some, clusterS_l rs hn d k (i + 1) _ (by omega) (by omega) (by omega) (by omega)]
   · rw [if_neg hw, if_neg hw, clusterS_l rs hn d k (i + 1) _ (by omega) (by omega) (by omega) (by omega)]
  · rw [if_neg h, if_neg h]
theorem clusterS_p {rs : List Int} {i k : Nat} (hn : rs.length ≤ 1000) (hi : i < rs.length) (hk : 3 * rs.length + 60 < k) : spec_l2Wide.f k rs (i : Int) = some (clV rs i) := by
 unfold spec_l2Wide.f clV
 rw [if_pos (by omega), if_pos (by omega), rd_nat, wide_s (by omega), Option.bind_some, w64 (by omega) (by omega), show ((i : Int) + 1) = ((i + 1 : Nat) : Int) by omega]
 exact clusterS_l rs hn _ k (i + 1) _ rfl (by omega) (by omega) (by omega)
theorem at_l (rs : List Int) (hn : rs.length ≤ 1000) : ∀ (i k : Nat), i < rs.length → i + rs.length + 50 < k → ∃ t : Int, spec_l2At.l0 k rs (i : Int) = some t ∧ t ≤ i ∧ (jAt rs i = false → t = i) ∧ (jAt rs i = true → t < i)
 | 0, k, hi, hk => by
  obtain ⟨k, rfl⟩ : ∃ m, k = m + 1 := ⟨k - 1, by omega⟩
  rw [spec_l2At.l0, if_neg (by omega)]
  exact ⟨_, rfl, Int.le_refl _, fun _ => rfl, fun h => by unfold jAt at h; simp at h⟩
 | i + 1, k, hi, hk => by
  obtain ⟨k, rfl⟩ : ∃ m, k = m + 1 := ⟨k - 1, by omega⟩
  rw [spec_l2At.l0, if_pos (by omega), join_s hn (by omega) (by omega) (by omega), Option.bind_some, show jAt rs (i + 1) = jV rs (i + 1) from if_neg (by omega)]
  by_cases h : jV rs (i + 1) = true
  ·
   rw [if_pos h, w64 (by omega) (by omega), show (((i + 1 : Nat) : Int) - 1) = (i : Int) by omega]
   obtain ⟨t, h1, h2, _, _⟩ := at_l rs hn i k (by omega) (by omega)
   exact ⟨t, h1, by omega, (fun e => absurd h (by rw [e]; decide)), fun _ => by omega⟩
  ·
   rw [if_neg h]
   exact ⟨_, rfl, Int.le_refl _, fun _ => rfl, fun e => absurd e h⟩
def wdV (rs : List Int) (sp : List Sp) (i : Nat) : Int := if jAt rs i = true then 0 else clV rs i * (atV (i : Int) sp).1
def wsV (rs : List Int) (sp : List Sp) : List Int := (List.range rs.length).map (wdV rs sp)
theorem wsV_len (rs : List Int) (sp : List Sp) : (wsV rs sp).length = rs.length := by simp [wsV]
theorem wsV_get {rs : List Int} {sp : List Sp} {i : Nat} (h : i < rs.length) : (wsV rs sp).getD i 0 = wdV rs sp i := by simp [wsV, List.getD_eq_getElem?_getD, h]
def SpB (sp : List Sp) : Prop := ∀ s ∈ sp, 0 ≤ s.f1 ∧ s.f1 ≤ 80 ∧ 1 ≤ s.f2 ∧ s.f2 ≤ 40
theorem spB_of {sp : List Sp} {n : Int} (h : spansV sp n = true) : SpB sp := by
 unfold spansV at h
 rw [Bool.and_eq_true, Bool.and_eq_true, allFrom_iff, decide_eq_true_eq, decide_eq_true_eq] at h
 intro s hs
 obtain ⟨i, hi, rfl⟩ := List.getElem_of_mem hs
 have := h.1 i (by omega) (by omega)
 unfold okAt at this
 rw [Bool.and_eq_true] at this
 have h2 := this.1
 unfold spanOkV at h2
 rw [decide_eq_true_eq] at h2
 have e : spAt sp i = sp[i] := by simp [spAt, List.getD_eq_getElem?_getD, hi]
 rw [e] at h2
 have := h.2.2
 omega
theorem atV_le {sp : List Sp} (h : SpB sp) (a : Int) : 1 ≤ (atV a sp).1 ∧ (atV a sp).1 ≤ 40 := by
 induction sp with
 | nil => rw [atV]; exact ⟨by decide, by decide⟩
 | cons s r ih =>
  have hs := h s (by simp)
  rw [atV]
  split
  · exact ⟨hs.2.2.1, hs.2.2.2⟩
  · exact ih (fun x hx => h x (List.mem_cons_of_mem _ hx))
theorem wdV_le {sp : List Sp} (h : SpB sp) (rs : List Int) (i : Nat) : 0 ≤ wdV rs sp i ∧ wdV rs sp i ≤ 1600 := by
 unfold wdV
 split
 · omega
 ·
  have h1 := clV_le rs i
  have h2 := atV_le h (i : Int)
  refine ⟨Int.mul_nonneg h1.1 (by omega), ?_⟩
  have := Int.mul_le_mul h1.2 h2.2 (by omega) (by omega : (0:Int) ≤ 40)
  omega
theorem widesS_l (rs : List Int) (sp : List Sp) (hn : rs.length ≤ 80) (hs : SpB sp) : ∀ (d k i : Nat), rs.length - i = d → i ≤ rs.length → d + 500 < k → spec_l6Wides.l0 k rs sp ((List.range i).map (wdV rs sp)) (i : Int) = some (wsV rs sp)
 | 0, k, i, hd, hi, hk => by
  obtain ⟨k, rfl⟩ : ∃ m, k = m + 1 := ⟨k - 1, by omega⟩
  obtain rfl : i = rs.length := by omega
  rw [spec_l6Wides.l0, if_neg (by omega)]
  rfl
 | d + 1, k, i, hd, hi, hk => by
  obtain ⟨k, rfl⟩ : ∃ m, k = m + 1 := ⟨k - 1, by omega⟩
  have ih := widesS_l rs sp hn hs d k (i + 1) (by omega) (by omega) (by omega)
  rw [List.range_succ, List.map_append, List.map_cons, List.map_nil] at ih
  have hl : ((List.range i).map (wdV rs sp)).length < 17592186044416 := by simp; omega
  have hb := wdV_le hs rs i
  obtain ⟨t, h1, h2, h3, h4⟩ := at_l rs (by omega) i k (by omega) (by omega)
  rw [spec_l6Wides.l0, if_pos (by omega)]
  unfold spec_l2At.f
  rw [h1, Option.bind_some, w64 (x := (i : Int) + 1) (by omega) (by omega), show ((i : Int) + 1) = ((i + 1 : Nat) : Int) by omega]
  unfold wdV at ih hb
  cases hj : jAt rs i
  ·
   rw [hj, if_neg (by decide)] at ih hb
   rw [if_pos (h3 hj)]
   unfold spec_l6At.f
   rw [Option.bind_some, clusterS_p (by omega) (by omega) (by omega), Option.bind_some, if_pos hl, w64 (by omega) (by omega)]
   exact ih
  ·
   rw [hj, if_pos rfl] at ih
   have := h4 hj
   rw [if_neg (by omega), if_pos hl]
   exact ih
theorem widesS_p {rs : List Int} {sp : List Sp} {k : Nat} (hn : rs.length ≤ 80) (hs : SpB sp) (hk : 1000 ≤ k) : spec_l6Wides.f k rs sp = some (wsV rs sp) := widesS_l rs sp hn hs rs.length k 0 (by omega) (by omega) (by omega)
end Go.Proofs.YtmcdcogedcbndaaGreat.Pure
/- How wide letters and lines are, by both texts. -/
namespace Go.Proofs.YtmcdcogedcbndaaGreat.Pure
open Go.RowKit Go.Proofs.YtmcdcogedcbndaaGreat.S Go.Proofs.YtmcdcogedcbndaaGreatW.PrintWords Go.Proofs.YtmcdcogedcbndaaGreatW.PrintLast
theorem look_l (sp : List Sp) (a : Int) (hs : SpB sp) (hl : sp.length ≤ 1000) : ∀ (d k i : Nat), sp.length - i = d → i ≤ sp.length → d < k → impl_lookAt.l0 k a sp (sp.length : Int) (i : Int) = some (atV a (sp.drop i))
 | 0, k, i, hd, hi, hk => by
  obtain ⟨k, rfl⟩ : ∃ m, k = m + 1 := ⟨k - 1, by omega⟩
  rw [impl_lookAt.l0, if_neg (by omega), List.drop_eq_nil_of_le (by omega)]
  rfl
 | d + 1, k, i, hd, hi, hk => by
  obtain ⟨k, rfl⟩ : ∃ m, k = m + 1 := ⟨k - 1, by omega⟩
  have hlt : i < sp.length := by omega
  have e : rd_T50 sp (i : Int) = sp[i] := by rw [rdSp]; simp [spAt, List.getD_eq_getElem?_getD, hlt]
  have hb := hs sp[i] (List.getElem_mem hlt)
  rw [impl_lookAt.l0, if_pos (by omega), if_pos (by omega), if_pos (by omega), e, w64 (by omega) (by omega), show ((i : Int) + 1) = ((i + 1 : Nat) : Int) by omega, look_l sp a hs hl d k (i + 1) (by omega) (by omega) (by omega), List.drop_eq_getElem_cons hlt, atV, w64 (x := sp[i].f1 - 1) (by omega) (by omega)]
  by_cases h0 : a ≥ sp[i].f0
  ·
   rw [if_pos h0]
   by_cases h1 : a < sp[i].f1
   · rw [if_pos h1, if_pos (by omega)]
   · rw [if_neg h1, if_neg (by omega)]
  · rw [if_neg h0, if_neg (by omega)]
theorem look_p {sp : List Sp} {a : Int} {k : Nat} (hs : SpB sp) (hl : sp.length ≤ 1000) (hk : sp.length < k) : impl_lookAt.f k sp a = some (atV a sp) := look_l sp a hs hl sp.length k 0 (by omega) (by omega) hk
def stsV (rs : List Int) : List Int := ((List.range rs.length).filter (fun i => !jAt rs i)).map Int.ofNat
theorem starts_l (rs : List Int) (hn : rs.length ≤ 1000) : ∀ (d k i : Nat), rs.length - i = d → i ≤ rs.length → d < k → impl_starts.l0 k (((List.range i).filter (fun i => !jAt rs i)).map Int.ofNat) (jsV rs) (rs.length : Int) (i : Int) = some (stsV rs)
 | 0, k, i, hd, hi, hk => by
  obtain ⟨k, rfl⟩ : ∃ m, k = m + 1 := ⟨k - 1, by omega⟩
  obtain rfl : i = rs.length := by omega
  rw [impl_starts.l0, if_neg (by omega)]
  rfl
 | d + 1, k, i, hd, hi, hk => by
  obtain ⟨k, rfl⟩ : ∃ m, k = m + 1 := ⟨k - 1, by omega⟩
  have ih := starts_l rs hn d k (i + 1) (by omega) (by omega) (by omega)
  have hf := List.length_filter_le (fun i => !jAt rs i) (List.range i)
  rw [List.length_range] at hf
  rw [List.range_succ, List.filter_append, List.map_append] at ih
  rw [impl_starts.l0, if_pos (by omega), if_pos (by omega), if_pos (by rw [jsV_len]; omega), rdOfB, jsV_get (by omega), w64 (by omega) (by omega), show ((i : Int) + 1) = ((i + 1 : Nat) : Int) by omega]
  cases hj : jAt rs i
  ·
   rw [if_neg (by decide), if_pos (by rw [List.length_map]; omega)]
   rw [List.filter_cons_of_pos (by rw [hj]; rfl)] at ih
   exact ih
  ·
   rw [if_pos rfl]
   rw [List.filter_cons_of_neg (by rw [hj]; decide), List.filter_nil, List.map_nil, List.append_nil] at ih
   exact ih
theorem starts_p {rs : List Int} {k : Nat} (hn : rs.length ≤ 1000) (hk : rs.length + 50 < k) : impl_starts.f k rs = some (stsV rs) := by
 unfold impl_starts.f
 rw [joined_p hn (by omega), Option.bind_some, jsV_len]
 exact starts_l rs hn rs.length k 0 (by omega) (by omega) (by omega)
def putS (rs : List Int) (sp : List Sp) : List Nat → List Int → List Int
 | [], o => o
 | i :: r, o => putS rs sp r (o.set i (clV rs i * (atV (i : Int) sp).1))
theorem putS_len (rs : List Int) (sp : List Sp) : ∀ (l : List Nat) (o : List Int), (putS rs sp l o).length = o.length
 | [], o => rfl
 | i :: r, o => by rw [putS, putS_len rs sp r, List.length_set]
theorem putS_get (rs : List Int) (sp : List Sp) : ∀ (l : List Nat) (o : List Int) (j : Nat), j < o.length → (putS rs sp l o).getD j 0 = if j ∈ l then clV rs j * (atV (j : Int) sp).1 else o.getD j 0
 | [], o, j, hj => by rw [putS, if_neg (by simp)]
 | i :: r, o, j, hj => by
  rw [putS, putS_get rs sp r _ j (by rw [List.length_set]; exact hj)]
  by_cases h : j ∈ r
  · rw [if_pos h, if_pos (List.mem_cons_of_mem _ h)]
  ·
   rw [if_neg h]
   by_cases e : j = i
   ·
    subst e
    rw [if_pos (by simp), List.getD_eq_getElem?_getD, List.getElem?_set_self hj, Option.getD_some]
   · rw [if_neg (by simp [e, h]), List.getD_eq_getElem?_getD, List.getElem?_set_ne (fun x => e x.symm), ← List.getD_eq_getElem?_getD]
theorem ext_getD {a b : List Int} (hl : a.length = b.length) (h : ∀ j, j < a.length → a.getD j 0 = b.getD j 0) : a = b := by
 refine List.ext_getElem hl fun j h1 h2 => ?_
 have := h j h1
 rwa [List.getD_eq_getElem?_getD, List.getElem?_eq_getElem h1, Option.getD_some, List.getD_eq_getElem?_getD, List.getElem?_eq_getElem h2, Option.getD_some] at this
theorem widesI_l (rs : List Int) (sp : List Sp) (hn : rs.length ≤ 80) (hs : SpB sp) (hsl : sp.length ≤ 100) (l : List Nat) (hl : ∀ i ∈ l, i < rs.length) (hl9 : l.length ≤ 100) : ∀ (d k i : Nat) (o : List Int), l.length - i = d → i ≤ l.length → o.length = rs.length → d + 500 < k → impl_widesOf.l0 k rs sp o (l.map Int.ofNat) (l.length : Int) (i : Int) = some (putS rs sp (l.drop i) o)
 | 0, k, i, o, hd, hi, ho, hk => by
  obtain ⟨k, rfl⟩ : ∃ m, k = m + 1 := ⟨k - 1, by omega⟩
  rw [impl_widesOf.l0, if_neg (by omega), List.drop_eq_nil_of_le (by omega), putS]
 | d + 1, k, i, o, hd, hi, ho, hk => by
  obtain ⟨k, rfl⟩ : ∃ m, k = m + 1 := ⟨k - 1, by omega⟩
  have hlt : i < l.length := by omega
  have hm := hl l[i] (List.getElem_mem hlt)
  have e : rd (l.map Int.ofNat) (i : Int) = ((l[i] : Nat) : Int) := by simp [rd, List.getD_eq_getElem?_getD, hlt]
  have h1 := clV_le rs l[i]
  have h2 := atV_le hs ((l[i] : Nat) : Int)
  have h3 := Int.mul_nonneg h1.1 (show 0 ≤ (atV ((l[i] : Nat) : Int) sp).1 by omega)
  have h4 := Int.mul_le_mul h1.2 h2.2 (by omega) (by omega : (0:Int) ≤ 40)
  rw [impl_widesOf.l0, if_pos (by omega), if_pos (by omega), if_pos (by rw [List.length_map]; omega), e, clusterI_p (by omega) hm (by omega), Option.bind_some, look_p hs (by omega) (by omega), Option.bind_some, if_pos (by omega), if_pos (by omega), Int.toNat_natCast, w64 (x := clV rs l[i] * _) (by omega) (by omega), w64 (by omega) (by omega), show ((i : Int) + 1) = ((i + 1 : Nat) : Int) by omega, List.drop_eq_getElem_cons hlt, putS]
  exact widesI_l rs sp hn hs hsl l hl hl9 d k (i + 1) _ (by omega) (by omega) (by rw [List.length_set]; exact ho) (by omega)
theorem widesI_p {rs : List Int} {sp : List Sp} {k : Nat} (hn : rs.length ≤ 80) (hs : SpB sp) (hsl : sp.length ≤ 100) (hk : 1000 ≤ k) : impl_widesOf.f k rs sp = some (wsV rs sp) := by
 have hf := List.length_filter_le (fun i => !jAt rs i) (List.range rs.length)
 rw [List.length_range] at hf
 have h := widesI_l rs sp hn hs hsl ((List.range rs.length).filter (fun i => !jAt rs i)) (fun i hi => by simpa using (List.mem_filter.mp hi).1) (by omega) _ k 0 (List.replicate rs.length 0) rfl (by omega) (by simp) (by omega)
 unfold impl_widesOf.f
 rw [if_pos (by omega), if_pos (by omega), starts_p (by omega) (by omega), Option.bind_some, Int.toNat_natCast]
 have e : (stsV rs).length = ((List.range rs.length).filter (fun i => !jAt rs i)).length := by simp [stsV]
 rw [e]
 unfold stsV
 rw [show ((0 : Nat) : Int) = 0 from rfl] at h
 rw [h, List.drop_zero]
 congr 1
 refine ext_getD (by rw [putS_len, wsV_len]; simp) fun j hj => ?_
 rw [putS_len, List.length_replicate] at hj
 rw [putS_get _ _ _ _ _ (by simpa using hj), wsV_get hj, wdV]
 cases hja : jAt rs j
 · rw [if_pos (List.mem_filter.mpr ⟨by simpa using hj, by rw [hja]; rfl⟩), if_neg (by decide)]
 ·
  rw [if_neg (fun h => by have := (List.mem_filter.mp h).2; rw [hja] at this; cases this), if_pos rfl]
  simp [List.getD_eq_getElem?_getD, hj]
def emptB (a : Int) : Bool := decide (a = 32 ∨ a = 10 ∨ wideV a = 0)
def bodV (rs : List Int) (fr : Nat) : Nat → Nat
 | 0 => 0
 | t + 1 => if fr < t + 1 then (if emptB (rs.getD t 0) = true then bodV rs fr t else t + 1) else t + 1
theorem bodV_le (rs : List Int) (fr : Nat) : ∀ t, fr ≤ t → fr ≤ bodV rs fr t ∧ bodV rs fr t ≤ t
 | 0, h => ⟨h, Nat.le_refl _⟩
 | t + 1, h => by
  rw [bodV]
  split
  ·
   split
   ·
    have := bodV_le rs fr t (by omega)
    omega
   · omega
  · omega
theorem body_i (rs : List Int) (fr : Nat) (hn : rs.length ≤ 1000) : ∀ (t k : Nat), t ≤ rs.length → fr ≤ t → t + 50 < k → impl_body.l0 k rs (fr : Int) (t : Int) = some ((bodV rs fr t : Nat) : Int)
 | 0, k, ht, hf, hk => by
  obtain ⟨k, rfl⟩ : ∃ m, k = m + 1 := ⟨k - 1, by omega⟩
  rw [impl_body.l0, if_neg (by omega), bodV]
 | t + 1, k, ht, hf, hk => by
  obtain ⟨k, rfl⟩ : ∃ m, k = m + 1 := ⟨k - 1, by omega⟩
  have w1 : wrap64 (((t + 1 : Nat) : Int) - 1) = (t : Int) := by rw [w64 (by omega) (by omega)]; omega
  rw [impl_body.l0, bodV]
  by_cases h : fr < t + 1
  ·
   have ih := body_i rs fr hn t k (by omega) (by omega) (by omega)
   rw [if_pos (by omega), if_pos h, w1, if_pos (by omega), if_pos (by omega), rd_nat]
   unfold emptB
   by_cases h1 : rs.getD t 0 = 32
   · rw [if_pos h1, decide_eq_true (.inl h1), if_pos rfl, ih]
   rw [if_neg h1]
   by_cases h2 : rs.getD t 0 = 10
   · rw [if_pos h2, decide_eq_true (.inr (.inl h2)), if_pos rfl, ih]
   rw [if_neg h2, wide_i (by omega), Option.bind_some]
   by_cases h3 : wideV (rs.getD t 0) = 0
   · rw [if_pos h3, decide_eq_true (.inr (.inr h3)), if_pos rfl, ih]
   · rw [if_neg h3, decide_eq_false (by rintro (h | h | h); exact h1 h; exact h2 h; exact h3 h), if_neg (by decide)]
  · rw [if_neg (by omega), if_neg h]
theorem empt_s {k : Nat} (hk : 30 ≤ k) (a : Int) : spec_l7Empty.f k a = some (emptB a) := by
 unfold spec_l7Empty.f emptB
 by_cases h1 : a = 32
 · rw [if_pos h1, decide_eq_true (.inl h1)]
 rw [if_neg h1]
 by_cases h2 : a = 10
 · rw [if_pos h2, decide_eq_true (.inr (.inl h2))]
 rw [if_neg h2, wide_s hk, Option.bind_some]
 by_cases h3 : wideV a = 0
 · rw [decide_eq_true (.inr (.inr h3)), beq_iff_eq.mpr h3]
 · rw [decide_eq_false (by rintro (h | h | h); exact h1 h; exact h2 h; exact h3 h), beq_eq_false_iff_ne.mpr h3]
theorem sum_s (ws : List Int) (hn : ws.length ≤ 1000) (b : Nat) (hb : b ≤ ws.length) : ∀ (d k i : Nat) (s : Int), b - i = d → i ≤ b → d < k → spec_l7Wide.l1 k ws (b : Int) s (i : Int) = some (sumW ((ws.take b).drop i) s)
 | 0, k, i, s, hd, hi, hk => by
  obtain ⟨k, rfl⟩ : ∃ m, k = m + 1 := ⟨k - 1, by omega⟩
  rw [spec_l7Wide.l1, if_neg (by omega), List.drop_eq_nil_of_le (by simp; omega), sumW]
 | d + 1, k, i, s, hd, hi, hk => by
  obtain ⟨k, rfl⟩ : ∃ m, k = m + 1 := ⟨k - 1, by omega⟩
  have hlt : i < (ws.take b).length := by simp; omega
  have e : (ws.take b)[i] = ws.getD i 0 := by
   rw [List.getElem_take, List.getD_eq_getElem?_getD, List.getElem?_eq_getElem (by omega), Option.getD_some]
  rw [spec_l7Wide.l1, if_pos (by omega), if_pos (by omega), if_pos (by omega), List.drop_eq_getElem_cons hlt, sumW, e, rd_nat, w64 (x := (i : Int) + 1) (by omega) (by omega), show ((i : Int) + 1) = ((i + 1 : Nat) : Int) by omega]
  exact sum_s ws hn b hb d k (i + 1) _ (by omega) (by omega) (by omega)
def lwV (rs ws : List Int) (fr to_ : Nat) : Int := sumW ((ws.take (bodV rs fr to_)).drop fr) 0
theorem lineI_p {rs ws : List Int} {fr to_ k : Nat} (hn : rs.length ≤ 1000) (hw : ws.length = rs.length) (h1 : fr ≤ to_) (h2 : to_ ≤ rs.length) (hk : rs.length + 50 < k) : impl_lineWide.f k rs ws (fr : Int) (to_ : Int) = some (lwV rs ws fr to_) := by
 have hb := bodV_le rs fr to_ h1
 unfold impl_lineWide.f impl_body.f lwV
 rw [body_i rs fr hn to_ k h2 h1 (by omega), Option.bind_some, if_pos ⟨by omega, by omega, by omega⟩, Int.toNat_natCast, Int.toNat_natCast]
theorem lineS_l (rs ws : List Int) (fr : Nat) (hn : rs.length ≤ 1000) (hw : ws.length = rs.length) : ∀ (t k : Nat), t ≤ rs.length → fr ≤ t → t + rs.length + 50 < k → spec_l7Wide.l0 k rs ws (fr : Int) (t : Int) = some (sumW ((ws.take (bodV rs fr t)).drop fr) 0)
 | 0, k, ht, hf, hk => by
  obtain ⟨k, rfl⟩ : ∃ m, k = m + 2 := ⟨k - 2, by omega⟩
  rw [spec_l7Wide.l0, if_neg (by omega), bodV, spec_l7Wide.j1, sum_s ws (by omega) 0 (by omega) 0 k fr 0 (by omega) (by omega) (by omega)]
 | t + 1, k, ht, hf, hk => by
  obtain ⟨k, rfl⟩ : ∃ m, k = m + 2 := ⟨k - 2, by omega⟩
  have w1 : wrap64 (((t + 1 : Nat) : Int) - 1) = (t : Int) := by rw [w64 (by omega) (by omega)]; omega
  have hend : spec_l7Wide.j1 (k + 1) ws (fr : Int) ((t + 1 : Nat) : Int) = some (sumW ((ws.take (t + 1)).drop fr) 0) := by
   rw [spec_l7Wide.j1]
   exact sum_s ws (by omega) (t + 1) (by omega) _ k fr 0 rfl (by omega) (by omega)
  rw [spec_l7Wide.l0, bodV]
  by_cases h : fr < t + 1
  ·
   rw [if_pos (by omega), if_pos h, w1, if_pos (by omega), if_pos (by omega), rd_nat, empt_s (by omega), Option.bind_some]
   by_cases he : emptB (rs.getD t 0) = true
   ·
    rw [if_pos he, if_pos he]
    exact lineS_l rs ws fr hn hw t (k + 1) (by omega) (by omega) (by omega)
   ·
    rw [if_neg he, if_neg he]
    exact hend
  ·
   rw [if_neg (by omega), if_neg h]
   exact hend
theorem lineS_p {rs ws : List Int} {fr to_ k : Nat} (hn : rs.length ≤ 1000) (hw : ws.length = rs.length) (h1 : fr ≤ to_) (h2 : to_ ≤ rs.length) (hk : 2 * rs.length + 50 < k) : spec_l7Wide.f k rs ws (fr : Int) (to_ : Int) = some (lwV rs ws fr to_) := lineS_l rs ws fr hn hw to_ k h2 h1 (by omega)
end Go.Proofs.YtmcdcogedcbndaaGreat.Pure
/- What the laws' own helpers answer: a copy, equality, a row written with 1, 2, 3 .., and whether it still holds that. -/
namespace Go.Proofs.YtmcdcogedcbndaaGreat.Pure
open Go.RowKit Go.Proofs.YtmcdcogedcbndaaGreat.S Go.Proofs.YtmcdcogedcbndaaGreatW.PrintWords Go.Proofs.YtmcdcogedcbndaaGreatW.PrintLast
def iota (a : Int) : Nat → List Int
 | 0 => []
 | n + 1 => a :: iota (a + 1) n
theorem iota_length : ∀ (n : Nat) (a : Int), (iota a n).length = n
 | 0, _ => rfl
 | n + 1, a => by simp [iota, iota_length n]
theorem mark_l : ∀ (d k i : Nat) (l : List Int) (a : Int), l.length ≤ 1099511627776 → -1099511627776 ≤ a → a ≤ 1099511627776 * 4 → a + d ≤ 1099511627776 * 4 → l.length - i = d → i ≤ l.length → d < k →
  laws_markIntS.l0 k l a (i : Int) = some (a + d, l.take i ++ iota a d)
 | 0, k, i, l, a, hn, h0, h1, h2, hd, hi, hk => by
  obtain ⟨k, rfl⟩ : ∃ m, k = m + 1 := ⟨k - 1, by omega⟩
  have e : i = l.length := by omega
  subst e
  rw [laws_markIntS.l0, if_neg (by omega)]
  simp [iota]
 | d + 1, k, i, l, a, hn, h0, h1, h2, hd, hi, hk => by
  obtain ⟨k, rfl⟩ : ∃ m, k = m + 1 := ⟨k - 1, by omega⟩
  have hlt : i < l.length := by omega
  rw [laws_markIntS.l0, if_pos (by omega), if_pos (by omega), w64 (x := (i : Int) + 1) (by omega) (by omega), w64 (by omega) (by omega), Int.toNat_natCast]
  have := mark_l d k (i + 1) (l.set i a) (a + 1) (by simpa using hn) (by omega) (by omega) (by omega) (by simp; omega) (by simp; omega) (by omega)
  rw [show ((i : Int) + 1) = ((i + 1 : Nat) : Int) by omega, this]
  simp only [Option.some.injEq, Prod.mk.injEq, iota]
  refine ⟨by omega, ?_⟩
  rw [List.take_succ_eq_append_getElem (by simpa using hlt)]
  simp [List.take_set_of_le]
theorem mark_p {l : List Int} {a : Int} {k : Nat} (hn : l.length ≤ 1099511627776) (h0 : -1099511627776 ≤ a) (h1 : a ≤ 1099511627776) (hk : l.length < k) : laws_markIntS.f k l a = some (a + l.length, iota a l.length) := by
 unfold laws_markIntS.f
 simpa using mark_l l.length k 0 l a hn h0 (by omega) (by omega) (by omega) (by omega) hk
theorem held_l : ∀ (d k i : Nat) (l : List Int) (a : Int), l.length ≤ 1099511627776 → -1099511627776 ≤ a → a + d ≤ 1099511627776 * 4 → l.length - i = d → i ≤ l.length → d < k → l.drop i = iota a d →
  laws_heldIntS.l0 k l a (i : Int) = some (a + d)
 | 0, k, i, l, a, hn, h0, h2, hd, hi, hk, he => by
  obtain ⟨k, rfl⟩ : ∃ m, k = m + 1 := ⟨k - 1, by omega⟩
  rw [laws_heldIntS.l0, if_neg (by omega)]
  simp
 | d + 1, k, i, l, a, hn, h0, h2, hd, hi, hk, he => by
  obtain ⟨k, rfl⟩ : ∃ m, k = m + 1 := ⟨k - 1, by omega⟩
  have hlt : i < l.length := by omega
  rw [List.drop_eq_getElem_cons hlt, iota] at he
  obtain ⟨e1, e2⟩ := List.cons.inj he
  rw [laws_heldIntS.l0, if_pos (by omega), if_pos (by omega), rd_get hlt, if_pos e1, w64 (x := (i : Int) + 1) (by omega) (by omega), w64 (by omega) (by omega)]
  have := held_l d k (i + 1) l (a + 1) hn (by omega) (by omega) (by omega) (by omega) (by omega) e2
  rw [show ((i : Int) + 1) = ((i + 1 : Nat) : Int) by omega, this]
  congr 1; omega
theorem held_p {n : Nat} {a : Int} {k : Nat} (hn : n ≤ 1099511627776) (h0 : -1099511627776 ≤ a) (h1 : a ≤ 1099511627776) (hk : n < k) : laws_heldIntS.f k (iota a n) a = some (a + n) := by
 unfold laws_heldIntS.f
 have hl := iota_length n a
 simpa using held_l n k 0 (iota a n) a (by omega) h0 (by omega) (by omega) (by omega) hk rfl
end Go.Proofs.YtmcdcogedcbndaaGreat.Pure
/- Letters that are ok, by both texts. -/
namespace Go.Proofs.YtmcdcogedcbndaaGreat.Pure
open Go.RowKit Go.Proofs.YtmcdcogedcbndaaGreat.S Go.Proofs.YtmcdcogedcbndaaGreatW.PrintWords Go.Proofs.YtmcdcogedcbndaaGreatW.PrintLast
theorem l1In_p (a b c : Int) : spec_l1In.f a b c = some (decide (b ≤ a) && decide (a ≤ c)) := by
 unfold spec_l1In.f
 by_cases h : b ≤ a <;> simp [h]
def sizeV (a : Int) : Int := if 0 ≤ a ∧ a ≤ 127 then 1 else if 128 ≤ a ∧ a ≤ 2047 then 2 else if 55296 ≤ a ∧ a ≤ 57343 then 0 else if 2048 ≤ a ∧ a ≤ 65535 then 3 else if 65536 ≤ a ∧ a ≤ 1114111 then 4 else 0
theorem size_f (a : Int) : spec_l1Size.f a = some (sizeV a) := by
 simp only [spec_l1Size.f, l1In_p, Option.bind_some, sizeV]
 grind
theorem size_let (a : Int) : sizeV a = 0 ↔ isLetV a = false := by
 simp only [isLetV, sizeV]
 grind
theorem size_p (a : Int) : ∃ s, spec_l1Size.f a = some s ∧ (s = 0 ↔ isLetV a = false) := ⟨_, size_f a, size_let a⟩
theorem ok_l (l : List Int) (hn : l.length ≤ 1099511627776) : ∀ (d k i : Nat), l.length - i = d → i ≤ l.length → d < k →
  spec_l1Ok.l0 k l (i : Int) = some ((l.drop i).all isLetV && decide (l.length ≤ 80))
 | 0, k, i, hd, hi, hk => by
  obtain ⟨k, rfl⟩ : ∃ m, k = m + 1 := ⟨k - 1, by omega⟩
  have e : i = l.length := by omega
  subst e
  rw [spec_l1Ok.l0, if_neg (by omega), List.drop_length]
  simp only [List.all_nil, Bool.true_and, Option.some.injEq, decide_eq_decide]
  omega
 | d + 1, k, i, hd, hi, hk => by
  obtain ⟨k, rfl⟩ : ∃ m, k = m + 1 := ⟨k - 1, by omega⟩
  have hlt : i < l.length := by omega
  obtain ⟨s, hs, hz⟩ := size_p l[i]
  rw [spec_l1Ok.l0, if_pos (by omega), if_pos (by omega), w64 (by omega) (by omega), rd_get hlt, hs, Option.bind_some, List.drop_eq_getElem_cons hlt, List.all_cons]
  have := ok_l l hn d k (i + 1) (by omega) (by omega) (by omega)
  rw [show ((i : Int) + 1) = ((i + 1 : Nat) : Int) by omega, this]
  by_cases h : s = 0
  · rw [if_pos h, hz.1 h]; simp
  ·
   have : isLetV l[i] = true := by
    cases e : isLetV l[i]
    · exact absurd (hz.2 e) h
    · rfl
   rw [if_neg h, this, Bool.true_and]
theorem ok_p {l : List Int} {k : Nat} (hn : l.length ≤ 1099511627776) (hk : l.length < k) : spec_l1Ok.f k l = some (okV l) := by
 unfold spec_l1Ok.f
 have := ok_l l hn l.length k 0 (by omega) (by omega) hk
 rw [show ((0 : Nat) : Int) = 0 from rfl] at this
 rw [this, List.drop_zero, okV, Bool.and_comm]
theorem ok_len {l : List Int} (h : okV l = true) : l.length ≤ 80 := by
 simp [okV] at h; exact h.1
end Go.Proofs.YtmcdcogedcbndaaGreat.Pure
/- What both texts ask ahead of filling; where a line must end. -/
namespace Go.Proofs.YtmcdcogedcbndaaGreat.Pure
open Go.RowKit Go.Proofs.YtmcdcogedcbndaaGreat.S Go.Proofs.YtmcdcogedcbndaaGreatW.PrintWords Go.Proofs.YtmcdcogedcbndaaGreatW.PrintLast
theorem idx_l (bs : List Int) (fr n : Nat) (hb : bs.length ≤ 1000) : ∀ (d k i : Nat), bs.length - fr - i = d → fr + i ≤ bs.length → d < k → (∃ p, fr + i ≤ p ∧ p < bs.length ∧ bs.getD p 0 = 2) →
  ∃ x : Nat, slices_Index_int_int.l0 k (bs.drop fr) 2 ((bs.drop fr).length : Int) (i : Int) = some (x : Int) ∧ x < bs.length ∧ mustN bs n (bs.length - (fr + i)) (fr + i) = fr + x + 1
 | 0, k, i, hd, hi, hk, hp => by
  obtain ⟨p, h1, h2, _⟩ := hp
  omega
 | d + 1, k, i, hd, hi, hk, hp => by
  obtain ⟨k, rfl⟩ : ∃ m, k = m + 1 := ⟨k - 1, by omega⟩
  have hlt : fr + i < bs.length := by omega
  have e : rd (bs.drop fr) (i : Int) = bs.getD (fr + i) 0 := by rw [rd_nat]; simp [List.getD_eq_getElem?_getD]
  have hl : (bs.drop fr).length = bs.length - fr := by simp
  rw [slices_Index_int_int.l0, if_pos (by omega), if_pos (by omega), if_pos (by omega), e, show bs.length - (fr + i) = (bs.length - (fr + (i + 1))) + 1 by omega, mustN]
  by_cases h : bs.getD (fr + i) 0 = 2
  ·
   rw [if_pos h.symm, if_pos h]
   exact ⟨i, rfl, by omega, rfl⟩
  ·
   rw [if_neg (fun x => h x.symm), if_neg h, w64 (by omega) (by omega), show ((i : Int) + 1) = ((i + 1 : Nat) : Int) by omega]
   obtain ⟨p, h1, h2, h3⟩ := hp
   exact idx_l bs fr n hb d k (i + 1) (by omega) (by omega) (by omega) ⟨p, by (by_cases q : p = fr + i; (subst q; exact absurd h3 h); omega), h2, h3⟩
theorem idx_p {bs : List Int} {fr n k : Nat} (hb : bs.length ≤ 1000) (hk : bs.length < k) (hp : ∃ p, fr ≤ p ∧ p < bs.length ∧ bs.getD p 0 = 2) : ∃ x : Nat, slices_Index_int_int.f k (bs.drop fr) 2 = some (x : Int) ∧ x < bs.length ∧ mustV bs n fr = fr + x + 1 := by
 obtain ⟨p, h1, h2, h3⟩ := hp
 exact idx_l bs fr n hb _ k 0 rfl (by omega) (by omega) ⟨p, by omega, h2, h3⟩
theorem bs_last {rs : List Int} (h : 0 < rs.length) : (bsV rs).getD (rs.length - 1) 0 = 2 := by
 rw [bsV_get (by omega), brV, if_pos (by omega)]
def fillV (rs : List Int) (sp : List Sp) (wide : Int) : Bool := okV rs && (spansV sp (rs.length : Int) && decide (0 ≤ wide ∧ wide ≤ 20000))
theorem allS_p {rs : List Int} {sp : List Sp} {wide : Int} {k : Nat} (hn : rs.length ≤ 1099511627776) (hs : sp.length ≤ 1099511627776) (hk : rs.length < k) (hk2 : sp.length < k) : spec_l7All.f k rs sp wide = some (fillV rs sp wide) := by
 unfold spec_l7All.f fillV
 rw [ok_p hn hk, Option.bind_some]
 cases ho : okV rs
 · rw [if_neg (by decide), Bool.false_and]
 ·
  have := ok_len ho
  rw [if_pos rfl, spansS_p hs (by omega) (by omega) hk2, Option.bind_some, Bool.true_and]
  cases spansV sp (rs.length : Int)
  · rw [if_neg (by decide), Bool.false_and]
  · rw [if_pos rfl, l1In_f, Option.bind_some, Bool.true_and]
theorem allI_p {rs : List Int} {sp : List Sp} {wide : Int} {k : Nat} (hs : sp.length ≤ 1099511627776) (hk2 : sp.length < k) : impl_fillable.f k rs sp wide = some (fillV rs sp wide) := by
 unfold impl_fillable.f fillV
 rw [show impl_lettersOk.f rs = some (okV rs) from rfl, Option.bind_some]
 cases ho : okV rs
 · rw [if_neg (by decide), Bool.false_and]
 ·
  rw [if_pos rfl, spansI_p hs hk2, Option.bind_some, Bool.true_and]
  cases spansV sp (rs.length : Int)
  · rw [if_neg (by decide), Bool.false_and]
  ·
   rw [if_pos rfl, Bool.true_and]
   unfold impl_isWide.f
   by_cases h0 : wide ≥ 0
   ·
    rw [if_pos h0, Option.bind_some]
    congr 1
    rw [decide_eq_decide]
    omega
   · rw [if_neg h0, Option.bind_some, decide_eq_false (by omega)]
theorem fill_ok {rs : List Int} {sp : List Sp} {wide : Int} (h : fillV rs sp wide = true) : rs.length ≤ 80 ∧ SpB sp ∧ sp.length ≤ 12 ∧ okV rs = true := by
 unfold fillV at h
 rw [Bool.and_eq_true, Bool.and_eq_true] at h
 refine ⟨ok_len h.1, spB_of h.2.1, ?_, h.1⟩
 have := h.2.1
 unfold spansV at this
 rw [Bool.and_eq_true, Bool.and_eq_true, decide_eq_true_eq] at this
 exact this.2.1
end Go.Proofs.YtmcdcogedcbndaaGreat.Pure
/- The best lines by both texts: one table for the other. -/
namespace Go.Proofs.YtmcdcogedcbndaaGreat.Pure
open Go.RowKit Go.Proofs.YtmcdcogedcbndaaGreat.S Go.Proofs.YtmcdcogedcbndaaGreatW.PrintWords Go.Proofs.YtmcdcogedcbndaaGreatW.PrintLast
def RB (n a : Nat) (b p : Int × Int) : Prop := p.1 = b.1 ∧ p.2 = (if b.2 < 0 then 0 else b.2) ∧ b.2 ≠ 0 ∧ 0 ≤ b.1 ∧ b.1 ≤ ((n - a : Nat) : Int) * 100000000000 ∧ (b.2 < 0 ∨ ((a : Int) < b.2 ∧ b.2 ≤ (n : Int)))
def HEq (n : Nat) (T P : Nat → Int × Int) (e : Nat) : Prop := (P e).1 = (T e).1 ∧ ((P e).2 = 0 ↔ (e < n ∧ (T e).2 < 0)) ∧ 0 ≤ (T e).1 ∧ (T e).1 ≤ ((n - e : Nat) : Int) * 100000000000
theorem step_rel (bs : List Int) (F : Nat → Nat → Bool) (C : Nat → Nat → Int) (n : Nat) (T P : Nat → Int × Int) (a e : Nat) (cur cup : Int × Int) (hae : a < e) (hen : e ≤ n) (hC : 0 ≤ C a e ∧ C a e ≤ 100000000000) (h : HEq n T P e) (hr : RB n a cur cup) : RB n a (stepB bs F C n T a e cur) (stepP bs F C P a e cup) := by
 obtain ⟨h1, h2, h3, h4⟩ := h
 unfold stepB stepP
 by_cases hs : bs.getD (e - 1) 0 = 0 ∨ F a e = false ∨ (e < n ∧ (T e).2 < 0)
 ·
  have hs2 : bs.getD (e - 1) 0 = 0 ∨ F a e = false ∨ (P e).2 = 0 := hs.imp_right (Or.imp_right h2.mpr)
  rw [if_pos hs, if_pos hs2]
  exact hr
 ·
  have hs2 : ¬ (bs.getD (e - 1) 0 = 0 ∨ F a e = false ∨ (P e).2 = 0) := fun h => hs (h.imp_right (Or.imp_right h2.mp))
  rw [if_neg hs, if_neg hs2]
  obtain ⟨r1, r2, r3, r4, r5, r6⟩ := hr
  have hz : cup.2 = 0 ↔ cur.2 < 0 := by
   rw [r2]
   split <;> omega
  by_cases hc : cur.2 < 0 ∨ C a e + (T e).1 < cur.1
  ·
   have hc2 : cup.2 = 0 ∨ (P e).1 + C a e < cup.1 := hc.imp hz.mpr (fun h => by rw [h1, r1]; omega)
   rw [if_pos hc, if_pos hc2]
   have e1 : ¬ (e : Int) < 0 := by omega
   refine ⟨by show (P e).1 + C a e = C a e + (T e).1; omega, by show (e : Int) = if (e : Int) < 0 then 0 else (e : Int); rw [if_neg e1], by show (e : Int) ≠ 0; omega, by show 0 ≤ C a e + (T e).1; omega, by show C a e + (T e).1 ≤ _; omega, .inr ⟨by show (a : Int) < (e : Int); omega, by show (e : Int) ≤ (n : Int); omega⟩⟩
  ·
   have hc2 : ¬ (cup.2 = 0 ∨ (P e).1 + C a e < cup.1) := fun h => hc (h.imp hz.mp (fun h => by rw [h1, r1] at h; omega))
   rw [if_neg hc, if_neg hc2]
   exact ⟨r1, r2, r3, r4, r5, r6⟩
theorem row_rel (bs : List Int) (F : Nat → Nat → Bool) (C : Nat → Nat → Int) (n : Nat) (T P : Nat → Int × Int) (a : Nat) (hC : ∀ e, a < e → e ≤ n → 0 ≤ C a e ∧ C a e ≤ 100000000000) : ∀ (g e : Nat) (cur cup : Int × Int), a < e → e + g ≤ n + 1 → (∀ j, e ≤ j → j < e + g → HEq n T P j) → RB n a cur cup → RB n a (rowB bs F C n T a g e cur) (rowP bs F C P a g e cup)
 | 0, _, _, _, _, _, _, hr => hr
 | g + 1, e, cur, cup, hae, hen, h, hr => by
  rw [rowB, rowP]
  exact row_rel bs F C n T P a hC g (e + 1) _ _ (by omega) (by omega) (fun j h1 h2 => h j (by omega) (by omega)) (step_rel bs F C n T P a e cur cup hae (by omega) (hC e hae (by omega)) (h e (Nat.le_refl _) (by omega)) hr)
theorem tabB_hi (bs : List Int) (F : Nat → Nat → Bool) (C : Nat → Nat → Int) (n : Nat) : ∀ d, d ≤ n → tabB bs F C n d n = (0, 0)
 | 0, _ => rfl
 | d + 1, h => by
  rw [tabB, updV_ne _ _ (by omega)]
  exact tabB_hi bs F C n d (by omega)
theorem tabP_hi (bs : List Int) (F : Nat → Nat → Bool) (C : Nat → Nat → Int) (M : Nat → Nat) (n : Nat) : ∀ d, d ≤ n → tabP bs F C M n d n = (0, (n : Int))
 | 0, _ => rfl
 | d + 1, h => by
  rw [tabP, updV_ne _ _ (by omega)]
  exact tabP_hi bs F C M n d (by omega)
theorem tab_rel (bs : List Int) (F : Nat → Nat → Bool) (C : Nat → Nat → Int) (M : Nat → Nat) (n : Nat) (hM : ∀ i, i < n → M i = mustV bs n i ∧ i < M i ∧ M i ≤ n) (hC : ∀ a e, a < e → e ≤ n → 0 ≤ C a e ∧ C a e ≤ 100000000000) : ∀ d, d ≤ n → ∀ j, n - d ≤ j → j < n → RB n j (tabB bs F C n d j) (tabP bs F C M n d j)
 | 0, _, j, h1, h2 => by omega
 | d + 1, h, j, h1, h2 => by
  have ih := tab_rel bs F C M n hM hC d (by omega)
  rw [tabB, tabP]
  by_cases hj : j = n - 1 - d
  ·
   rw [hj, updV_at, updV_at]
   obtain ⟨a, ha⟩ : ∃ a, n - 1 - d = a := ⟨_, rfl⟩
   rw [ha]
   obtain ⟨m1, m2, m3⟩ := hM a (by omega)
   rw [← m1]
   refine row_rel bs F C n _ _ a (fun e h1 h2 => hC a e h1 h2) (M a - a) (a + 1) _ _ (by omega) (by omega) (fun i hi1 hi2 => ?_) ⟨rfl, rfl, by decide, Int.le_refl _, by show (0 : Int) ≤ _; omega, .inl (by decide)⟩
   by_cases hin : i < n
   ·
    obtain ⟨r1, r2, r3, r4, r5, r6⟩ := ih i (by omega) hin
    refine ⟨r1, ?_, r4, r5⟩
    rw [r2]
    constructor
    ·
     intro q
     refine ⟨hin, ?_⟩
     split at q
     · assumption
     · exact absurd q r3
    ·
     intro q
     rw [if_pos q.2]
   ·
    obtain rfl : i = n := by omega
    rw [HEq, tabB_hi bs F C i d (by omega), tabP_hi bs F C M i d (by omega)]
    refine ⟨rfl, ⟨fun q => ?_, fun q => ?_⟩, Int.le_refl _, by show (0 : Int) ≤ _; omega⟩
    ·
     have q2 : (i : Int) = 0 := q
     omega
    · omega
  ·
   rw [updV_ne _ _ hj, updV_ne _ _ hj]
   exact ih j (by omega) h2
theorem out_rel (n : Nat) (T P : Nat → Int × Int) (h : ∀ j, j < n → RB n j (T j) (P j)) : ∀ (g a : Nat), n - a ≤ g → outP P n g a = outB T n g a ∧ (outB T n g a).isSome = true
 | 0, a, hg => by
  rw [outP, outB, if_neg (show ¬ a < n by omega)]
  exact ⟨rfl, rfl⟩
 | g + 1, a, hg => by
  rw [outP, outB]
  by_cases hlt : a < n
  ·
   rw [if_pos hlt, if_pos hlt]
   obtain ⟨r1, r2, r3, r4, r5, r6⟩ := h a hlt
   by_cases hb : (T a).2 < 0
   ·
    rw [if_pos hb] at r2
    rw [if_pos r2, if_pos hb]
    exact ⟨rfl, rfl⟩
   ·
    rw [if_neg hb] at r2
    have r7 := r6.resolve_left hb
    have hc : 0 ≤ (T a).2 ∧ (T a).2 ≤ (n : Int) := ⟨by omega, r7.2⟩
    rw [r2, if_neg r3, if_neg hb, if_pos hc, if_pos r7.2]
    obtain ⟨i1, i2⟩ := out_rel n T P h g (T a).2.toNat (by omega)
    rw [i1]
    obtain ⟨x, hx⟩ := Option.isSome_iff_exists.mp i2
    rw [hx]
    exact ⟨rfl, rfl⟩
  ·
   rw [if_neg hlt, if_neg hlt]
   exact ⟨rfl, rfl⟩
theorem greedy_rel (n : Nat) (N N' : Nat → Int) (h : ∀ j, j < n → N j = N' j ∧ (j : Int) < N' j ∧ N' j ≤ (n : Int)) : ∀ (g a : Nat), n - a ≤ g → greedyN N n g a = greedyN N' n g a ∧ (greedyN N' n g a).isSome = true
 | 0, a, hg => by
  rw [greedyN, greedyN, if_neg (show ¬ a < n by omega)]
  exact ⟨rfl, rfl⟩
 | g + 1, a, hg => by
  rw [greedyN, greedyN]
  by_cases hlt : a < n
  ·
   obtain ⟨h1, h2, h3⟩ := h a hlt
   have hc : 0 ≤ N' a ∧ N' a ≤ (n : Int) := ⟨by omega, h3⟩
   rw [if_pos hlt, if_pos hlt, h1, if_pos hc, if_pos hc]
   obtain ⟨i1, i2⟩ := greedy_rel n N N' h g (N' a).toNat (by omega)
   rw [i1]
   obtain ⟨x, hx⟩ := Option.isSome_iff_exists.mp i2
   rw [hx]
   exact ⟨rfl, rfl⟩
  ·
   rw [if_neg hlt, if_neg hlt]
   exact ⟨rfl, rfl⟩
theorem greedyN_len (N : Nat → Int) (n : Nat) : ∀ (g a : Nat) (l : List Int), greedyN N n g a = some l → l.length ≤ g
 | 0, a, l, h => by
  rw [greedyN] at h
  split at h
  · cases h
  · cases h; exact Nat.le_refl _
 | g + 1, a, l, h => by
  rw [greedyN] at h
  split at h
  ·
   split at h
   ·
    obtain ⟨l2, h2, h3⟩ := Option.bind_eq_some_iff.mp h
    cases h3
    have := greedyN_len N n g _ _ h2
    rw [List.length_cons]
    omega
   · cases h
  · cases h; exact Nat.zero_le _
theorem outB_len (T : Nat → Int × Int) (n : Nat) : ∀ (g a : Nat) (l : List Int), outB T n g a = some (some l) → l.length ≤ g
 | 0, a, l, h => by
  rw [outB] at h
  split at h
  · cases h
  · cases h; exact Nat.le_refl _
 | g + 1, a, l, h => by
  rw [outB] at h
  split at h
  ·
   split at h
   · cases h
   ·
    split at h
    ·
     obtain ⟨o, h2, h3⟩ := Option.bind_eq_some_iff.mp h
     cases o with
     | none => cases h3
     | some l2 =>
      cases h3
      have := outB_len T n g _ _ h2
      rw [List.length_cons]
      omega
    · cases h
  · cases h; exact Nat.zero_le _
theorem sumW_eq : ∀ (l : List Int) (a : Int), (∀ x ∈ l, 0 ≤ x ∧ x ≤ 1600) → 0 ≤ a → a + 1600 * (l.length : Int) ≤ 1000000000 → sumW l a = a + l.sum
 | [], a, _, _, _ => by simp [sumW]
 | x :: r, a, h, h0, h1 => by
  have hx := h x List.mem_cons_self
  rw [List.length_cons] at h1
  rw [sumW, w64 (by omega) (by omega), sumW_eq r (a + x) (fun y hy => h y (List.mem_cons_of_mem _ hy)) (by omega) (by omega), List.sum_cons]
  omega
theorem sum_le (l : List Int) : (∀ x ∈ l, (0 : Int) ≤ x ∧ x ≤ 1600) → 0 ≤ l.sum ∧ l.sum ≤ 1600 * (l.length : Int) := by
 induction l with
 | nil => intro _; simp
 | cons x r ih =>
  intro h
  have hx := h x List.mem_cons_self
  have := ih (fun y hy => h y (List.mem_cons_of_mem _ hy))
  rw [List.sum_cons, List.length_cons]
  omega
theorem bod_mono (rs : List Int) (fr : Nat) : ∀ (d t : Nat), fr ≤ t → bodV rs fr t ≤ bodV rs fr (t + d)
 | 0, t, _ => Nat.le_refl _
 | d + 1, t, h => by
  refine Nat.le_trans (bod_mono rs fr d t h) ?_
  show bodV rs fr (t + d) ≤ bodV rs fr (t + d + 1)
  have := bodV_le rs fr (t + d) (by omega)
  rw [bodV.eq_2]
  rw [if_pos (by omega)]
  split <;> omega
theorem take_mono (ws : List Int) (fr : Nat) (h : ∀ x ∈ ws, (0 : Int) ≤ x ∧ x ≤ 1600) : ∀ (d b : Nat), fr ≤ b → ((ws.take b).drop fr).sum ≤ ((ws.take (b + d)).drop fr).sum
 | 0, b, _ => Int.le_refl _
 | d + 1, b, hb => by
  refine Int.le_trans (take_mono ws fr h d b hb) ?_
  rw [show b + (d + 1) = (b + d) + 1 from rfl]
  by_cases hl : b + d < ws.length
  ·
   rw [List.take_add_one, List.getElem?_eq_getElem hl, List.drop_append_of_le_length (by rw [List.length_take]; omega), List.sum_append]
   have := h ws[b + d] (List.getElem_mem hl)
   simp
   omega
  ·
   rw [List.take_of_length_le (by omega), List.take_of_length_le (by omega)]
   exact Int.le_refl _
end Go.Proofs.YtmcdcogedcbndaaGreat.Pure
/- FillLines by both texts. -/
namespace Go.Proofs.YtmcdcogedcbndaaGreat.Pure
open Go.RowKit Go.Proofs.YtmcdcogedcbndaaGreat.S Go.Proofs.YtmcdcogedcbndaaGreatW.PrintWords Go.Proofs.YtmcdcogedcbndaaGreatW.PrintLast
def WV (rs ws : List Int) : Nat → Nat → Int := fun i j => if i ≤ j ∧ j ≤ rs.length then lwV rs ws i j else 0
def JV (rs : List Int) : Nat → Bool := fun i => if 0 < i ∧ i < rs.length then jV rs i else false
def MV (bs : List Int) : Nat → Nat := fun i => if i < bs.length then mustV bs bs.length i else 0
theorem ws_small {rs : List Int} {sp : List Sp} (h : SpB sp) : ∀ x ∈ wsV rs sp, 0 ≤ x ∧ x ≤ 1600 := by
 intro x hx
 unfold wsV at hx
 obtain ⟨i, _, rfl⟩ := List.mem_map.mp hx
 exact wdV_le h rs i
theorem lw_sum {rs ws : List Int} (hw : ∀ x ∈ ws, 0 ≤ x ∧ x ≤ 1600) (hl : ws.length = rs.length) (hn : rs.length ≤ 80) {i j : Nat} (hij : i ≤ j) (hj : j ≤ rs.length) : lwV rs ws i j = ((ws.take (bodV rs i j)).drop i).sum ∧ 0 ≤ lwV rs ws i j ∧ lwV rs ws i j ≤ 128000 := by
 have hm : ∀ x ∈ (ws.take (bodV rs i j)).drop i, 0 ≤ x ∧ x ≤ 1600 := fun x hx => hw x (List.mem_of_mem_take (List.mem_of_mem_drop hx))
 have hb := bodV_le rs i j hij
 have hle : ((ws.take (bodV rs i j)).drop i).length ≤ 80 := by
  rw [List.length_drop, List.length_take]
  omega
 have e : lwV rs ws i j = ((ws.take (bodV rs i j)).drop i).sum := by
  unfold lwV
  rw [sumW_eq _ 0 hm (Int.le_refl _) (by omega), Int.zero_add]
 have := sum_le _ hm
 rw [e]
 exact ⟨rfl, this.1, by omega⟩
theorem lw_mono {rs ws : List Int} (hw : ∀ x ∈ ws, 0 ≤ x ∧ x ≤ 1600) (hl : ws.length = rs.length) (hn : rs.length ≤ 80) {i j t : Nat} (hij : i ≤ j) (hjt : j ≤ t) (ht : t ≤ rs.length) : lwV rs ws i j ≤ lwV rs ws i t := by
 rw [(lw_sum hw hl hn hij (by omega)).1, (lw_sum hw hl hn (Nat.le_trans hij hjt) ht).1]
 have h1 := bod_mono rs i (t - j) j hij
 rw [show j + (t - j) = t by omega] at h1
 have h2 := take_mono ws i hw (bodV rs i t - bodV rs i j) (bodV rs i j) (bodV_le rs i j hij).1
 rwa [show bodV rs i j + (bodV rs i t - bodV rs i j) = bodV rs i t by omega] at h2
theorem WV_is (rs ws : List Int) {i j : Nat} (h1 : i ≤ j) (h2 : j ≤ rs.length) : WV rs ws i j = lwV rs ws i j := if_pos ⟨h1, h2⟩
theorem fit_mono {rs ws : List Int} {wide : Int} (hw : ∀ x ∈ ws, 0 ≤ x ∧ x ≤ 1600) (hl : ws.length = rs.length) (hn : rs.length ≤ 80) (fr i j : Nat) (h1 : fr < i) (h2 : i ≤ j) (h3 : j ≤ rs.length) (h : fitV (WV rs ws) wide fr j = true) : fitV (WV rs ws) wide fr i = true := by
 unfold fitV at h ⊢
 rw [decide_eq_true_eq, WV_is rs ws (by omega) (by omega)] at h ⊢
 exact Int.le_trans (lw_mono hw hl hn (by omega) h2 h3) h
theorem wide_near {rs ws : List Int} {wide : Int} (hw : ∀ x ∈ ws, 0 ≤ x ∧ x ≤ 1600) (hl : ws.length = rs.length) (hn : rs.length ≤ 80) (h0 : 0 ≤ wide ∧ wide ≤ 20000) {i j : Nat} (h1 : i ≤ j) (h2 : j ≤ rs.length) : (wide - WV rs ws i j).natAbs ≤ 148000 := by
 rw [WV_is rs ws h1 h2]
 have := lw_sum hw hl hn h1 h2
 omega
theorem cost_near {rs ws bs : List Int} {wide : Int} (hw : ∀ x ∈ ws, 0 ≤ x ∧ x ≤ 1600) (hl : ws.length = rs.length) (hn : rs.length ≤ 80) (h0 : 0 ≤ wide ∧ wide ≤ 20000) {i j : Nat} (h1 : i ≤ j) (h2 : j ≤ rs.length) : 0 ≤ costV bs (WV rs ws) wide i j ∧ costV bs (WV rs ws) wide i j ≤ 100000000000 := by
 have h := wide_near hw hl hn h0 h1 h2
 unfold costV
 split
 · omega
 ·
  obtain ⟨d, hd⟩ : ∃ d, wide - WV rs ws i j = d := ⟨_, rfl⟩
  rw [hd] at h ⊢
  have e := Int.natAbs_mul_self (a := d)
  have h3 := Nat.mul_le_mul h h
  omega
theorem must_ok {rs : List Int} {i : Nat} (hi : i < rs.length) : i < mustV (bsV rs) rs.length i ∧ mustV (bsV rs) rs.length i ≤ rs.length ∧ (bsV rs).getD (mustV (bsV rs) rs.length i - 1) 0 = 2 := by
 have h := must_is (bsV rs) rs.length ((bsV rs).length - i) i ⟨rs.length - 1, by omega, by rw [bsV_len]; omega, bs_last (by omega)⟩
 rw [bsV_len, show i + (rs.length - i) = rs.length by omega] at h
 unfold mustV
 rw [bsV_len]
 exact h
theorem MV_is {rs : List Int} {i : Nat} (hi : i < rs.length) : MV (bsV rs) i = mustV (bsV rs) rs.length i := by
 unfold MV
 rw [bsV_len, if_pos hi]
def eB (rs : List Int) (i : Nat) : Bool := decide (i = rs.length) || !jAt rs i
theorem ends_is (rs : List Int) : endsL (eB rs) rs.length = stsV rs ++ [(rs.length : Int)] := by
 unfold endsL stsV
 rw [List.range_succ, List.filter_append, List.map_append]
 congr 1
 ·
  congr 1
  refine List.filter_congr (fun x hx => ?_)
  have := List.mem_range.mp hx
  unfold eB
  rw [decide_eq_false (show ¬ x = rs.length by omega), Bool.false_or]
 ·
  rw [List.filter_cons_of_pos (by unfold eB; rw [decide_eq_true rfl, Bool.true_or])]
  rfl
theorem next_eq {rs ws : List Int} {wide : Int} (hw : ∀ x ∈ ws, 0 ≤ x ∧ x ≤ 1600) (hl : ws.length = rs.length) (hn : rs.length ≤ 80) {i : Nat} (hi : i < rs.length) :
  nextI (bsV rs) (fitV (WV rs ws) wide) (stsV rs ++ [(rs.length : Int)]) i (mustV (bsV rs) rs.length i) = some (nextV (bsV rs) (fitV (WV rs ws) wide) (JV rs) rs.length i) ∧ (i : Int) < nextV (bsV rs) (fitV (WV rs ws) wide) (JV rs) rs.length i ∧ nextV (bsV rs) (fitV (WV rs ws) wide) (JV rs) rs.length i ≤ (rs.length : Int) := by
 obtain ⟨m1, m2, m3⟩ := must_ok hi
 rw [← ends_is]
 refine next_is (bsV rs) (fitV (WV rs ws) wide) (JV rs) (eB rs) rs.length i hi (fun j h1 h2 => ?_) (fun a b h1 h2 h3 h4 => fit_mono hw hl hn i a b h1 h2 h3 h4) m1 m2 (by rw [m3]; decide) ?_
 ·
  unfold eB JV jAt
  by_cases hj : j = rs.length
  ·
   rw [decide_eq_true hj, Bool.true_or]
   exact ⟨fun _ h => (by omega), fun _ => rfl⟩
  ·
   rw [decide_eq_false hj, Bool.false_or, if_neg (by omega), if_pos ⟨by omega, by omega⟩]
   cases jV rs j
   · exact ⟨fun _ h => (by cases h.2), fun _ => rfl⟩
   · exact ⟨fun h => (by cases h), fun h => absurd ⟨by omega, rfl⟩ h⟩
 ·
  unfold eB
  by_cases hm : mustV (bsV rs) rs.length i = rs.length
  · rw [decide_eq_true hm, Bool.true_or]
  ·
   rw [bsV_get (by omega), brV] at m3
   rw [if_neg (by omega), show mustV (bsV rs) rs.length i - 1 + 1 = mustV (bsV rs) rs.length i by omega] at m3
   cases hjv : jV rs (mustV (bsV rs) rs.length i)
   ·
    unfold jAt
    rw [if_neg (by omega), hjv]
    simp
   ·
    rw [hjv, if_pos rfl] at m3
    cases m3
theorem tabs_s {rs ws : List Int} {k : Nat} (hn : rs.length ≤ 80) (hl : ws.length = rs.length) (hk : 2000 ≤ k) : okWS k rs ws ∧ tabWS k rs ws = WV rs ws ∧ okJS k rs ∧ tabJS k rs = JV rs := by
 have e : ∀ i j : Nat, i ≤ j → j ≤ rs.length → spec_l7Wide.f k rs ws (i : Int) (j : Int) = some (lwV rs ws i j) := fun i j h1 h2 => lineS_p (by omega) hl h1 h2 (by omega)
 have e2 : ∀ i : Nat, 0 < i → i < rs.length → spec_l2Joins.f k rs (i : Int) = some (jV rs i) := fun i h1 h2 => join_s (by omega) h1 h2 (by omega)
 refine ⟨fun j hj i hi => by rw [e i j hi hj]; rfl, ?_, fun i hi h0 => by rw [e2 i h0 hi]; rfl, ?_⟩
 ·
  funext i j
  unfold tabWS WV
  split
  ·
   rename_i h
   rw [e i j h.1 h.2]
   rfl
  · rfl
 ·
  funext i
  unfold tabJS JV
  split
  ·
   rename_i h
   rw [e2 i h.1 h.2]
   rfl
  · rfl
theorem tabs_i {rs ws : List Int} {k : Nat} (hn : rs.length ≤ 80) (hl : ws.length = rs.length) (hk : 2000 ≤ k) : okWI k rs ws ∧ tabWI k rs ws = WV rs ws ∧ okMI k (bsV rs) ∧ tabMI k (bsV rs) = MV (bsV rs) := by
 have e : ∀ i j : Nat, i ≤ j → j ≤ rs.length → impl_lineWide.f k rs ws (i : Int) (j : Int) = some (lwV rs ws i j) := fun i j h1 h2 => lineI_p (by omega) hl h1 h2 (by omega)
 have e2 : ∀ i : Nat, i < rs.length → ∃ x : Nat, slices_Index_int_int.f k ((bsV rs).drop i) 2 = some (x : Int) ∧ mustV (bsV rs) rs.length i = i + x + 1 := fun i h2 => by
  obtain ⟨x, h3, _, h4⟩ := idx_p (bs := bsV rs) (fr := i) (n := rs.length) (k := k) (by rw [bsV_len]; omega) (by rw [bsV_len]; omega) ⟨rs.length - 1, by omega, by rw [bsV_len]; omega, bs_last (by omega)⟩
  exact ⟨x, h3, h4⟩
 have e3 : tabMI k (bsV rs) = MV (bsV rs) := by
  funext i
  unfold tabMI MV
  split
  ·
   rename_i h
   rw [bsV_len] at h
   obtain ⟨x, h3, h4⟩ := e2 i h
   rw [h3, bsV_len, h4]
   simp only [Option.getD_some]
   omega
  · rfl
 refine ⟨fun j hj i hi => by rw [e i j hi hj]; rfl, ?_, fun i hi => ?_, e3⟩
 ·
  funext i j
  unfold tabWI WV
  split
  ·
   rename_i h
   rw [e i j h.1 h.2]
   rfl
  · rfl
 ·
  rw [bsV_len] at hi
  obtain ⟨x, h3, h4⟩ := e2 i hi
  rw [e3, MV_is hi, h3, bsV_len]
  exact ⟨rfl, by simp only [Option.getD_some]; omega, (must_ok hi).2.1⟩
theorem linesBoth {rs : List Int} {sp : List Sp} {wide mode : Int} {k : Nat} (hn : rs.length ≤ 1099511627776) (hs : sp.length ≤ 1099511627776) (hk : rs.length + sp.length + 3000 ≤ k) : ∃ r, spec_FillLines.f k rs sp wide mode = some r ∧ impl_FillLines.f k rs sp wide mode = some r ∧ r.length ≤ 1000 := by
 unfold spec_FillLines.f impl_FillLines.f
 rw [allS_p hn hs (by omega) (by omega), allI_p hs (by omega), Option.bind_some, Option.bind_some]
 cases hf : fillV rs sp wide
 ·
  rw [if_neg (by decide), if_neg (by decide)]
  exact ⟨[], rfl, rfl, by decide⟩
 obtain ⟨h1, h2, h3, _⟩ := fill_ok hf
 have h0 : 0 ≤ wide ∧ wide ≤ 20000 := by
  unfold fillV at hf
  rw [Bool.and_eq_true, Bool.and_eq_true, decide_eq_true_eq] at hf
  exact hf.2.2
 have hw := ws_small (rs := rs) h2
 have hl := wsV_len rs sp
 obtain ⟨ws, hws⟩ : ∃ ws, wsV rs sp = ws := ⟨_, rfl⟩
 rw [if_pos rfl, if_pos rfl, l1In_f, widesS_p h1 h2 (by omega), widesI_p h1 h2 (by omega) (by omega), breaksS_p h1 (by omega), breaksI_p h1 (by omega), starts_p (by omega) (by omega), Option.bind_some, Option.bind_some, Option.bind_some, Option.bind_some, Option.bind_some, Option.bind_some]
 rw [hws] at hw hl ⊢
 obtain ⟨s1, s2, s3, s4⟩ := tabs_s (rs := rs) (ws := ws) (k := k) h1 hl (by omega)
 obtain ⟨i1, i2, i3, i4⟩ := tabs_i (rs := rs) (ws := ws) (k := k) h1 hl (by omega)
 rw [if_pos s1, if_pos s3, if_pos i1, if_pos i3, s2, s4, i2, i4]
 have hM : ∀ i, i < rs.length → MV (bsV rs) i = mustV (bsV rs) rs.length i ∧ i < MV (bsV rs) i ∧ MV (bsV rs) i ≤ rs.length := fun i hi => by
  rw [MV_is hi]
  exact ⟨rfl, (must_ok hi).1, (must_ok hi).2.1⟩
 have hT := tab_rel (bsV rs) (fitV (WV rs ws) wide) (costV (bsV rs) (WV rs ws) wide) (MV (bsV rs)) rs.length hM (fun a e ha he => cost_near hw hl h1 h0 (by omega) he)
 have hNx : ∀ i, i < rs.length → nextI (bsV rs) (fitV (WV rs ws) wide) (stsV rs ++ [(rs.length : Int)]) i (MV (bsV rs) i) = some (nextV (bsV rs) (fitV (WV rs ws) wide) (JV rs) rs.length i) := fun i hi => by
  rw [MV_is hi]
  exact (next_eq hw hl h1 hi).1
 have hss : (stsV rs).length ≤ rs.length := by
  unfold stsV
  rw [List.length_map]
  exact Nat.le_trans (List.length_filter_le _ _) (by simp)
 have hokI : okI (bsV rs) (WV rs ws) (MV (bsV rs)) (stsV rs) wide rs.length := by
  refine ⟨by omega, bsV_len rs, by omega, fun t ht => ?_, fun j hj i hi => Nat.le_trans (wide_near hw hl h1 h0 hi hj) (by decide), fun j hj => ?_, fun i hi => by rw [hNx i hi]; rfl⟩
  ·
   unfold stsV at ht
   obtain ⟨i, hi, rfl⟩ := List.mem_map.mp ht
   have := List.mem_range.mp (List.mem_filter.mp hi).1
   have e : Int.ofNat i = (i : Int) := rfl
   omega
  ·
   by_cases hjn : j < rs.length
   ·
    obtain ⟨r1, r2, r3, r4, r5, r6⟩ := hT rs.length (Nat.le_refl _) j (by omega) hjn
    rw [r1]
    omega
   ·
    obtain rfl : j = rs.length := by omega
    rw [tabP_hi _ _ _ _ _ _ (Nat.le_refl _)]
    exact ⟨Int.le_refl _, by show (0 : Int) ≤ _; decide⟩
 have hokB : okB (bsV rs) (WV rs ws) wide rs.length := by
  refine ⟨fun j hj i hi => Nat.le_trans (wide_near hw hl h1 h0 hi hj) (by decide), fun d hd j hj => ?_⟩
  by_cases hjn : j < rs.length
  ·
   by_cases hjd : rs.length - d ≤ j
   ·
    obtain ⟨r1, r2, r3, r4, r5, r6⟩ := hT d hd j hjd hjn
    omega
   ·
    rw [tabB_lo _ _ _ _ d j (by omega)]
    exact ⟨Int.le_refl _, by show (0 : Int) ≤ _; decide⟩
  ·
   obtain rfl : j = rs.length := by omega
   rw [tabB_hi _ _ _ _ _ hd]
   exact ⟨Int.le_refl _, by show (0 : Int) ≤ _; decide⟩
 obtain ⟨g1, g2⟩ := greedy_rel rs.length (fun i => (nextI (bsV rs) (fitV (WV rs ws) wide) (stsV rs ++ [(rs.length : Int)]) i (MV (bsV rs) i)).getD 0) (nextV (bsV rs) (fitV (WV rs ws) wide) (JV rs) rs.length) (fun j hj => by rw [hNx j hj]; exact ⟨rfl, (next_eq hw hl h1 hj).2⟩) rs.length 0 (by omega)
 obtain ⟨o1, o2⟩ := out_rel rs.length _ _ (fun j hj => hT rs.length (Nat.le_refl _) j (by omega) hj) rs.length 0 (by omega)
 obtain ⟨gr, hgr⟩ := Option.isSome_iff_exists.mp g2
 obtain ⟨ob, hob⟩ := Option.isSome_iff_exists.mp o2
 unfold linesI linesO
 have hLO : rs.length ≤ 1000 ∧ (bsV rs).length = rs.length ∧ okB (bsV rs) (WV rs ws) wide rs.length := ⟨by omega, bsV_len rs, hokB⟩
 rw [if_pos hokI, if_pos hLO]
 unfold linesV
 rw [g1, o1, hgr, hob, Option.bind_some]
 have lg : gr.length ≤ 1000 := Nat.le_trans (greedyN_len _ _ _ _ _ hgr) (by omega)
 by_cases m0 : mode = 0
 ·
  rw [decide_eq_true (show 0 ≤ mode ∧ mode ≤ 1 by omega), if_pos rfl, if_neg (by omega), if_pos m0]
  exact ⟨gr, rfl, rfl, lg⟩
 ·
  by_cases m1 : mode = 1
  ·
   rw [decide_eq_true (show 0 ≤ mode ∧ mode ≤ 1 by omega), if_pos rfl, if_pos m1, if_neg m0, if_pos m1]
   cases ob with
   | none => exact ⟨gr, rfl, rfl, lg⟩
   | some l => exact ⟨l, rfl, rfl, Nat.le_trans (outB_len _ _ _ _ _ hob) (by omega)⟩
  ·
   rw [decide_eq_false (show ¬ (0 ≤ mode ∧ mode ≤ 1) by omega), if_neg (by decide), if_neg m0, if_neg m1]
   exact ⟨[], rfl, rfl, by decide⟩
end Go.Proofs.YtmcdcogedcbndaaGreat.Pure
/- What the laws' own helpers answer of spans: a copy, equality. -/
namespace Go.Proofs.YtmcdcogedcbndaaGreat.Pure
open Go.RowKit Go.Proofs.YtmcdcogedcbndaaGreat.S Go.Proofs.YtmcdcogedcbndaaGreatW.PrintWords Go.Proofs.YtmcdcogedcbndaaGreatW.PrintLast
abbrev SL := S52
abbrev SI := S50
def toSp (x : SL) : SI := ⟨x.f0, x.f1, x.f2, x.f3⟩
theorem rdSL_get {l : List SL} {i : Nat} (h : i < l.length) : rd_T52 l (i : Int) = l[i] := by simp [rd_T52, List.getD_eq_getElem?_getD, h]
theorem copySp_l (l : List SL) (hn : l.length ≤ 1099511627776) : ∀ (d k i : Nat), l.length - i = d → i ≤ l.length → d < k →
  laws_toSpanS.l0 k l ((l.take i).map toSp ++ List.replicate (l.length - i) z50) (i : Int) = some (l.map toSp)
 | 0, k, i, hd, hi, hk => by
  obtain ⟨k, rfl⟩ : ∃ m, k = m + 1 := ⟨k - 1, by omega⟩
  have e : i = l.length := by omega
  subst e
  rw [laws_toSpanS.l0, if_neg (by omega)]
  simp
 | d + 1, k, i, hd, hi, hk => by
  obtain ⟨k, rfl⟩ : ∃ m, k = m + 1 := ⟨k - 1, by omega⟩
  have hlt : i < l.length := by omega
  rw [laws_toSpanS.l0, if_pos (by omega), if_pos (by omega), rdSL_get hlt, laws_toSpan.f, Option.bind_some, if_pos (by simp; omega), w64 (by omega) (by omega), Int.toNat_natCast]
  have e : ((l.take i).map toSp ++ List.replicate (l.length - i) z50).set i (toSp l[i]) = (l.take (i + 1)).map toSp ++ List.replicate (l.length - (i + 1)) z50 := by
   rw [List.set_append_right _ _ (by simp; omega)]
   have h1 : i - ((l.take i).map toSp).length = 0 := by simp; omega
   rw [h1, show l.length - i = (l.length - (i + 1)) + 1 by omega, List.replicate_succ, List.set_cons_zero, List.take_succ_eq_append_getElem hlt, List.map_append, List.append_assoc]
   rfl
  have := copySp_l l hn d k (i + 1) (by omega) (by omega) (by omega)
  rw [← e] at this
  exact this
theorem copySp_p {l : List SL} {k : Nat} (hn : l.length ≤ 1099511627776) (hk : l.length < k) : laws_toSpanS.f k l = some (l.map toSp) := by
 unfold laws_toSpanS.f
 rw [if_pos (by omega), if_pos (by omega)]
 simpa using copySp_l l hn l.length k 0 (by omega) (by omega) hk
theorem eqSp_l (l : List SI) (hn : l.length ≤ 1099511627776) : ∀ (d k i : Nat), l.length - i = d → i ≤ l.length → d < k → laws_eqSpanS.l0 k l l (i : Int) = some true
 | 0, k, i, hd, hi, hk => by
  obtain ⟨k, rfl⟩ : ∃ m, k = m + 1 := ⟨k - 1, by omega⟩
  rw [laws_eqSpanS.l0, if_neg (by omega)]
 | d + 1, k, i, hd, hi, hk => by
  obtain ⟨k, rfl⟩ : ∃ m, k = m + 1 := ⟨k - 1, by omega⟩
  have := eqSp_l l hn d k (i + 1) (by omega) (by omega) (by omega)
  rw [laws_eqSpanS.l0, if_pos (by omega), if_pos (by omega), if_pos (by omega), laws_eqSpan.f, if_pos rfl, if_pos rfl, if_pos rfl, if_pos rfl, Option.bind_some, if_pos rfl, w64 (by omega) (by omega)]
  exact this
theorem eqSp_p {l : List SI} {k : Nat} (hn : l.length ≤ 1099511627776) (hk : l.length < k) : laws_eqSpanS.f k l l = some true := by
 unfold laws_eqSpanS.f
 rw [if_pos rfl]
 exact eqSp_l l hn l.length k 0 (by omega) (by omega) hk
end Go.Proofs.YtmcdcogedcbndaaGreat.Pure
/- The program's FillLines answers as the reference's, for every list of letters, of spans, every width and every way; it writes into no argument, and its answer is memory of its own. No condition beyond the statement's own. -/
namespace Go.Proofs.YtmcdcogedcbndaaGreat.Pure
open Go.RowKit Go.Proofs.YtmcdcogedcbndaaGreat.S Go.Proofs.YtmcdcogedcbndaaGreatW.PrintWords Go.Proofs.YtmcdcogedcbndaaGreatW.PrintLast
theorem markSp_l : ∀ (d k i : Nat) (l : List SI) (a : Int), l.length ≤ 1099511627776 → 0 ≤ a → a + 4 * d ≤ 1099511627776 * 16 → l.length - i = d → i ≤ l.length → d < k → ∃ l', laws_markSpanS.l0 k l a (i : Int) = some (a + 4 * d, l')
 | 0, k, i, l, a, hn, h0, h1, hd, hi, hk => by
  obtain ⟨k, rfl⟩ : ∃ m, k = m + 1 := ⟨k - 1, by omega⟩
  rw [laws_markSpanS.l0, if_neg (by omega)]
  exact ⟨l, by simp⟩
 | d + 1, k, i, l, a, hn, h0, h1, hd, hi, hk => by
  obtain ⟨k, rfl⟩ : ∃ m, k = m + 1 := ⟨k - 1, by omega⟩
  have c1 : (i : Int) < (l.length : Int) := by omega
  have c2 : (0 : Int) ≤ (i : Int) := by omega
  have s1 : 0 ≤ a + 1 + 1 + 1 + 1 := by omega
  have s2 : a + 1 + 1 + 1 + 1 + 4 * (d : Int) ≤ 1099511627776 * 16 := by omega
  have s3 : l.length - (i + 1) = d := by omega
  have s4 : i + 1 ≤ l.length := by omega
  have s5 : d < k := by omega
  have s6 : a + 1 + 1 + 1 + 1 + 4 * (d : Int) = a + 4 * ((d + 1 : Nat) : Int) := by omega
  have b1 : a + 1 + 1 + 1 + 1 ≤ 9223372036854775807 := by omega
  have b2 : (i : Int) + 1 ≤ 9223372036854775807 := by omega
  clear h1 hd hi hk
  have e1 : wrap64 (a + 1) = a + 1 := w64 (by omega) (by omega)
  have e2 : wrap64 (a + 1 + 1) = a + 1 + 1 := w64 (by omega) (by omega)
  have e3 : wrap64 (a + 1 + 1 + 1) = a + 1 + 1 + 1 := w64 (by omega) (by omega)
  have e4 : wrap64 (a + 1 + 1 + 1 + 1) = a + 1 + 1 + 1 + 1 := w64 (by omega) (by omega)
  have e6 : wrap64 ((i : Int) + 1) = ((i + 1 : Nat) : Int) := (w64 (by omega) b2).trans rfl
  rw [laws_markSpanS.l0, if_pos c1, if_pos c2, e1, e2, e3, e4, e6, Option.bind_some, Option.bind_some, Option.bind_some]
  exact Exists.imp (fun l' h => Eq.trans h (by rw [s6])) (markSp_l d k (i + 1) _ (a + 1 + 1 + 1 + 1) (by simp only [List.length_set]; exact hn) s1 s2 (by simp only [List.length_set]; exact s3) (by simp only [List.length_set]; exact s4) s5)
theorem markSp_p {l : List SI} {a : Int} {k : Nat} (hn : l.length ≤ 1099511627776) (h0 : 0 ≤ a) (h1 : a ≤ 1099511627776) (hk : l.length < k) : ∃ l', laws_markSpanS.f k l a = some (a + 4 * (l.length : Int), l') :=
 markSp_l l.length k 0 l a hn h0 (by omega) (by omega) (by omega) hk
theorem FnExactFillLines_p (l0 : List Int) (l1 : List SL) (a2 : Int) (a3 : Int) (hm0 : l0.length ≤ maxLen) (_ : ∀ n ∈ l0, (Lit.int .i64 n).wf = true) (hm1 : l1.length ≤ maxLen) (_ : (Lit.int .i64 a2).wf = true) (_ : (Lit.int .i64 a3).wf = true) :
  ∃ k, laws_FnExactFillLines.f k l0 l1 a2 a3 = some true := by
 unfold maxLen at hm0 hm1
 obtain ⟨m, hm⟩ : ∃ m, l0.length + l1.length + 5000 = m := ⟨_, rfl⟩
 refine ⟨m + 1, ?_⟩
 unfold laws_FnExactFillLines.f
 by_cases c0 : (l0.length : Int) > 1048576
 · rw [if_pos c0]
 rw [if_neg c0]
 unfold laws_szSpanS.f
 rw [w64 (by omega) (by omega)]
 by_cases c1 : (1048576 : Int) - l1.length < 0
 · rw [if_pos c1, Option.bind_some, if_pos (by decide)]
 rw [if_neg c1, Option.bind_some, if_neg c1]
 obtain ⟨r, hr1, hr2, hr3⟩ := linesBoth (rs := l0) (sp := l1.map toSp) (wide := a2) (mode := a3) (k := m) (by omega) (by rw [List.length_map]; omega) (by rw [List.length_map]; omega)
 have hr4 := impl_FillLines.mono _ _ _ _ _ _ hr2
 have hr5 := spec_FillLines.mono _ _ _ _ _ _ hr1
 have e0 : laws_toIntS.f (m + 1) l0 = some l0 := copy_p (by omega) (by omega)
 have e1 : laws_toSpanS.f (m + 1) l1 = some (l1.map toSp) := copySp_p (by omega) (by omega)
 have e2 : laws_toIntS.f m l0 = some l0 := copy_p (by omega) (by omega)
 have e3 : laws_toSpanS.f m l1 = some (l1.map toSp) := copySp_p (by omega) (by omega)
 have q0 : laws_eqIntS.f (m + 1) l0 l0 = some true := by rw [eq_p (by omega) (by omega), decide_eq_true rfl]
 have q1 : laws_eqSpanS.f (m + 1) (l1.map toSp) (l1.map toSp) = some true := eqSp_p (by rw [List.length_map]; omega) (by rw [List.length_map]; omega)
 have q2 : laws_eqIntS.f (m + 1) r r = some true := by rw [eq_p (by omega) (by omega), decide_eq_true rfl]
 have q3 : laws_eqIntS.f m r r = some true := by rw [eq_p (by omega) (by omega), decide_eq_true rfl]
 have g0 : laws_markIntS.f (m + 1) l0 1 = some (1 + (l0.length : Int), iota 1 l0.length) := mark_p (by omega) (by omega) (by omega) (by omega)
 obtain ⟨l2, g1⟩ := markSp_p (l := l1.map toSp) (a := 1 + (l0.length : Int)) (k := m + 1) (by rw [List.length_map]; omega) (by omega) (by omega) (by rw [List.length_map]; omega)
 have g2 : laws_markIntS.f m r 1 = some (1 + (r.length : Int), iota 1 r.length) := mark_p (by omega) (by omega) (by omega) (by omega)
 have g3 : laws_heldIntS.f m (iota 1 r.length) 1 = some (1 + (r.length : Int)) := held_p (by omega) (by omega) (by omega) (by omega)
 have n1 : ¬ (1 + (l0.length : Int) + 4 * ((l1.map toSp).length : Int) < 0) := by omega
 have n2 : ¬ (1 + (r.length : Int) < 0) := by omega
 have hj : laws_FnExactFillLines.j0 (m + 1) l0 l1 a2 a3 r r false = some true := by
  rw [laws_FnExactFillLines.j0, if_neg (by decide), g2, Option.bind_some]
  simp only [g3, Option.bind_some, if_neg n2, if_true, e2, e3, hr2, q3]
 simp only [e0, e1, Option.bind_some, hr4, hr5, q0, q1, q2, g0, g1, if_neg n1, if_true, Bool.not_true, hj]
end Go.Proofs.YtmcdcogedcbndaaGreat.Pure
