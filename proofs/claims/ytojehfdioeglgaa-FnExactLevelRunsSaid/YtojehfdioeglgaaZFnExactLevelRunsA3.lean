/- The program's LevelRuns answers as the reference's, for every list of whole numbers and every level at first; it writes into no argument and its answer is memory of its own, row by row. No condition beyond the statement's own. (text 4 of 5 of this claim: functions of the program and of the reference as plain Lean functions, what a call of each comes to, and what follows.) -/
import Derived.Test.YtojehfdioeglgaaZFnExactLevelRunsA2
/- The program's LevelRuns answers as the reference's, for every list of whole numbers and every level at first; it writes into no argument and its answer is memory of its own, row by row. No condition beyond the statement's own. -/
set_option maxHeartbeats 16000000
set_option maxRecDepth 100000
namespace Go.Proofs.Ytojehfdioeglgaa.Pure
open Go.RowKit Go.Proofs.Ytojehfdioeglgaa.S Go.Proofs.YtojehfdioeglgaaW.PrintWords Go.Proofs.YtojehfdioeglgaaW.PrintLast
theorem rdL_n (R : List (List Int)) (i : Nat) : rd_L1 R (i : Int) = R.getD i [] := by simp [rd_L1]
def marksR : Int → List (List Int) → List (List Int)
 | _, [] => []
 | a, l :: R => iota a l.length :: marksR (a + l.length) R
theorem marksR_len : ∀ (R : List (List Int)) (a : Int), (marksR a R).length = R.length
 | [], _ => rfl
 | l :: R, a => by rw [marksR, List.length_cons, List.length_cons, marksR_len R]
theorem markSS_p {k : Nat} (hk : 1000 < k) : ∀ (R : List (List Int)) (a : Int), 0 ≤ a → a + R.flatten.length ≤ 1000 → laws_markIntSS.f k R a = some (a + R.flatten.length, marksR a R)
 | [], a, _, _ => by
  rw [laws_markIntSS.f, marksR]
  simp
 | l :: R, a, h0, h1 => by
  rw [List.flatten_cons, List.length_append] at h1
  rw [laws_markIntSS.f, mark_p (by omega) (by omega) (by omega) (by omega), Option.bind_some, markSS_p hk R _ (by simp only; omega) (by simp only; omega), Option.bind_some, marksR, List.flatten_cons, List.length_append]
  simp only [Option.some.injEq, Prod.mk.injEq, and_true]
  omega
theorem eqSS_l (R : List (List Int)) (hn : R.length ≤ 1000) (hr : ∀ l ∈ R, l.length ≤ 20000) : ∀ (d k i : Nat), R.length - i = d → i ≤ R.length → d + 30000 < k → laws_eqIntSS.l0 k R R (i : Int) = some true
 | 0, k, i, hd, hi, hk => by
  obtain ⟨k, rfl⟩ : ∃ m, k = m + 1 := ⟨k - 1, by omega⟩
  rw [laws_eqIntSS.l0, if_neg (by omega)]
 | d + 1, k, i, hd, hi, hk => by
  obtain ⟨k, rfl⟩ : ∃ m, k = m + 1 := ⟨k - 1, by omega⟩
  have hlt : i < R.length := by omega
  have ih := eqSS_l R hn hr d k (i + 1) (by omega) (by omega) (by omega)
  have hm : R.getD i [] ∈ R := by
   rw [List.getD_eq_getElem?_getD, List.getElem?_eq_getElem hlt, Option.getD_some]
   exact List.getElem_mem _
  have h2 := hr _ hm
  rw [laws_eqIntSS.l0, if_pos (by omega), if_pos (by omega), if_pos (by omega), rdL_n, eq_p (by omega) (by omega), Option.bind_some, decide_eq_true rfl, if_pos rfl, w64 (by omega) (by omega), show ((i : Int) + 1) = ((i + 1 : Nat) : Int) by omega, ih]
theorem eqSS_p {R : List (List Int)} {k : Nat} (hn : R.length ≤ 1000) (hr : ∀ l ∈ R, l.length ≤ 20000) (hk : 40000 < k) : laws_eqIntSS.f k R R = some true := by
 unfold laws_eqIntSS.f
 have h := eqSS_l R hn hr R.length k 0 (by omega) (by omega) (by omega)
 rw [show ((0 : Nat) : Int) = 0 from rfl] at h
 rw [if_pos rfl]
 exact h
theorem heldSS_l {k0 : Nat} (hk0 : 1000 < k0) (D : List (List Int)) : ∀ (R : List (List Int)) (a : Int) (k : Nat) (P : List (List Int)), P.length = D.length → P.length + R.length ≤ 1000 → 0 ≤ a → a + R.flatten.length ≤ 1000 → k0 + R.length < k → laws_heldIntSS.l0 k (P ++ marksR a R) a (P.length : Int) = some (a + R.flatten.length)
 | [], a, k, P, hP, hl, h0, h1, hk => by
  obtain ⟨k, rfl⟩ : ∃ m, k = m + 1 := ⟨k - 1, by omega⟩
  rw [laws_heldIntSS.l0, marksR, List.append_nil, if_neg (by omega)]
  simp
 | l :: R, a, k, P, hP, hl, h0, h1, hk => by
  rw [List.flatten_cons, List.length_append] at h1
  simp only [List.length_cons] at hl hk
  obtain ⟨k, rfl⟩ : ∃ m, k = m + 1 := ⟨k - 1, by omega⟩
  have ih := heldSS_l hk0 (D ++ [[]]) R (a + l.length) k (P ++ [iota a l.length]) (by simp [hP]) (by simp; omega) (by omega) (by omega) (by omega)
  rw [List.append_assoc, List.singleton_append] at ih
  have hln : (P ++ marksR a (l :: R)).length = P.length + (R.length + 1) := by rw [List.length_append, marksR_len, List.length_cons]
  have hget : (P ++ marksR a (l :: R)).getD P.length [] = iota a l.length := by
   rw [List.getD_eq_getElem?_getD, List.getElem?_append_right (Nat.le_refl _), Nat.sub_self, marksR]
   rfl
  rw [laws_heldIntSS.l0, if_pos (by rw [hln]; omega), if_pos (by omega), rdL_n, hget, held_p (by omega) (by omega) (by omega) (by omega), Option.bind_some, if_neg (by omega), w64 (by omega) (by omega), show ((P.length : Int) + 1) = (((P ++ [iota a l.length]).length : Nat) : Int) by simp, marksR, ih, List.flatten_cons, List.length_append]
  congr 1
  omega
theorem FnExactLevelRuns_p (l : List Int) (b : Int) (_ : l.length ≤ maxLen) (_ : ∀ x ∈ l, (Lit.int .i64 x).wf = true) (_ : (Lit.int .i64 b).wf = true) : ∃ k, laws_FnExactLevelRuns.f k l b = some true := by
 refine ⟨3000000, ?_⟩
 unfold laws_FnExactLevelRuns.f
 by_cases h : (l.length : Int) > 1048576
 · rw [if_pos h]
 ·
  rw [if_neg h, copy_p (by omega) (by omega), Option.bind_some, specRuns_p (by omega) (by omega) (by omega), Option.bind_some, implRuns_p, Option.bind_some]
  obtain ⟨s1, s2⟩ := runs_small l b
  generalize runsV l b = R at s1 s2 ⊢
  have hrl : ∀ row ∈ R, row.length ≤ R.flatten.length := fun row hrow => (List.sublist_flatten_of_mem hrow).length_le
  have hh := heldSS_l (k0 := 2000) (by omega) [] R 1 3000000 [] rfl (by simp; omega) (by omega) (by omega) (by omega)
  rw [List.nil_append] at hh
  rw [eqSS_p (by omega) (fun row hrow => by have := hrl row hrow; omega) (by omega), Option.bind_some, eq_p (by omega) (by omega), Option.bind_some, mark_p (by omega) (by omega) (by omega) (by omega), Option.bind_some, markSS_p (by omega) R 1 (by omega) (by omega), Option.bind_some]
  unfold laws_heldIntSS.f
  simp only
  rw [show ((([] : List (List Int)).length : Nat) : Int) = 0 from rfl] at hh
  rw [hh, Option.bind_some]
  exact if_pos ⟨trivial, rfl, by omega, by omega, rfl, by omega⟩
end Go.Proofs.Ytojehfdioeglgaa.Pure
